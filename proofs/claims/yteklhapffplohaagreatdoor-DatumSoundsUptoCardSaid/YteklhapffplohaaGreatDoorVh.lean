/-
  What the methods of a strings.Builder do that the call itself has made: copyCheck, WriteString, WriteRune (String: the shelf's own). Conditions: the builder is one of the call's own, its length stays within 2^47 bytes. The reader's Builder: what it writes, and that the reader's other doings leave it alone. The fraction that the reader of numbers reads.
-/
import Derived.WalkKit
import Derived.WalkSpells
import Derived.WalkLawsBesides
import Derived.Handy
import Derived.Test.YteklhapffplohaaGreatDoorProg
import Derived.WideMake
import Derived.Carry
import Derived.Lib.Hide
import Derived.Test.YteklhapffplohaaGreatDoorShelfV
import Derived.Test.YteklhapffplohaaGreatDoorVd
import Derived.Test.YteklhapffplohaaGreatDoorVg
import Derived.Test.YteklhapffplohaaGreatDoorVa
set_option linter.unusedVariables false
set_option linter.unusedSimpArgs false
namespace Go.Proofs.YteklhapffplohaaGreatDoor
open Go.RowKit
theorem Bl.infoByte : (Tryz.prog.info? 5).map (fun i => (i.zero,i.size,i.bytes)) = some (some (.int .u8 0),1,1) := by kernel_rfl
theorem Bl.sizeBuilder : (Tryz.prog.info? 63).map (·.size) = some 2 := by kernel_rfl
theorem Bl.lies : liesAt Tryz.prog Tryz.prog.depth 63 (2 / Tryz.prog.cellsOf 63) 0 63 1 = true := by kernel_rfl
set_option maxHeartbeats 1000000
set_option maxRecDepth 100000
theorem Bl.copyCheck_used (b : Nat) (w : World) (h0 : w.cell? ⟨b,0,none⟩ = some (.pointer (some ⟨b,0,none⟩))) :
 Calls Tryz.prog 84 #[.pointer (some ⟨b,0,none⟩)] w fun e w' => e = .returned (.tuple #[]) ∧ w' = w := by
 obtain ⟨j,hj,_⟩ := Option.map_eq_some_iff.1 Bl.sizeBuilder
 go_enter Tryz.func84,Tryz.ntmps84
 go_wp2
 rw [Lib.run_neq_ptr_same w _ Tryz.underlying61 hj]
 go_wp2
 go_end0
 exact ⟨rfl,rfl⟩
theorem Bl.copyCheck_fresh (b : Nat) (w : World) (h0 : w.cell? ⟨b,0,none⟩ = some (.pointer none)) (hsh : w.shape? b = some (63,2)) (hfz : w.frozen? ⟨b,0,none⟩ = false) :
 Calls Tryz.prog 84 #[.pointer (some ⟨b,0,none⟩)] w fun e w' => e = .returned (.tuple #[]) ∧ w' = w.setCell ⟨b,0,none⟩ (.pointer (some ⟨b,0,none⟩)) := by
 obtain ⟨j,hj,hjs⟩ := Option.map_eq_some_iff.1 Bl.sizeBuilder
 go_enter Tryz.func84,Tryz.ntmps84
 go_wp2
 rw [Lib.run_to_unsafe w ⟨b,0,none⟩ Tryz.underlying61 Tryz.underlying135 hj (by rw [hjs]; decide) hsh (Nat.zero_lt_succ 1)]
 simp only [Result.andThen]
 rw [Oper.upon_value]
 go_wp2
 rw [run_callFunc_extern Tryz.func114 (by kernel_rfl) (by kernel_rfl) (by kernel_rfl) (e := Extern.AbiNoEscape.same) (by kernel_rfl)]
 rw [Lib.run_noEscape]
 simp only [Result.andThen]
 rw [Oper.upon_value]
 go_wp2
 rw [Lib.run_from_unsafe w ⟨b,0,none⟩ Tryz.underlying135 Tryz.underlying61 hj hsh Bl.lies]
 simp only [Result.andThen]
 rw [Oper.upon_value]
 go_wp2
 go_end0
 exact ⟨rfl,rfl⟩
set_option maxHeartbeats 200000
set_option maxRecDepth 512
theorem Bl.copyCheck (B b : Nat) (bs : List Value) (w : World) (h : Lib.IsBuilderF 63 5 B b bs w) :
 Calls Tryz.prog 84 #[.pointer (some ⟨b,0,none⟩)] w fun e w' => e = .returned (.tuple #[]) ∧ (Lib.BuilderAtF 63 5 B b (.pointer (some ⟨b,0,none⟩)) bs w' ∧ Below B w w' ∧ Lib.OthersKept 5 (some b) w w') := by
 rcases h with h | h
 · refine (Bl.copyCheck_fresh b w h.cell0 h.shape h.frozen0).mono ?_;rintro e w' ⟨rfl,rfl⟩;exact ⟨rfl,h.used _,(Below.refl B w).setCell (p := ⟨b,0,none⟩) h.1 _,(Lib.OthersKept.refl _ _ w).setCell ⟨b,0,none⟩ rfl _⟩
 · refine (Bl.copyCheck_used b w h.cell0).mono ?_;rintro e w' ⟨rfl,rfl⟩;exact ⟨rfl,h,Below.refl B _,Lib.OthersKept.refl _ _ _⟩
set_option maxHeartbeats 2000000
set_option maxRecDepth 100000
theorem Bl.writeString (B b : Nat) (bs : List Value) (s : ByteArray) (w : World) (h : Lib.IsBuilderF 63 5 B b bs w) (hlen : bs.length + s.size ≤ 140737488355328) (hBw : B ≤ w.heap.size) :
 Calls Tryz.prog 56 #[.pointer (some ⟨b,0,none⟩),.string s] w fun e w' => e = .returned (.tuple #[.int .i64 s.size,.nilIface]) ∧ (Lib.BuilderAtF 63 5 B b (.pointer (some ⟨b,0,none⟩)) (bs ++ Lib.strCells s) w' ∧ Below B w w' ∧ Lib.OthersKept 5 (some b) w w') := by
 obtain ⟨i0,hi,hz0,hz1,hz2⟩ := info_parts Bl.infoByte
 go_enter Tryz.func56,Tryz.ntmps56
 go_wp2_with (go_at_call 84; refine (Bl.copyCheck B b bs _ h).mono ?_)
 rintro e w1 ⟨rfl,h1,hb1,hk1⟩
 obtain ⟨hB,v,hbk,hown,hne⟩ := h1
 have c0 : w1.cell? ⟨b,0,none⟩ = some (.pointer (some ⟨b,0,none⟩)) := by rw [Lib.cell_of_heap hbk]; rfl
 have c1 : w1.cell? ⟨b,1,none⟩ = some v := by rw [Lib.cell_of_heap hbk]; rfl
 go_wp2_with (at_builtin; refine Lib.wpList_append_own_stringF _ rfl _ _ 27 9 rfl B 5 i0 Tryz.underlying27 Tryz.underlying9 hi hz0 hz1 hz2 _ _ _ rfl hown s rfl ?c3 ?c4 ?c5 ?_)
 case c3 => unfold maxLen; omega
 case c4 => omega
 case c5 => have := hb1.size; omega
 intro v' w2 hown' hgrow _
 have hlt : b < w1.heap.size := by
  rcases Nat.lt_or_ge b w1.heap.size with h' | h'
  · exact h'
  · simp [Array.getElem?_eq_none h'] at hbk
 have hb2 : w2.heap[b]? = some (.cells #[.pointer (some ⟨b,0,none⟩),v] 63 (0,0)) := by
  rw [hgrow.block b hlt (fun e => hne e.symm)];exact hbk
 have d0 : w2.cell? ⟨b,0,none⟩ = some (.pointer (some ⟨b,0,none⟩)) := by rw [Lib.cell_of_heap hb2]; rfl
 have d1 : w2.cell? ⟨b,1,none⟩ = some v := by rw [Lib.cell_of_heap hb2]; rfl
 have f1 : w2.frozen? ⟨b,1,none⟩ = false := Lib.frozen_of_heap hb2 1
 obtain ⟨ao,n',cap,rfl⟩ : ∃ ao n' cap,v' = .slice ao n' cap := by
  rcases hown'.2 with ⟨hv,_⟩ | ⟨g,cap,cur,fz,hv,_⟩
  · exact ⟨_,_,_,hv⟩
  · exact ⟨_,_,_,hv⟩
 go_wp2
 go_ret2
 refine ⟨rfl,?_,?_,(hk1.grown hgrow (Lib.ownsRowF_kind hown)).setCell ⟨b,1,none⟩ rfl _⟩
 · exact Lib.BuilderAtF.put (T := 63) (e := 5) hB hb2 (bs' := bs ++ Lib.strCells s) (by simpa [Lib.strCells_length] using hown') (by decide)
 · exact (hb1.grown hgrow (by have := hb1.size; omega) (fun k hk => (hown.lt k hk).1)).setCell (p := ⟨b,1,none⟩) hB _
set_option maxHeartbeats 4000000
theorem Bl.writeRune (B b : Nat) (bs : List Value) (r : Int) (hr0 : -2147483648 ≤ r) (hr1 : r ≤ 2147483647) (w : World) (h : Lib.IsBuilderF 63 5 B b bs w) (hlen : bs.length + 4 ≤ 140737488355328) (hBw : B ≤ w.heap.size) :
 Calls Tryz.prog 67 #[.pointer (some ⟨b,0,none⟩),.int .i32 r] w fun e w' => e = .returned (.tuple #[.int .i64 (Lib.runeCells r).length,.nilIface]) ∧ (Lib.BuilderAtF 63 5 B b (.pointer (some ⟨b,0,none⟩)) (bs ++ Lib.runeCells r) w' ∧ Below B w w' ∧ Lib.OthersKept 5 (some b) w w') := by
 have hk4 := Lib.runeCells_le r
 go_enter Tryz.func67,Tryz.ntmps67
 go_wp2_with (go_at_call 84; refine (Bl.copyCheck B b bs _ h).mono ?_)
 rintro e w1 ⟨rfl,h1,hb1,hk1⟩
 obtain ⟨hB,v,hbk,hown,hne⟩ := h1
 obtain ⟨ao,cap,rfl⟩ : ∃ ao cap,v = .slice ao bs.length cap := by
  rcases hown.2 with ⟨hv,h0⟩ | ⟨g,cap,cur,fz,hv,_⟩
  · exact ⟨none,0,by rw [hv,h0]⟩
  · exact ⟨_,_,hv⟩
 have c0 : w1.cell? ⟨b,0,none⟩ = some (.pointer (some ⟨b,0,none⟩)) := by rw [Lib.cell_of_heap hbk]; rfl
 have c1 : w1.cell? ⟨b,1,none⟩ = some (.slice ao bs.length cap) := by rw [Lib.cell_of_heap hbk]; rfl
 go_wp2_with (go_at_call 94; refine (Tryz.utf8_AppendRune_row B _ bs.length bs r hr0 hr1 _ hown hlen (by have := hb1.size; omega)).mono ?_)
 rintro e w2 ⟨v',rfl,hown',o,hgrow⟩
 have hlt : b < w1.heap.size := by
  rcases Nat.lt_or_ge b w1.heap.size with h' | h'
  · exact h'
  · simp [Array.getElem?_eq_none h'] at hbk
 have hb2 : w2.heap[b]? = some (.cells #[.pointer (some ⟨b,0,none⟩),.slice ao bs.length cap] 63 (0,0)) := by
  rw [hgrow.block b (by simp; omega) (fun e => hne e.symm),Lib.alloc_old w1 _ b hlt];exact hbk
 have d0 : w2.cell? ⟨b,0,none⟩ = some (.pointer (some ⟨b,0,none⟩)) := by rw [Lib.cell_of_heap hb2]; rfl
 have d1 : w2.cell? ⟨b,1,none⟩ = some (.slice ao bs.length cap) := by rw [Lib.cell_of_heap hb2]; rfl
 have f1 : w2.frozen? ⟨b,1,none⟩ = false := Lib.frozen_of_heap hb2 1
 obtain ⟨g,cap',rfl⟩ : ∃ g cap',v' = .slice (some ⟨g,0,none⟩) (bs.length + (Lib.runeCells r).length) cap' := by
  rcases hown'.2 with ⟨_,h0⟩ | ⟨g,cap',cur,fz,hv,_⟩
  · omega
  · exact ⟨g,cap',hv⟩
 go_wp2
 go_ret2
 refine ⟨?_,?_,?_,((hk1.alloc _).grown hgrow (Lib.ownsRowF_kind (hown.alloc _))).setCell ⟨b,1,none⟩ rfl _⟩
 · have e : ((bs.length : Int) + ((Lib.runeCells r).length : Int) - (bs.length : Int)) = ((Lib.runeCells r).length : Int) := by omega
   simp [e]
 · exact Lib.BuilderAtF.put (T := 63) (e := 5) hB hb2 (bs' := bs ++ Lib.runeCells r) (by simpa using hown') (by decide)
 · exact ((hb1.alloc (by have := hb1.size; omega) _).grown hgrow (by have := hb1.size; simp; omega) (fun k hk => (hown.lt k hk).1)).setCell (p := ⟨b,1,none⟩) hB _
set_option maxHeartbeats 2000000
theorem Bl.writeByte (B b : Nat) (bs : List Value) (c : Int) (w : World) (h : Lib.IsBuilderF 63 5 B b bs w) (hlen : bs.length + 1 ≤ 140737488355328) (hBw : B ≤ w.heap.size) :
 Calls Tryz.prog 61 #[.pointer (some ⟨b,0,none⟩),.int .u8 c] w fun e w' => e = .returned .nilIface ∧ (Lib.BuilderAtF 63 5 B b (.pointer (some ⟨b,0,none⟩)) (bs ++ [.int .u8 c]) w' ∧ Below B w w') := by
 obtain ⟨i0,hi,hz0,hz1,hz2⟩ := info_parts Bl.infoByte
 go_enter Tryz.func61,Tryz.ntmps61
 go_wp2_with (go_at_call 84; refine (Bl.copyCheck B b bs _ h).mono ?_)
 rintro e w1 ⟨rfl,h1,hb1,hk1⟩
 obtain ⟨hB,v,hbk,hown,hne⟩ := h1
 have c0 : w1.cell? ⟨b,0,none⟩ = some (.pointer (some ⟨b,0,none⟩)) := by rw [Lib.cell_of_heap hbk]; rfl
 have c1 : w1.cell? ⟨b,1,none⟩ = some v := by rw [Lib.cell_of_heap hbk]; rfl
 go_wp2_with (at_builtin; refine wpList_append_ownF _ rfl _ _ 27 rfl B 5 i0 (.int .u8 0) 1 1 Tryz.underlying27 hi hz0 hz1 hz2 rfl (by decide) _ _ _ rfl (hown.alloc _) ⟨w1.heap.size,0,none⟩ 1 1 [.int .u8 c] rfl rfl ?c1 ?c2 ?c3 ?c4 ?c5 ?_)
 case c1 =>
  intro j u hj
  match j,hj with
  | 0,hj => simp at hj; subst hj; simp [Addr.add]
 case c2 => intro u hu; simp at hu; subst hu; rfl
 case c3 => unfold maxLen; omega
 case c4 => omega
 case c5 => have := hb1.size; simp; omega
 intro v' w2 hown' hgrow _
 have hlt : b < w1.heap.size := (Array.getElem?_eq_some_iff.1 hbk).1
 have hb2 : w2.heap[b]? = some (.cells #[.pointer (some ⟨b,0,none⟩),v] 63 (0,0)) := by
  rw [hgrow.block b (by simp; omega) (fun e => hne e.symm),Lib.alloc_old w1 _ b hlt];exact hbk
 have d0 : w2.cell? ⟨b,0,none⟩ = some (.pointer (some ⟨b,0,none⟩)) := by rw [Lib.cell_of_heap hb2]; rfl
 have d1 : w2.cell? ⟨b,1,none⟩ = some v := by rw [Lib.cell_of_heap hb2]; rfl
 have f1 : w2.frozen? ⟨b,1,none⟩ = false := Lib.frozen_of_heap hb2 1
 obtain ⟨g,cap,rfl⟩ : ∃ g cap,v' = .slice (some ⟨g,0,none⟩) (bs.length + 1) cap := by
  rcases hown'.2 with ⟨_,h0⟩ | ⟨g,cap,cur,fz,hv,_⟩
  · omega
  · exact ⟨g,cap,hv⟩
 go_wp2
 go_ret
 refine ⟨rfl,?_,?_⟩
 · exact Lib.BuilderAtF.put (T := 63) (e := 5) hB hb2 (bs' := bs ++ [.int .u8 c]) (by simpa using hown') (by decide)
 · exact ((hb1.alloc (by have := hb1.size; omega) _).grown hgrow (by have := hb1.size; simp; omega) (fun k hk => (hown.lt k hk).1)).setCell (p := ⟨b,1,none⟩) hB _
def Dr.Bu (B k : Nat) (bs : List UInt8) (w : World) : Prop := Lib.IsBuilderF 63 5 B k (Lib.byteCells bs) w ∧ B ≤ w.heap.size
set_option maxHeartbeats 200000
set_option maxRecDepth 512
theorem Dr.Bu.fresh (w : World) : Dr.Bu w.heap.size w.heap.size [] (w.alloc (.cells #[.pointer none,.slice none 0 0] 63)) :=
 ⟨.inl ⟨Nat.le_refl _,.slice none 0 0,heap_alloc_new w _,World.ownsRowF_of (World.ownsRow_nil _ _ _ _),by simp [Value.ownBlock]⟩,by simp⟩
theorem Dr.Bu.kept {B k b : Nat} {bs : List UInt8} {w w' : World} (h : Dr.Bu B k bs w) (hk : Dr.Kept b w w') (hb : b < B) : Dr.Bu B k bs w' := by
 obtain ⟨h,hB⟩ := h;have go : ∀ p,Lib.BuilderAtF 63 5 B k p (Lib.byteCells bs) w → Lib.BuilderAtF 63 5 B k p (Lib.byteCells bs) w' := fun p hp => by
  obtain ⟨h1,v,h2,h3,h4⟩ := hp;have hlt : k < w.heap.size := (Array.getElem?_eq_some_iff.1 h2).1;refine ⟨h1,v,(hk.block k hlt (by omega)).trans h2,h3.kept (row := some b) ⟨hk.os,hk.tape,hk.output,hk.size,fun q hq hne => hk.block q hq (fun e => hne (by rw [e]))⟩ ?_,h4⟩;cases hv : v.ownBlock with
  | none => exact .inl rfl
  | some q =>
    refine .inr (fun e => ?_);have := (h3.lt q hv).1;cases e;omega
 exact ⟨h.imp (go _) (go _),Nat.le_trans hB hk.size⟩
theorem Dr.Kept.belowB {b : Nat} {w w1 w2 : World} (h : Dr.Kept b w w1) (hb : Below w.heap.size w1 w2) : Dr.Kept b w w2 :=
 ⟨hb.os.trans h.os,hb.tape.trans h.tape,hb.output.trans h.output,Nat.le_trans h.size hb.size,fun q hq hne => (hb.block q hq).trans (h.block q hq hne)⟩
theorem Dr.At.belowB {b B : Nat} {S : ByteArray} {l : List UInt8} {g : Bool} {w w' : World} (h : Dr.At b S l g w) (hb : Below B w w') (hB : b < B) : Dr.At b S l g w' := ⟨(hb.block b hB).trans h.blk,h.suf,h.le⟩
theorem Dr.Bu.rune {B k : Nat} {bs : List UInt8} {w : World} (h : Dr.Bu B k bs w) (r : Int) (hr : Ru.okR r) (hl : bs.length ≤ 4194304) :
 Calls Tryz.prog 67 #[.pointer (some ⟨k,0,none⟩),.int .i32 r] w fun e w' => ∃ n : Int,e = .returned (.tuple #[.int .i64 n,.nilIface]) ∧ Dr.Bu B k (bs ++ Lib.encodeRune r) w' ∧ Below B w w' := by
 refine (Bl.writeRune B k (Lib.byteCells bs) r (by unfold Ru.okR at hr; omega) (by unfold Ru.okR at hr; omega) w h.1 (by simp [Lib.byteCells]; omega) h.2).mono ?_
 rintro e w' ⟨rfl,h1,h2,_⟩
 refine ⟨_,rfl,⟨.inr ?_,Nat.le_trans h.2 h2.size⟩,h2⟩
 rw [Lib.byteCells_append,Lib.byteCells_encodeRune]
 exact h1
theorem Dr.Bu.byte {B k : Nat} {bs : List UInt8} {w : World} (h : Dr.Bu B k bs w) (c : UInt8) (hl : bs.length ≤ 4194304) :
 Calls Tryz.prog 61 #[.pointer (some ⟨k,0,none⟩),.int .u8 (c.toNat : Int)] w fun e w' => e = .returned .nilIface ∧ Dr.Bu B k (bs ++ [c]) w' ∧ Below B w w' := by
 refine (Bl.writeByte B k (Lib.byteCells bs) (c.toNat : Int) w h.1 (by simp [Lib.byteCells]; omega) h.2).mono ?_
 rintro e w' ⟨rfl,h1,h2⟩
 refine ⟨rfl,⟨.inr ?_,Nat.le_trans h.2 h2.size⟩,h2⟩
 rw [Lib.byteCells_append]
 exact h1
theorem Dr.Bu.str {B k : Nat} {bs : List UInt8} {w : World} (h : Dr.Bu B k bs w) (t : List UInt8) (hl : bs.length + t.length ≤ 4194304) :
 Calls Tryz.prog 56 #[.pointer (some ⟨k,0,none⟩),.string ⟨t.toArray⟩] w fun e w' => ∃ n : Int,e = .returned (.tuple #[.int .i64 n,.nilIface]) ∧ Dr.Bu B k (bs ++ t) w' ∧ Below B w w' := by
 refine (Bl.writeString B k (Lib.byteCells bs) ⟨t.toArray⟩ w h.1 (by simp [Lib.byteCells,ByteArray.size]; omega) h.2).mono ?_
 rintro e w' ⟨rfl,h1,h2,_⟩
 refine ⟨_,rfl,⟨.inr ?_,Nat.le_trans h.2 h2.size⟩,h2⟩
 rw [Lib.byteCells_append]
 have e : Lib.strCells ⟨t.toArray⟩ = Lib.byteCells t := by simp [Lib.strCells,Lib.byteCells]
 rw [← e]
 exact h1
theorem Dr.Bu.string {B k : Nat} {bs : List UInt8} {w : World} (h : Dr.Bu B k bs w) :
 Calls Tryz.prog 31 #[.pointer (some ⟨k,0,none⟩)] w fun e w' => e = .returned (.string ⟨bs.toArray⟩) ∧ Below B w w' :=
 (Tryz.Builder_String_any_f B k bs w h.1 h.2).mono fun e w' ⟨h1,h2,h3⟩ => ⟨h1,h3⟩
theorem Dr.XA.belowB {b B rx : Nat} {s : ByteArray} {u : Int} {w w' : World} (h : Dr.XA b s rx u w) (hb : Below B w w') (hB : b < B) : Dr.XA b s rx u w' := (hb.block b hB).trans h
theorem Dr.natR_len {rx : Nat} {l : List UInt8} {n : Nat} (h : Dr.natR rx l = some n) : (Nt.dig n).length ≤ 512 := by
 unfold Dr.natR at h;split at h
 · cases h
 · split at h
   · cases h
   · rename_i h2;simp only [Option.some.injEq] at h;rw [← h]; omega
theorem Dr.digs_len {rx : Nat} {l r : List UInt8} {u u' : Int} {n : Nat} (h : Dr.digs rx l u = some (n,r,u')) : (Nt.dig n).length ≤ 512 ∧ r.length ≤ l.length := by
 have hdw := Dr.dropWhile_le (Dr.isDig rx) l;unfold Dr.digs at h;split at h
 · cases h
 · cases hn : Dr.natR rx (l.takeWhile (Dr.isDig rx)) with
   | none =>
     rw [hn] at h;simp only [Option.some.injEq,Prod.mk.injEq] at h;obtain ⟨rfl,rfl,rfl⟩ := h;exact ⟨by rw [Nt.dig_zero]; decide,hdw⟩
   | some v =>
     rw [hn] at h;simp only [Option.some.injEq,Prod.mk.injEq] at h;obtain ⟨rfl,rfl,rfl⟩ := h;exact ⟨Dr.natR_len hn,hdw⟩
theorem Dr.size_of {s : ByteArray} {l : List UInt8} (h : s.data.toList = l) : s.size = l.length := by
 rw [← h]; simp
def Dr.PostF (b rx : Nat) (w : World) (R : Option (Dr.Fr × List UInt8 × Int)) (e : Ending) (w' : World) : Prop :=
 match R with
 | none => ∃ v s' u' f t d,e = .returned (.tuple #[v,.bool false]) ∧ Rt.R w' v f t d ∧ Dr.XA b s' rx u' w' ∧ Dr.Kept b w w'
 | some (fr,r,u') => ∃ v s',e = .returned (.tuple #[v,.bool true]) ∧ Rt.R w' v fr.1 fr.2.1 fr.2.2 ∧ s'.data.toList = r ∧ Dr.XA b s' rx u' w' ∧ Dr.Kept b w w'
theorem Dr.frac_1 {rx : Nat} {neg : Bool} {l : List UInt8} {u : Int} (h : Dr.digs rx l u = none) : Dr.frac rx neg l u = none := by unfold Dr.frac; rw [h]
theorem Dr.frac_2 {rx : Nat} {neg : Bool} {l r : List UInt8} {u u1 : Int} {t : Nat} (h : Dr.digs rx l u = some (t,r,u1)) (h2 : ¬ r.take 1 = [47]) : Dr.frac rx neg l u = some (Dr.whole neg t,r,u1) := by
 unfold Dr.frac;rw [h];simp only;split
 · rename_i q e;exact absurd rfl h2
 · rfl
theorem Dr.frac_3 {rx : Nat} {neg : Bool} {l r : List UInt8} {u u1 : Int} {t : Nat} (h : Dr.digs rx l u = some (t,47 :: r,u1)) : Dr.frac rx neg l u = match Dr.digs rx r u1 with
 | none => none
 | some (b,s3,w2) => if b = 0 then some (Dr.whole neg t,s3,if w2 = 0 then 3 else w2) else some (Dr.ratS neg t b,s3,w2) := by
 unfold Dr.frac
 rw [h]
 rfl
set_option maxHeartbeats 16000000
set_option maxRecDepth 1000000
theorem Dr.frac_any (b rx : Nat) (s : ByteArray) (u : Int) (neg : Bool) (w : World) (h : Dr.XA b s rx u w) (hr1 : 2 ≤ rx) (hr2 : rx ≤ 36) (hs : s.size ≤ 1048576) :
 Calls Tryz.prog 125 #[.pointer (some ⟨b,0,none⟩),.bool neg] w fun e w' => Dr.PostF b rx w (Dr.frac rx neg s.data.toList u) e w' := by
 obtain ⟨R,hR⟩ : ∃ z,Dr.frac rx neg s.data.toList u = z := ⟨_,rfl⟩
 rw [hR]
 have HR := Lib.hid hR
 obtain ⟨B,hB⟩ : ∃ z,w.heap.size = z := ⟨_,rfl⟩
 have hbB : b < B := by rw [← hB]; exact h.lt
 have hal : Below w.heap.size w (w.alloc (.cells #[.bool false,.slice none 0 0,.slice none 0 0] 24)) := (Below.refl _ _).alloc (Nat.le_refl _) _
 have q0 := heap_alloc_new w (.cells #[.bool false,.slice none 0 0,.slice none 0 0] 24)
 have hA0 := h.below hal
 have hz0 : (w.alloc (.cells #[.bool false,.slice none 0 0,.slice none 0 0] 24)).heap.size = B + 1 := by simp [hB]
 obtain ⟨w0,hw0⟩ : ∃ z,w.alloc (.cells #[.bool false,.slice none 0 0,.slice none 0 0] 24) = z := ⟨_,rfl⟩
 rw [hw0] at hal hA0 hz0 q0
 rw [hB] at q0
 have HQ := Lib.hid (fun (w' : World) (hk : Dr.Kept b w0 w') => show w'.heap[B]? = some (.cells #[.bool false,.slice none 0 0,.slice none 0 0] 24 (0,0)) from (hk.block B (by omega) (by omega)).trans q0)
 have HK := Lib.hid (fun (w' : World) (hk : Dr.Kept b w0 w') => show Dr.Kept b w w' from (Dr.Kept.of_below hal).trans hk)
 have HEND := Lib.hid (fun (w1 X3 : World) (hk : Dr.Kept b w0 w1) (s' : ByteArray) (u' : Int) (hX : Dr.XA b s' rx u' w1) (hb : ∀ (B' : Nat) (v0 : World),Below B' v0 w1 → B' ≤ B → Below B' v0 X3) =>
   show Dr.XA b s' rx u' X3 ∧ Dr.Kept b w X3 from
    ⟨hX.belowB (hb B w1 (Below.refl _ _) (Nat.le_refl _)) hbB,(HK.out w1 hk).belowB (hB ▸ hb B w1 (Below.refl _ _) (Nat.le_refl _))⟩)
 have KD0 := Dr.digs_any b rx s u w0 hA0 hr1 hr2 hs
 have HB := Lib.hid hB
 have hrefl : Dr.Kept b w0 w0 := Dr.Kept.refl _ _
 clear h hR hal q0 hA0
 cases hd1 : Dr.digs rx s.data.toList u with
 | none =>
   rw [hd1] at KD0
   have KD := Lib.hid (show Calls Tryz.prog 142 #[.pointer (some ⟨b,0,none⟩)] w0 (fun e w' => e = .returned (.tuple #[.slice none 0 0,.bool false]) ∧ Dr.XA b s rx u w' ∧ Dr.Kept b w0 w') from KD0)
   have HFIN := Lib.hid (fun (v : Value) (X3 : World) (ho : Rt.R X3 v (neg && decide (0 < 0)) 0 1 ∧ Dr.XA b s rx u X3 ∧ Dr.Kept b w X3) => show Dr.PostF b rx w R (.returned (.tuple #[v,.bool false])) X3 from by
     rw [← HR.out,Dr.frac_1 hd1]
     exact ⟨v,s,u,_,_,_,rfl,ho.1,ho.2.1,ho.2.2⟩)
   clear KD0 hd1 hrefl
   go_enter Tryz.func125,Tryz.ntmps125
   go_wp2_with fail
   refine KD.out.mono ?_
   rintro x w1 ⟨rfl,hX1,hK1⟩
   have HW9 := Lib.hid (fun (wz : World) (hbz : Below w1.heap.size w1 wz) => show wz.heap[B]? = some (.cells #[.bool false,.slice none 0 0,.slice none 0 0] 24 (0,0)) ∧ Dr.Kept b w0 wz ∧ Dr.XA b s rx u wz from ⟨HQ.out wz (hK1.trans (Dr.Kept.of_below hbz)),hK1.trans (Dr.Kept.of_below hbz),hX1.below hbz⟩)
   clear hX1 hK1
   go_wp2_with fail
   refine (Rt.whole_any neg 0 _ _ (Nt.N.zero _) (by rw [Nt.dig_zero]; decide)).mono ?_
   rintro x wz ⟨v1,rfl,hRR,hbz⟩
   obtain ⟨tv,bv,rfl,hnn,hdd⟩ := hRR
   obtain ⟨ad1,cap1,rfl⟩ := Nt.In.slice hnn
   obtain ⟨ad2,cap2,rfl⟩ := Nt.In.slice hdd
   obtain ⟨hq9,hk9,hx9⟩ := HW9.out wz hbz
   obtain ⟨X1,X2,X3,⟨f0,z0,s0⟩,⟨f1,z1,s1'⟩,⟨f2,z2,s2'⟩,⟨r0,r1',r2'⟩,HX⟩ := Rt.put3 hq9 (.bool (neg && decide (0 < 0))) (.slice ad1 (Nt.dig 0).length cap1) (.slice ad2 (Nt.dig 1).length cap2)
   have HOUT := Lib.hid (And.intro (show Rt.R X3 (.agg #[.bool (neg && decide (0 < 0)),.slice ad1 (Nt.dig 0).length cap1,.slice ad2 (Nt.dig 1).length cap2]) (neg && decide (0 < 0)) 0 1 from ⟨_,_,rfl,Nt.In.othr hnn hq9 Rt.noWords HX.out.2.2.1 HX.out.2.1,Nt.In.othr hdd hq9 Rt.noWords HX.out.2.2.1 HX.out.2.1⟩) (HEND.out wz X3 hk9 _ _ hx9 HX.out.2.2.2))
   have HE := Lib.hid (HFIN.out _ X3 HOUT.out)
   clear hnn hdd hq9 hk9 hx9 HX hbz HOUT HFIN HW9
   generalize (neg && decide (0 < 0)) = sg at *
   generalize (Nt.dig 0).length = l1 at *
   generalize (Nt.dig 1).length = l2 at *
   go_wp2_with fail
   refine bodyPost_ret (v := .tuple #[.agg #[.bool sg,.slice ad1 l1 cap1,.slice ad2 l2 cap2],.bool false]) (by simp [results,Tryz.results125,go_sem,r0,r1',r2']) rfl HE.out
 | some x1 =>
   obtain ⟨t,r1,u1⟩ := x1
   rw [hd1] at KD0
   have KD := Lib.hid (show Calls Tryz.prog 142 #[.pointer (some ⟨b,0,none⟩)] w0 (fun e w' => ∃ v s',e = .returned (.tuple #[v,.bool true]) ∧ Nt.N w' v t ∧ s'.data.toList = r1 ∧ Dr.XA b s' rx u1 w' ∧ Dr.Kept b w0 w') from KD0)
   have hlt := Dr.digs_len hd1
   have HLT := Lib.hid hlt
   have hs1z : ∀ s' : ByteArray,s'.data.toList = r1 → s'.size ≤ 1048576 := fun s' e => by rw [Dr.size_of e]; have := hlt.2; rw [← Dr.size_of (s := s) rfl] at this; omega
   have HS1Z := Lib.hid hs1z
   clear KD0 hrefl hlt hs1z
   by_cases hsl : r1.take 1 = [47]
   · obtain ⟨r2,hr12⟩ : ∃ r2,r1 = 47 :: r2 := by
      cases r1 with
      | nil => simp at hsl
      | cons x r =>
        simp at hsl;exact ⟨r,by rw [hsl]⟩
     rw [hr12] at hd1;have hfr := Dr.frac_3 (neg := neg) hd1;rw [HR.out] at hfr;cases hd2 : Dr.digs rx r2 u1 with
     | none =>
       rw [hd2] at hfr;have hfr2 : R = none := hfr;have HFIN := Lib.hid (fun (s3 : ByteArray) (v : Value) (X3 : World) (ho : Rt.R X3 v (neg && decide (0 < t)) t 1 ∧ Dr.XA b s3 rx u1 X3 ∧ Dr.Kept b w X3) => show Dr.PostF b rx w R (.returned (.tuple #[v,.bool false])) X3 from by
         rw [hfr2]
         exact ⟨v,s3,u1,_,_,_,rfl,ho.1,ho.2.1,ho.2.2⟩)
       subst hr12;have HSL := Lib.hid hsl;clear hsl;go_enter Tryz.func125,Tryz.ntmps125;go_wp2_with fail;refine KD.out.mono ?_;rintro x w1 ⟨v0,s1,rfl,hN1,hs1l,hX1,hK1⟩;obtain ⟨c0,c1,c2⟩ := hX1.cells;obtain ⟨tad,tcap,rfl⟩ := Nt.In.slice hN1;have KH : ∀ w',Calls Tryz.prog 35 #[.string s1,.string ⟨#[47]⟩] w' fun e w'' => e = .returned (.bool true) ∧ w' = w'' := fun w' => by
        refine (Tryz.strings_HasPrefix s1 ⟨#[47]⟩ w').mono ?_;rintro e w'' ⟨rfl,rfl⟩;rw [Dr.hasP,hs1l];exact ⟨congrArg (fun x => Ending.returned (Value.bool x)) (decide_eq_true HSL.out),rfl⟩
       have KH2 := Lib.hid KH;have hsz1 : 1 ≤ s1.size := by rw [Dr.size_of hs1l]; simp
       have hsz1I : 1 ≤ (s1.size : Int) := by omega
       obtain ⟨s3,hs3⟩ : ∃ z,s1.extract 1 s1.size = z := ⟨_,rfl⟩;have hs3l : s3.data.toList = r2 := by rw [← hs3]; exact Dr.drop_one 47 r2 s1 hs1l
       have hs3z : s3.size ≤ 1048576 := by
        have h1 := HS1Z.out s1 hs1l;rw [Dr.size_of hs1l] at h1;rw [Dr.size_of hs3l];simp at h1;omega
       obtain ⟨W,hW,hfz,hXW,hKW,hzW⟩ := hX1.setS s3;have hNW := Dr.N_kept hN1 hKW (Dr.N_off hN1 hX1);have KE := Dr.digs_any b rx s3 u1 W hXW hr1 hr2 hs3z;rw [hs3l] at KE;clear hX1 KH KD hzW HS1Z hN1 hs1l hs3l;go_wp2_with (first | (go_at_call 35; refine (KH2.out _).mono ?_; rintro x w' ⟨rfl,hw'⟩; subst hw'));rw [hd2] at KE;have KE2 := Lib.hid (show Calls Tryz.prog 142 #[.pointer (some ⟨b,0,none⟩)] W (fun e w' => e = .returned (.tuple #[.slice none 0 0,.bool false]) ∧ Dr.XA b s3 rx u1 w' ∧ Dr.Kept b W w') from KE);have HW8 := Lib.hid (fun (w4 : World) (hX4 : Dr.XA b s3 rx u1 w4) (hK4 : Dr.Kept b W w4) => show Nt.N w4 (.slice tad (Nt.dig t).length tcap) t ∧ Hid (∀ (wz : World) (hbz : Below w4.heap.size w4 wz),wz.heap[B]? = some (.cells #[.bool false,.slice none 0 0,.slice none 0 0] 24 (0,0)) ∧ Dr.Kept b w0 wz ∧ Dr.XA b s3 rx u1 wz) from
         ⟨Dr.N_kept hNW hK4 (Dr.N_off hNW hXW),Lib.hid (fun wz hbz => ⟨HQ.out wz (((hK1.trans hKW).trans hK4).trans (Dr.Kept.of_below hbz)),((hK1.trans hKW).trans hK4).trans (Dr.Kept.of_below hbz),hX4.below hbz⟩)⟩)
       have HFIN := Lib.hid (HFIN.out s3);clear KE hNW hXW hK1 hKW hd2 hfr hfr2 hd1;go_wp2_with fail;refine KE2.out.mono ?_;rintro x w4 ⟨rfl,hX4,hK4⟩;obtain ⟨hN4,HW9⟩ := HW8.out w4 hX4 hK4;have HN4 := Lib.hid hN4;clear hX4 hK4 HW8 KE2 hN4;go_wp2_with fail;refine (Rt.whole_any neg t _ _ HN4.out (by have := HLT.out.1; omega)).mono ?_;rintro x wz ⟨v1,rfl,hRR,hbz⟩;obtain ⟨tv,bv,rfl,hnn,hdd⟩ := hRR;obtain ⟨ad1,cap1,rfl⟩ := Nt.In.slice hnn;obtain ⟨ad2,cap2,rfl⟩ := Nt.In.slice hdd;obtain ⟨hq9,hk9,hx9⟩ := HW9.out wz hbz;obtain ⟨X1,X2,X3,⟨f0,z0,s0⟩,⟨f1,z1,s1'⟩,⟨f2,z2,s2'⟩,⟨r0,r1',r2'⟩,HX⟩ := Rt.put3 hq9 (.bool (neg && decide (0 < t))) (.slice ad1 (Nt.dig t).length cap1) (.slice ad2 (Nt.dig 1).length cap2);have HOUT := Lib.hid (And.intro (show Rt.R X3 (.agg #[.bool (neg && decide (0 < t)),.slice ad1 (Nt.dig t).length cap1,.slice ad2 (Nt.dig 1).length cap2]) (neg && decide (0 < t)) t 1 from ⟨_,_,rfl,Nt.In.othr hnn hq9 Rt.noWords HX.out.2.2.1 HX.out.2.1,Nt.In.othr hdd hq9 Rt.noWords HX.out.2.2.1 HX.out.2.1⟩) (HEND.out wz X3 hk9 _ _ hx9 HX.out.2.2.2));have HE := Lib.hid (HFIN.out _ X3 HOUT.out);clear hnn hdd hq9 hk9 hx9 HX hbz HOUT HFIN HW9;generalize (neg && decide (0 < t)) = sg at *;generalize (Nt.dig t).length = l1 at *;generalize (Nt.dig 1).length = l2 at *;go_wp2_with fail
       refine bodyPost_ret (v := .tuple #[.agg #[.bool sg,.slice ad1 l1 cap1,.slice ad2 l2 cap2],.bool false]) (by simp [results,Tryz.results125,go_sem,r0,r1',r2']) rfl HE.out
     | some x2 =>
       obtain ⟨bt,r3,u2⟩ := x2;rw [hd2] at hfr;have hlb := Dr.digs_len hd2;have HLB := Lib.hid hlb;have hfr2 : R = if bt = 0 then some (Dr.whole neg t,r3,if u2 = 0 then 3 else u2) else some (Dr.ratS neg t bt,r3,u2) := hfr;subst hr12;have HSL := Lib.hid hsl;clear hsl;go_enter Tryz.func125,Tryz.ntmps125;go_wp2_with fail;refine KD.out.mono ?_;rintro x w1 ⟨v0,s1,rfl,hN1,hs1l,hX1,hK1⟩;obtain ⟨c0,c1,c2⟩ := hX1.cells;obtain ⟨tad,tcap,rfl⟩ := Nt.In.slice hN1;have KH : ∀ w',Calls Tryz.prog 35 #[.string s1,.string ⟨#[47]⟩] w' fun e w'' => e = .returned (.bool true) ∧ w' = w'' := fun w' => by
        refine (Tryz.strings_HasPrefix s1 ⟨#[47]⟩ w').mono ?_;rintro e w'' ⟨rfl,rfl⟩;rw [Dr.hasP,hs1l];exact ⟨congrArg (fun x => Ending.returned (Value.bool x)) (decide_eq_true HSL.out),rfl⟩
       have KH2 := Lib.hid KH;have hsz1 : 1 ≤ s1.size := by rw [Dr.size_of hs1l]; simp
       have hsz1I : 1 ≤ (s1.size : Int) := by omega
       obtain ⟨s3,hs3⟩ : ∃ z,s1.extract 1 s1.size = z := ⟨_,rfl⟩;have hs3l : s3.data.toList = r2 := by rw [← hs3]; exact Dr.drop_one 47 r2 s1 hs1l
       have hs3z : s3.size ≤ 1048576 := by
        have h1 := HS1Z.out s1 hs1l;rw [Dr.size_of hs1l] at h1;rw [Dr.size_of hs3l];simp at h1;omega
       obtain ⟨W,hW,hfz,hXW,hKW,hzW⟩ := hX1.setS s3;have hNW := Dr.N_kept hN1 hKW (Dr.N_off hN1 hX1);have KE := Dr.digs_any b rx s3 u1 W hXW hr1 hr2 hs3z;rw [hs3l] at KE;clear hX1 KH KD hzW HS1Z hN1 hs1l hs3l;go_wp2_with (first | (go_at_call 35; refine (KH2.out _).mono ?_; rintro x w' ⟨rfl,hw'⟩; subst hw'));rw [hd2] at KE;have KE2 := Lib.hid (show Calls Tryz.prog 142 #[.pointer (some ⟨b,0,none⟩)] W (fun e w' => ∃ v s',e = .returned (.tuple #[v,.bool true]) ∧ Nt.N w' v bt ∧ s'.data.toList = r3 ∧ Dr.XA b s' rx u2 w' ∧ Dr.Kept b W w') from KE);have HW8 := Lib.hid (fun (s4 : ByteArray) (w4 : World) (hX4 : Dr.XA b s4 rx u2 w4) (hK4 : Dr.Kept b W w4) => show Nt.N w4 (.slice tad (Nt.dig t).length tcap) t ∧ Dr.Kept b w0 w4 from
         ⟨Dr.N_kept hNW hK4 (Dr.N_off hNW hXW),(hK1.trans hKW).trans hK4⟩)
       clear KE hNW hXW hK1 hKW hd2 hfr hd1 hlb;by_cases hbt : bt = 0
       · subst hbt;rw [if_pos rfl] at hfr2;by_cases hu2 : u2 = 0
         · subst hu2;rw [if_pos rfl] at hfr2;have HFIN0 := Lib.hid (fun (s4 : ByteArray) (hs4 : s4.data.toList = r3) (v : Value) (X3 : World) (ho : Rt.R X3 v (neg && decide (0 < t)) t 1 ∧ Dr.XA b s4 rx 3 X3 ∧ Dr.Kept b w X3) => show Dr.PostF b rx w R (.returned (.tuple #[v,.bool true])) X3 from by
             rw [hfr2]
             exact ⟨v,s4,rfl,ho.1,hs4,ho.2.1,ho.2.2⟩)
           clear hfr2;go_wp2_with fail;refine KE2.out.mono ?_;rintro x w4 ⟨v4,s4,rfl,hN4b,hs4,hX4,hK4⟩;obtain ⟨ad4,cap4,rfl⟩ := Nt.In.slice hN4b;obtain ⟨hN4,hK5⟩ := HW8.out s4 w4 hX4 hK4;obtain ⟨W5,hW5,hfz5,hX5,hKW5,hz5⟩ := hX4.setU 3;obtain ⟨g0,g1,g2⟩ := hX4.cells;have HN5 := Lib.hid (Dr.N_kept hN4 hKW5 (Dr.N_off hN4 hX4));have HW9 := Lib.hid (fun (wz : World) (hbz : Below W5.heap.size W5 wz) => show wz.heap[B]? = some (.cells #[.bool false,.slice none 0 0,.slice none 0 0] 24 (0,0)) ∧ Dr.Kept b w0 wz ∧ Dr.XA b s4 rx 3 wz from ⟨HQ.out wz ((hK5.trans hKW5).trans (Dr.Kept.of_below hbz)),(hK5.trans hKW5).trans (Dr.Kept.of_below hbz),hX5.below hbz⟩);have HFIN := Lib.hid (HFIN0.out s4 hs4);have e0 : (Nt.dig 0).length = 0 := by rw [Nt.dig_zero]; rfl
           rw [e0];clear hX4 hK4 hN4 hK5 hX5 hKW5 hz5 HW8 KE2 hN4b HFIN0 hs4 e0;go_wp2_with fail;refine (Rt.whole_any neg t _ _ HN5.out (by have := HLT.out.1; omega)).mono ?_;rintro x wz ⟨v1,rfl,hRR,hbz⟩;obtain ⟨tv,bv,rfl,hnn,hdd⟩ := hRR;obtain ⟨ad1,cap1,rfl⟩ := Nt.In.slice hnn;obtain ⟨ad2,cap2,rfl⟩ := Nt.In.slice hdd;obtain ⟨hq9,hk9,hx9⟩ := HW9.out wz hbz;obtain ⟨X1,X2,X3,⟨f0,z0,s0⟩,⟨f1,z1,s1'⟩,⟨f2,z2,s2'⟩,⟨r0,r1',r2'⟩,HX⟩ := Rt.put3 hq9 (.bool (neg && decide (0 < t))) (.slice ad1 (Nt.dig t).length cap1) (.slice ad2 (Nt.dig 1).length cap2);have HOUT := Lib.hid (And.intro (show Rt.R X3 (.agg #[.bool (neg && decide (0 < t)),.slice ad1 (Nt.dig t).length cap1,.slice ad2 (Nt.dig 1).length cap2]) (neg && decide (0 < t)) t 1 from ⟨_,_,rfl,Nt.In.othr hnn hq9 Rt.noWords HX.out.2.2.1 HX.out.2.1,Nt.In.othr hdd hq9 Rt.noWords HX.out.2.2.1 HX.out.2.1⟩) (HEND.out wz X3 hk9 _ _ hx9 HX.out.2.2.2));have HE := Lib.hid (HFIN.out _ X3 HOUT.out);clear hnn hdd hq9 hk9 hx9 HX hbz HOUT HFIN HW9;generalize (neg && decide (0 < t)) = sg at *;generalize (Nt.dig t).length = l1 at *;generalize (Nt.dig 1).length = l2 at *;go_wp2_with fail;refine bodyPost_ret (v := .tuple #[.agg #[.bool sg,.slice ad1 l1 cap1,.slice ad2 l2 cap2],.bool true]) (by simp [results,Tryz.results125,go_sem,r0,r1',r2']) rfl HE.out
         · rw [if_neg hu2] at hfr2;have hu2b : (u2 == 0) = false := beq_eq_false_iff_ne.2 hu2;have HFIN0 := Lib.hid (fun (s4 : ByteArray) (hs4 : s4.data.toList = r3) (v : Value) (X3 : World) (ho : Rt.R X3 v (neg && decide (0 < t)) t 1 ∧ Dr.XA b s4 rx u2 X3 ∧ Dr.Kept b w X3) => show Dr.PostF b rx w R (.returned (.tuple #[v,.bool true])) X3 from by
             rw [hfr2]
             exact ⟨v,s4,rfl,ho.1,hs4,ho.2.1,ho.2.2⟩)
           clear hfr2 hu2;go_wp2_with fail;refine KE2.out.mono ?_;rintro x w4 ⟨v4,s4,rfl,hN4b,hs4,hX4,hK4⟩;obtain ⟨ad4,cap4,rfl⟩ := Nt.In.slice hN4b;obtain ⟨hN4,hK5⟩ := HW8.out s4 w4 hX4 hK4;obtain ⟨g0,g1,g2⟩ := hX4.cells;have HN5 := Lib.hid hN4;have HW9 := Lib.hid (fun (wz : World) (hbz : Below w4.heap.size w4 wz) => show wz.heap[B]? = some (.cells #[.bool false,.slice none 0 0,.slice none 0 0] 24 (0,0)) ∧ Dr.Kept b w0 wz ∧ Dr.XA b s4 rx u2 wz from ⟨HQ.out wz (hK5.trans (Dr.Kept.of_below hbz)),hK5.trans (Dr.Kept.of_below hbz),hX4.below hbz⟩);have HFIN := Lib.hid (HFIN0.out s4 hs4);have e0 : (Nt.dig 0).length = 0 := by rw [Nt.dig_zero]; rfl
           rw [e0];clear hX4 hK4 hN4 hK5 HW8 KE2 hN4b HFIN0 hs4 e0;go_wp2_with fail;refine (Rt.whole_any neg t _ _ HN5.out (by have := HLT.out.1; omega)).mono ?_;rintro x wz ⟨v1,rfl,hRR,hbz⟩;obtain ⟨tv,bv,rfl,hnn,hdd⟩ := hRR;obtain ⟨ad1,cap1,rfl⟩ := Nt.In.slice hnn;obtain ⟨ad2,cap2,rfl⟩ := Nt.In.slice hdd;obtain ⟨hq9,hk9,hx9⟩ := HW9.out wz hbz;obtain ⟨X1,X2,X3,⟨f0,z0,s0⟩,⟨f1,z1,s1'⟩,⟨f2,z2,s2'⟩,⟨r0,r1',r2'⟩,HX⟩ := Rt.put3 hq9 (.bool (neg && decide (0 < t))) (.slice ad1 (Nt.dig t).length cap1) (.slice ad2 (Nt.dig 1).length cap2);have HOUT := Lib.hid (And.intro (show Rt.R X3 (.agg #[.bool (neg && decide (0 < t)),.slice ad1 (Nt.dig t).length cap1,.slice ad2 (Nt.dig 1).length cap2]) (neg && decide (0 < t)) t 1 from ⟨_,_,rfl,Nt.In.othr hnn hq9 Rt.noWords HX.out.2.2.1 HX.out.2.1,Nt.In.othr hdd hq9 Rt.noWords HX.out.2.2.1 HX.out.2.1⟩) (HEND.out wz X3 hk9 _ _ hx9 HX.out.2.2.2));have HE := Lib.hid (HFIN.out _ X3 HOUT.out);clear hnn hdd hq9 hk9 hx9 HX hbz HOUT HFIN HW9;generalize (neg && decide (0 < t)) = sg at *;generalize (Nt.dig t).length = l1 at *;generalize (Nt.dig 1).length = l2 at *;go_wp2_with fail;refine bodyPost_ret (v := .tuple #[.agg #[.bool sg,.slice ad1 l1 cap1,.slice ad2 l2 cap2],.bool true]) (by simp [results,Tryz.results125,go_sem,r0,r1',r2']) rfl HE.out
       · rw [if_neg hbt] at hfr2;have hbp : 0 < bt := by omega
         have hlp : 0 < (Nt.dig bt).length := Nt.dig_len_pos.2 hbp;have HFIN0 := Lib.hid (fun (s4 : ByteArray) (hs4 : s4.data.toList = r3) (v : Value) (X3 : World) (ho : Rt.R X3 v (Rt.ratS neg t bt).1 (Rt.ratS neg t bt).2.1 (Rt.ratS neg t bt).2.2 ∧ Dr.XA b s4 rx u2 X3 ∧ Dr.Kept b w X3) => show Dr.PostF b rx w R (.returned (.tuple #[v,.bool true])) X3 from by
           rw [hfr2]
           exact ⟨v,s4,rfl,ho.1,hs4,ho.2.1,ho.2.2⟩)
         clear hfr2 hbt;go_wp2_with fail;refine KE2.out.mono ?_;rintro x w4 ⟨v4,s4,rfl,hN4b,hs4,hX4,hK4⟩;obtain ⟨ad4,cap4,rfl⟩ := Nt.In.slice hN4b;obtain ⟨hN4,hK5⟩ := HW8.out s4 w4 hX4 hK4;have HN5 := Lib.hid (And.intro hN4 hN4b);have HW9 := Lib.hid (fun (wz : World) (hbz : Below w4.heap.size w4 wz) => show wz.heap[B]? = some (.cells #[.bool false,.slice none 0 0,.slice none 0 0] 24 (0,0)) ∧ Dr.Kept b w0 wz ∧ Dr.XA b s4 rx u2 wz from ⟨HQ.out wz (hK5.trans (Dr.Kept.of_below hbz)),hK5.trans (Dr.Kept.of_below hbz),hX4.below hbz⟩);have HFIN := Lib.hid (HFIN0.out s4 hs4);obtain ⟨L4,hL4⟩ : ∃ z,(Nt.dig bt).length = z := ⟨_,rfl⟩;rw [hL4] at hlp ⊢;have hL4z : ((L4 : Int) == 0) = false := beq_eq_false_iff_ne.2 (by omega);have HL4 := Lib.hid hL4;rw [hL4] at HN5;clear hX4 hK4 hN4 hK5 HW8 KE2 hN4b HFIN0 hs4 hL4;go_wp2_with fail;refine (Rt.rat_any neg t bt _ _ _ HN5.out.1 HN5.out.2 hbp ⟨by have := HLT.out.1; have := HLB.out.1; omega,by have := HLT.out.1; have := HLB.out.1; omega⟩).mono ?_;rintro x wz ⟨v1,rfl,hRR,hbz⟩;obtain ⟨tv,bv,rfl,hnn,hdd⟩ := hRR;obtain ⟨ad1,cap1,rfl⟩ := Nt.In.slice hnn;obtain ⟨ad2,cap2,rfl⟩ := Nt.In.slice hdd;obtain ⟨hq9,hk9,hx9⟩ := HW9.out wz hbz
         obtain ⟨X1,X2,X3,⟨f0,z0,s0⟩,⟨f1,z1,s1'⟩,⟨f2,z2,s2'⟩,⟨r0,r1',r2'⟩,HX⟩ := Rt.put3 hq9 (.bool (Rt.ratS neg t bt).1) (.slice ad1 (Nt.dig (Rt.ratS neg t bt).2.1).length cap1) (.slice ad2 (Nt.dig (Rt.ratS neg t bt).2.2).length cap2);have HOUT := Lib.hid (And.intro (show Rt.R X3 (.agg #[.bool (Rt.ratS neg t bt).1,.slice ad1 (Nt.dig (Rt.ratS neg t bt).2.1).length cap1,.slice ad2 (Nt.dig (Rt.ratS neg t bt).2.2).length cap2]) (Rt.ratS neg t bt).1 (Rt.ratS neg t bt).2.1 (Rt.ratS neg t bt).2.2 from ⟨_,_,rfl,Nt.In.othr hnn hq9 Rt.noWords HX.out.2.2.1 HX.out.2.1,Nt.In.othr hdd hq9 Rt.noWords HX.out.2.2.1 HX.out.2.1⟩) (HEND.out wz X3 hk9 _ _ hx9 HX.out.2.2.2));have HE := Lib.hid (HFIN.out _ X3 HOUT.out);clear hnn hdd hq9 hk9 hx9 HX hbz HOUT HFIN HW9;generalize (Rt.ratS neg t bt).1 = sg at *;generalize (Nt.dig (Rt.ratS neg t bt).2.1).length = l1 at *;generalize (Nt.dig (Rt.ratS neg t bt).2.2).length = l2 at *;go_wp2_with fail;refine bodyPost_ret (v := .tuple #[.agg #[.bool sg,.slice ad1 l1 cap1,.slice ad2 l2 cap2],.bool true]) (by simp [results,Tryz.results125,go_sem,r0,r1',r2']) rfl HE.out
   · have hfr := Dr.frac_2 (neg := neg) hd1 hsl;rw [HR.out] at hfr;have HFIN0 := Lib.hid (fun (s1 : ByteArray) (hs1 : s1.data.toList = r1) (v : Value) (X3 : World) (ho : Rt.R X3 v (neg && decide (0 < t)) t 1 ∧ Dr.XA b s1 rx u1 X3 ∧ Dr.Kept b w X3) => show Dr.PostF b rx w R (.returned (.tuple #[v,.bool true])) X3 from by
       rw [hfr]
       exact ⟨v,s1,rfl,ho.1,hs1,ho.2.1,ho.2.2⟩)
     have HSL := Lib.hid hsl;clear hd1 hfr hsl;go_enter Tryz.func125,Tryz.ntmps125;go_wp2_with fail;refine KD.out.mono ?_;rintro x w1 ⟨v0,s1,rfl,hN1,hs1l,hX1,hK1⟩;obtain ⟨c0,c1,c2⟩ := hX1.cells;obtain ⟨tad,tcap,rfl⟩ := Nt.In.slice hN1;have KH : ∀ w',Calls Tryz.prog 35 #[.string s1,.string ⟨#[47]⟩] w' fun e w'' => e = .returned (.bool false) ∧ w' = w'' := fun w' => by
      refine (Tryz.strings_HasPrefix s1 ⟨#[47]⟩ w').mono ?_;rintro e w'' ⟨rfl,rfl⟩;rw [Dr.hasP,hs1l];exact ⟨congrArg (fun x => Ending.returned (Value.bool x)) (decide_eq_false HSL.out),rfl⟩
     have KH2 := Lib.hid KH;have HN1 := Lib.hid hN1;have HW9 := Lib.hid (fun (wz : World) (hbz : Below w1.heap.size w1 wz) => show wz.heap[B]? = some (.cells #[.bool false,.slice none 0 0,.slice none 0 0] 24 (0,0)) ∧ Dr.Kept b w0 wz ∧ Dr.XA b s1 rx u1 wz from ⟨HQ.out wz (hK1.trans (Dr.Kept.of_below hbz)),hK1.trans (Dr.Kept.of_below hbz),hX1.below hbz⟩);have HFIN := Lib.hid (HFIN0.out s1 hs1l);clear hN1 hX1 hK1 KH KD HFIN0 hs1l;go_wp2_with (first | (go_at_call 35; refine (KH2.out _).mono ?_; rintro x w' ⟨rfl,hw'⟩; subst hw'));refine (Rt.whole_any neg t _ _ HN1.out (by have := HLT.out.1; omega)).mono ?_;rintro x wz ⟨v1,rfl,hRR,hbz⟩;obtain ⟨tv,bv,rfl,hnn,hdd⟩ := hRR;obtain ⟨ad1,cap1,rfl⟩ := Nt.In.slice hnn;obtain ⟨ad2,cap2,rfl⟩ := Nt.In.slice hdd;obtain ⟨hq9,hk9,hx9⟩ := HW9.out wz hbz;obtain ⟨X1,X2,X3,⟨f0,z0,s0⟩,⟨f1,z1,s1'⟩,⟨f2,z2,s2'⟩,⟨r0,r1',r2'⟩,HX⟩ := Rt.put3 hq9 (.bool (neg && decide (0 < t))) (.slice ad1 (Nt.dig t).length cap1) (.slice ad2 (Nt.dig 1).length cap2);have HOUT := Lib.hid (And.intro (show Rt.R X3 (.agg #[.bool (neg && decide (0 < t)),.slice ad1 (Nt.dig t).length cap1,.slice ad2 (Nt.dig 1).length cap2]) (neg && decide (0 < t)) t 1 from ⟨_,_,rfl,Nt.In.othr hnn hq9 Rt.noWords HX.out.2.2.1 HX.out.2.1,Nt.In.othr hdd hq9 Rt.noWords HX.out.2.2.1 HX.out.2.1⟩) (HEND.out wz X3 hk9 _ _ hx9 HX.out.2.2.2));have HE := Lib.hid (HFIN.out _ X3 HOUT.out)
     clear hnn hdd hq9 hk9 hx9 HX hbz HOUT HFIN HW9;generalize (neg && decide (0 < t)) = sg at *;generalize (Nt.dig t).length = l1 at *;generalize (Nt.dig 1).length = l2 at *;go_wp2_with fail;refine bodyPost_ret (v := .tuple #[.agg #[.bool sg,.slice ad1 l1 cap1,.slice ad2 l2 cap2],.bool true]) (by simp [results,Tryz.results125,go_sem,r0,r1',r2']) rfl HE.out
set_option maxHeartbeats 200000
set_option maxRecDepth 512
theorem Dr.map_put (w : World) (r clock : Nat) (es : Array MapEntry) (k : Int) (v : Value) (hf : Instr.findNow (.int .u8) (.int .u8 k) es.toList 0 = some none) (hb : w.heap[r]? = some (.map es clock)) :
 (Instr.mapUpdate 139 (.map (some r)) (.int .u8 k) v).run Tryz.prog w = .ok () { w with heap := w.heap.setIfInBounds r (.map (es.push { key := .int .u8 k,val := v,born := clock }) (clock + 1)) } := by
 have hc : (Instr.checkKey false 10000 5 (.int .u8 k)).run Tryz.prog w = .ok () w := MapKept.run_checkKey (k := .int .u8 k) Tryz.underlying5 (by simp [MapKept.IsKey]) false 9999
 simp [Instr.mapUpdate,run_underlying Tryz.underlying139,MapKept.run_getObj_map hb,hc,MapKept.run_findKey Tryz.underlying5 hf,MapKept.run_setObj_map _ hb,Result.andThen]
def Dr.es : Array MapEntry := #[{ key := .int .u8 98,val := .int .i64 2,born := 0 },{ key := .int .u8 111,val := .int .i64 8,born := 1 },{ key := .int .u8 100,val := .int .i64 10,born := 2 },{ key := .int .u8 120,val := .int .i64 16,born := 3 }]
def Dr.radI (y : Int) : Int := if y = 98 then 2 else if y = 111 then 8 else if y = 100 then 10 else if y = 120 then 16 else 0
theorem Dr.map_look (w : World) (r clock : Nat) (y : Int) (hb : w.heap[r]? = some (.map Dr.es clock)) :
 (Instr.lookup 139 (.map (some r)) (.int .u8 y) false).run Tryz.prog w = .ok (.int .i64 (Dr.radI y)) w := by
 have hc : (Instr.checkKey false 10000 5 (.int .u8 y)).run Tryz.prog w = .ok () w := MapKept.run_checkKey (k := .int .u8 y) Tryz.underlying5 (by simp [MapKept.IsKey]) false 9999
 have hz : (zeroValue 3).run Tryz.prog w = .ok (.int .i64 0) w := by kernel_rfl
 have hne : Dr.es.isEmpty = false := rfl
 by_cases h1 : y = 98
 · subst h1;have hf : Instr.findNow (.int .u8) (.int .u8 98) Dr.es.toList 0 = some (some (0,.int .i64 2)) := by rfl
   simp [Instr.lookup,run_underlying Tryz.underlying139,MapKept.run_getObj_map hb,hne,hc,MapKept.run_findKey Tryz.underlying5 hf,Result.andThen,Dr.radI]
 by_cases h2 : y = 111
 · subst h2;have hf : Instr.findNow (.int .u8) (.int .u8 111) Dr.es.toList 0 = some (some (1,.int .i64 8)) := by rfl
   simp [Instr.lookup,run_underlying Tryz.underlying139,MapKept.run_getObj_map hb,hne,hc,MapKept.run_findKey Tryz.underlying5 hf,Result.andThen,Dr.radI]
 by_cases h3 : y = 100
 · subst h3;have hf : Instr.findNow (.int .u8) (.int .u8 100) Dr.es.toList 0 = some (some (2,.int .i64 10)) := by rfl
   simp [Instr.lookup,run_underlying Tryz.underlying139,MapKept.run_getObj_map hb,hne,hc,MapKept.run_findKey Tryz.underlying5 hf,Result.andThen,Dr.radI]
 by_cases h4 : y = 120
 · subst h4;have hf : Instr.findNow (.int .u8) (.int .u8 120) Dr.es.toList 0 = some (some (3,.int .i64 16)) := by rfl
   simp [Instr.lookup,run_underlying Tryz.underlying139,MapKept.run_getObj_map hb,hne,hc,MapKept.run_findKey Tryz.underlying5 hf,Result.andThen,Dr.radI]
 have hf : Instr.findNow (.int .u8) (.int .u8 y) Dr.es.toList 0 = some none := by
  have g1 : (y == 98) = false := beq_eq_false_iff_ne.2 h1;have g2 : (y == 111) = false := beq_eq_false_iff_ne.2 h2;have g3 : (y == 100) = false := beq_eq_false_iff_ne.2 h3;have g4 : (y == 120) = false := beq_eq_false_iff_ne.2 h4;simp only [Dr.es,Instr.findNow,Instr.sameNow,if_true,g1,g2,g3,g4]
 have hr : Dr.radI y = 0 := by unfold Dr.radI; rw [if_neg h1,if_neg h2,if_neg h3,if_neg h4]
 simp [Instr.lookup,run_underlying Tryz.underlying139,MapKept.run_getObj_map hb,hne,hc,MapKept.run_findKey Tryz.underlying5 hf,hz,Result.andThen,hr]
theorem Dr.map_made (w : World) : ∃ W0 W1 W2 W3 W4 : World,w.alloc (.map #[] 0) = W0 ∧
 (Instr.mapUpdate 139 (.map (some w.heap.size)) (.int .u8 98) (.int .i64 2)).run Tryz.prog W0 = .ok () W1 ∧
 (Instr.mapUpdate 139 (.map (some w.heap.size)) (.int .u8 111) (.int .i64 8)).run Tryz.prog W1 = .ok () W2 ∧
 (Instr.mapUpdate 139 (.map (some w.heap.size)) (.int .u8 100) (.int .i64 10)).run Tryz.prog W2 = .ok () W3 ∧
 (Instr.mapUpdate 139 (.map (some w.heap.size)) (.int .u8 120) (.int .i64 16)).run Tryz.prog W3 = .ok () W4 ∧
 Hid (Below w.heap.size w W4 ∧ ∀ y : Int,(Instr.lookup 139 (.map (some w.heap.size)) (.int .u8 y) false).run Tryz.prog W4 = .ok (.int .i64 (Dr.radI y)) W4) := by
 have b0 : (w.alloc (.map #[] 0)).heap[w.heap.size]? = some (.map #[] 0) := heap_alloc_new w _
 have st : ∀ (x : World) (o : Obj),Below w.heap.size w x → (∃ o',x.heap[w.heap.size]? = some o') → Below w.heap.size w { x with heap := x.heap.setIfInBounds w.heap.size o } ∧ ({ x with heap := x.heap.setIfInBounds w.heap.size o } : World).heap[w.heap.size]? = some o := fun x o hx ⟨o',ho⟩ => by
  obtain ⟨h1,h2⟩ := MapKept.heap_set (o' := o) ho;exact ⟨⟨hx.os,hx.tape,hx.output,by simpa using hx.size,fun q hq => (h2 q (by omega)).trans (hx.block q hq)⟩,h1⟩
 have B0 : Below w.heap.size w (w.alloc (.map #[] 0)) := (Below.refl _ _).alloc (Nat.le_refl _) _
 obtain ⟨B1,b1⟩ := st _ (.map (#[].push { key := .int .u8 98,val := .int .i64 2,born := 0 }) 1) B0 ⟨_,b0⟩
 obtain ⟨B2,b2⟩ := st _ (.map (#[({ key := .int .u8 98,val := .int .i64 2,born := 0 } : MapEntry)].push { key := .int .u8 111,val := .int .i64 8,born := 1 }) 2) B1 ⟨_,b1⟩
 obtain ⟨B3,b3⟩ := st _ (.map (#[({ key := .int .u8 98,val := .int .i64 2,born := 0 } : MapEntry),{ key := .int .u8 111,val := .int .i64 8,born := 1 }].push { key := .int .u8 100,val := .int .i64 10,born := 2 }) 3) B2 ⟨_,b2⟩
 obtain ⟨B4,b4⟩ := st _ (.map (#[({ key := .int .u8 98,val := .int .i64 2,born := 0 } : MapEntry),{ key := .int .u8 111,val := .int .i64 8,born := 1 },{ key := .int .u8 100,val := .int .i64 10,born := 2 }].push { key := .int .u8 120,val := .int .i64 16,born := 3 }) 4) B3 ⟨_,b3⟩
 exact ⟨_,_,_,_,_,rfl,Dr.map_put _ _ _ _ _ _ rfl b0,Dr.map_put _ _ _ _ _ _ rfl b1,Dr.map_put _ _ _ _ _ _ rfl b2,Dr.map_put _ _ _ _ _ _ rfl b3,Lib.hid ⟨B4,fun y => Dr.map_look _ _ _ y b4⟩⟩
theorem Dr.radI_eq (c : UInt8) : Dr.radI ((c.toNat : Nat) : Int) = (Dr.radix c : Int) := by
 unfold Dr.radI Dr.radix;have h : ∀ n : UInt8,(((c.toNat : Nat) : Int) = (n.toNat : Int)) = (c = n) := fun n => by
  apply propext;constructor
  · intro e; exact UInt8.toNat.inj (by omega)
  · rintro rfl; rfl
 have h1 := h 98;have h2 := h 111;have h3 := h 100;have h4 := h 120;simp only [show ((98 : UInt8).toNat : Int) = 98 from rfl,show ((111 : UInt8).toNat : Int) = 111 from rfl,show ((100 : UInt8).toNat : Int) = 100 from rfl,show ((120 : UInt8).toNat : Int) = 120 from rfl] at h1 h2 h3 h4;simp only [h1,h2,h3,h4];split
 · rfl
 · split
   · rfl
   · split
     · rfl
     · split <;> rfl
theorem Dr.pre_other {rx : Nat} {rs ex : Bool} {l : List UInt8} (h : ¬ l.take 1 = [35]) : Dr.pre rx rs ex l = some (rx,l) := by
 unfold Dr.pre;split
 · exact absurd rfl h
 · exact absurd rfl h
 · rfl
theorem Dr.pre_one {rx : Nat} {rs ex : Bool} : Dr.pre rx rs ex [35] = none := by unfold Dr.pre; rfl
theorem Dr.pre_two {rx : Nat} {rs ex : Bool} (c : UInt8) (r : List UInt8) : Dr.pre rx rs ex (35 :: c :: r) = if (decide (c ||| 32 = 101) && !ex) = true then Dr.pre rx rs true r else if (decide (0 < Dr.radix (c ||| 32)) && !rs) = true then Dr.pre (Dr.radix (c ||| 32)) true ex r else none := by
 rw [Dr.pre]
def Dr.PostP (b : Nat) (u : Int) (w : World) (R : Option (Nat × List UInt8)) (e : Ending) (w' : World) : Prop :=
 match R with
 | none => e = .returned (.bool false) ∧ Dr.Kept b w w'
 | some (rx,r) => ∃ s',e = .returned (.bool true) ∧ s'.data.toList = r ∧ Dr.XA b s' rx u w' ∧ Dr.Kept b w w'
def Dr.xlen (b : Nat) (w : World) : Nat := match w.cell? ⟨b,0,none⟩ with | some (.string s) => s.size | _ => 0
theorem Dr.XA.xlen {b rx : Nat} {s : ByteArray} {u : Int} {w : World} (h : Dr.XA b s rx u w) : Dr.xlen b w = s.size := by
 unfold Dr.xlen;rw [h.cells.1]
theorem Dr.radix_cases (c : UInt8) : Dr.radix c = 0 ∨ Dr.radix c = 2 ∨ Dr.radix c = 8 ∨ Dr.radix c = 10 ∨ Dr.radix c = 16 := by
 unfold Dr.radix;repeat' split
 all_goals simp
theorem Dr.or32 (c : UInt8) : bits .or .u8 ((c.toNat : Nat) : Int) 32 = (((c ||| 32).toNat : Nat) : Int) := by
 have h := (Dr.tab36 ⟨c.toNat,c.toNat_lt⟩).1;rw [UInt8.toNat_or];exact h
set_option maxHeartbeats 16000000
set_option maxRecDepth 1000000
theorem Dr.pre_any (b rx : Nat) (s : ByteArray) (u : Int) (w : World) (h : Dr.XA b s rx u w) (hs : s.size ≤ 1048576) :
 Calls Tryz.prog 101 #[.pointer (some ⟨b,0,none⟩)] w fun e w' => Dr.PostP b u w (Dr.pre rx false false s.data.toList) e w' := by
 obtain ⟨R,hR⟩ : ∃ z,Dr.pre rx false false s.data.toList = z := ⟨_,rfl⟩
 rw [hR]
 have hmm := @run_makeMap Tryz.prog 139
 have H0 := Lib.hid (show ∃ (rs ex : Bool) (s' : ByteArray) (rx' : Nat),Value.bool false = .bool rs ∧ Value.bool false = .bool ex ∧ Dr.XA b s' rx' u w ∧ Dr.Kept b w w ∧ Dr.pre rx' rs ex s'.data.toList = R ∧ s'.size ≤ 1048576 from
   ⟨false,false,s,rx,rfl,rfl,h,Dr.Kept.refl _ _,hR,hs⟩)
 clear h hR hs
 go_enter Tryz.func101,Tryz.ntmps101
 go_wp2_with fail
 go_loopw [3,4] (fun v3 v4 wr => ∃ (rs ex : Bool) (s' : ByteArray) (rx' : Nat),v3 = .bool rs ∧ v4 = .bool ex ∧ Dr.XA b s' rx' u wr ∧ Dr.Kept b w wr ∧ Dr.pre rx' rs ex s'.data.toList = R ∧ s'.size ≤ 1048576) (fun _ _ wr => Dr.xlen b wr)
 case atStart => exact H0.out
 case round =>
  obtain ⟨rs,ex,s',rx',rfl,rfl,hA,hK,hP,hsz⟩ := hrel
  clear H0
  obtain ⟨l,hl⟩ : ∃ l,s'.data.toList = l := ⟨_,rfl⟩
  rw [hl] at hP
  obtain ⟨c0,c1,c2⟩ := hA.cells
  have hlen := Dr.size_of hl
  have HKB := Lib.hid (And.intro hA hK)
  have HM := Lib.hid hA.xlen
  have HN0 := Lib.hid (fun (W : World) (hk : Dr.Kept b wr W) (hn : R = none) => show Dr.PostP b u w R (.returned (.bool false)) W from by
    rw [hn]; exact ⟨rfl,hK.trans hk⟩)
  by_cases h1 : l.take 1 = [35]
  · have KH : ∀ w',Calls Tryz.prog 35 #[.string s',.string ⟨#[35]⟩] w' fun e w'' => e = .returned (.bool true) ∧ w' = w'' := fun w' => by
     refine (Tryz.strings_HasPrefix s' ⟨#[35]⟩ w').mono ?_;rintro e w'' ⟨rfl,rfl⟩;rw [Dr.hasP,hl];exact ⟨congrArg (fun x => Ending.returned (Value.bool x)) (decide_eq_true h1),rfl⟩
    have KH2 := Lib.hid KH;clear KH;rcases l with _ | ⟨x,_ | ⟨c,r⟩⟩
    · simp at h1
    ·
     obtain rfl : x = 35 := by simpa using h1
     rw [Dr.pre_one] at hP
     have HE := Lib.hid (HN0.out wr (Dr.Kept.refl _ _) hP.symm)
     have hlI : (s'.size : Int) < 2 := by rw [hlen]; decide
     clear HN0 hP hl hlen hA hK h1 c1 c2 HKB
     go_wp2_with (first | (go_at_call 35; refine (KH2.out _).mono ?_; rintro x w' ⟨rfl,hw'⟩; subst hw'))
     go_ret
     exact HE.out
    ·
     obtain rfl : x = 35 := by simpa using h1
     rw [Dr.pre_two] at hP
     have hlI : ¬ (s'.size : Int) < 2 := by rw [hlen]; simp; omega
     have hl2I : 2 ≤ (s'.size : Int) := by omega
     have hpos : 1 < s'.size := by omega
     have hposI : 1 < (s'.size : Int) := by omega
     have hx : s'[1]'hpos = c := by
      rw [Dr.get_list s' 1 hpos];simp only [hl,List.getElem_cons_succ,List.getElem_cons_zero]
     have hor := Dr.or32 c
     obtain ⟨v,hv⟩ : ∃ z,(s'[1]'hpos).toNat = z := ⟨_,rfl⟩
     have hcv : c.toNat = v := by rw [← hx]; exact hv
     rw [hcv] at hor
     obtain ⟨y,hy⟩ : ∃ z,c ||| 32 = z := ⟨_,rfl⟩
     rw [hy] at hor hP
     obtain ⟨yi,hyi⟩ : ∃ z : Int,(y.toNat : Int) = z := ⟨_,rfl⟩
     have hrad := Dr.radI_eq y
     rw [hyi] at hor hrad
     obtain ⟨s2,hs2⟩ : ∃ z,s'.extract 2 s'.size = z := ⟨_,rfl⟩
     have hs2l : s2.data.toList = r := by rw [← hs2,Dr.extE,hl]; rfl
     have hs2z : s2.size + 2 = s'.size := by rw [Dr.size_of hs2l,hlen]; simp
     have HGO := Lib.hid (fun (rs' ex' : Bool) (rx2 : Nat) (hP2 : Dr.pre rx2 rs' ex' r = R) (W : World) (hXW : Dr.XA b s2 rx2 u W) (hKW : Dr.Kept b wr W) => show (∃ (rs ex : Bool) (s' : ByteArray) (rx' : Nat),Value.bool rs' = .bool rs ∧ Value.bool ex' = .bool ex ∧ Dr.XA b s' rx' u W ∧ Dr.Kept b w W ∧ Dr.pre rx' rs ex s'.data.toList = R ∧ s'.size ≤ 1048576) ∧ Dr.xlen b W < Dr.xlen b wr from
       ⟨⟨rs',ex',s2,rx2,rfl,rfl,hXW,hK.trans hKW,by rw [hs2l]; exact hP2,by omega⟩,by rw [hXW.xlen,hA.xlen]; omega⟩)
     have hy101 : (yi == 101) = decide (y = 101) := by
      rw [Bool.eq_iff_iff,beq_iff_eq,decide_eq_true_eq,← hyi];constructor
      · intro e; exact UInt8.toNat.inj (by show y.toNat = 101; omega)
      · rintro rfl; rfl
     have hrc := Dr.radix_cases y
     have HA := Lib.hid hA
     clear hcv hx hy hyi hs2l hs2z hl hlen hK h1 HKB c1 c2 hA HM
     cases hd1 : (decide (y = 101) && !ex) with
     | true =>
       rw [hd1,if_pos rfl] at hP
       obtain ⟨W,hW,hfz,hXW,hKW,hzW⟩ := HA.out.setS s2
       have HE := Lib.hid (HGO.out rs true rx' hP W hXW hKW)
       simp only [Bool.and_eq_true,Bool.not_eq_true'] at hd1
       obtain ⟨hd1a,rfl⟩ := hd1
       rw [hd1a] at hy101
       clear HGO HN0 hP hXW hKW hzW hd1a hrad hrc
       go_wp2_with (first | (go_at_call 35; refine (KH2.out _).mono ?_; rintro x w' ⟨rfl,hw'⟩; subst hw'))
       exact HE.out
     | false =>
       rw [hd1,if_neg (by simp)] at hP
       have hcase : decide (y = 101) = false ∨ (decide (y = 101) = true ∧ ex = true) := by
        cases e1 : decide (y = 101)
        · exact .inl rfl
        · cases e2 : ex
          · rw [e1,e2] at hd1; simp at hd1
          · exact .inr ⟨rfl,rfl⟩
       obtain ⟨W0,W1,W2,W3,W4,m0,m1,m2,m3,m4,HM4⟩ := Dr.map_made wr
       have m5 := HM4.out.2 yi
       have hKm := Dr.Kept.of_below (b := b) HM4.out.1
       have hAm := HA.out.below HM4.out.1
       obtain ⟨d0,d1,d2⟩ := hAm.cells
       rw [hrad] at m5
       cases hd2 : (decide (0 < Dr.radix y) && !rs) with
       | true =>
         rw [hd2,if_pos rfl] at hP
         simp only [Bool.and_eq_true,Bool.not_eq_true',decide_eq_true_eq] at hd2
         obtain ⟨hd2a,rfl⟩ := hd2
         obtain ⟨q,hq⟩ : ∃ q,Dr.radix y = q := ⟨_,rfl⟩
         rw [hq] at hP m5 hd2a
         obtain ⟨W5,hW5,hfz5,hX5,hK5,hz5⟩ := hAm.setR q
         obtain ⟨g0,g1,g2⟩ := hX5.cells
         obtain ⟨W6,hW6,hfz6,hX6,hK6,hz6⟩ := hX5.setS s2
         have HE := Lib.hid (HGO.out true ex q hP W6 hX6 ((hKm.trans hK5).trans hK6))
         have hqI : 0 < (q : Int) := by omega
         have hqd : decide (0 < (q : Int)) = true := decide_eq_true hqI
         clear HGO HN0 hP hX5 hK5 hz5 hX6 hK6 hz6 hKm hAm hq hrad hrc HM4 hd1 hd2a
         rcases hcase with e | ⟨e,rfl⟩
         all_goals
          rw [e] at hy101
          clear e
          go_wp2_with (first | (go_at_call 35; refine (KH2.out _).mono ?_; rintro x w' ⟨rfl,hw'⟩; subst hw'))
          exact HE.out
       | false =>
         rw [hd2,if_neg (by simp)] at hP
         have HE := Lib.hid (HN0.out W4 hKm hP.symm)
         have hcase2 : Dr.radix y = 0 ∨ (0 < Dr.radix y ∧ rs = true) := by
          cases e2 : rs
          · rw [e2] at hd2; simp at hd2; exact .inl hd2
          · rcases Nat.eq_zero_or_pos (Dr.radix y) with h | h
            · exact .inl h
            · exact .inr ⟨h,rfl⟩
         clear HGO HN0 hP hKm hAm hrad hrc HM4 hd1 hd2
         rcases hcase with e | ⟨e,rfl⟩
         all_goals
          rcases hcase2 with e2 | ⟨e2,rfl⟩
          · rw [e2] at m5;rw [e] at hy101;clear e e2;go_wp2_with (first | (go_at_call 35; refine (KH2.out _).mono ?_; rintro x w' ⟨rfl,hw'⟩; subst hw'));go_ret;exact HE.out
          · obtain ⟨q,hq⟩ : ∃ q,Dr.radix y = q := ⟨_,rfl⟩;rw [hq] at e2 m5;have hqI : 0 < (q : Int) := by omega
            rw [e] at hy101;clear e e2 hq;go_wp2_with (first | (go_at_call 35; refine (KH2.out _).mono ?_; rintro x w' ⟨rfl,hw'⟩; subst hw'));go_ret;exact HE.out
  · have KH : ∀ w',Calls Tryz.prog 35 #[.string s',.string ⟨#[35]⟩] w' fun e w'' => e = .returned (.bool false) ∧ w' = w'' := fun w' => by
     refine (Tryz.strings_HasPrefix s' ⟨#[35]⟩ w').mono ?_;rintro e w'' ⟨rfl,rfl⟩;rw [Dr.hasP,hl];exact ⟨congrArg (fun x => Ending.returned (Value.bool x)) (decide_eq_false h1),rfl⟩
    have KH2 := Lib.hid KH;rw [Dr.pre_other h1] at hP;have HE := Lib.hid (show Dr.PostP b u w R (.returned (.bool true)) wr from by rw [← hP]; exact ⟨s',rfl,hl,hA,hK⟩);clear KH hP hA hK hl h1 HN0 HKB hlen;go_wp2_with (first | (go_at_call 35; refine (KH2.out _).mono ?_; rintro x w' ⟨rfl,hw'⟩; subst hw'));go_ret;exact HE.out
set_option maxHeartbeats 200000
set_option maxRecDepth 512
theorem Dr.R_open {w : World} {v : Value} {s : Bool} {t d : Nat} (h : Rt.R w v s t d) : ∃ (s' : Bool) (a1 : Option Addr) (n1 c1 : Nat) (a2 : Option Addr) (n2 c2 : Nat),v = .agg #[.bool s',.slice a1 n1 c1,.slice a2 n2 c2] ∧ Hid (Rt.R w (.agg #[.bool s',.slice a1 n1 c1,.slice a2 n2 c2]) s t d) := by
 obtain ⟨tv,bv,rfl,hn,hd⟩ := h;obtain ⟨ad1,cap1,rfl⟩ := Nt.In.slice hn;obtain ⟨ad2,cap2,rfl⟩ := Nt.In.slice hd;exact ⟨_,_,_,_,_,_,_,rfl,Lib.hid ⟨_,_,rfl,hn,hd⟩⟩
def Dr.Num2 (w w' : World) : Prop := ∀ v n,Nt.N w v n → Nt.N w' v n
theorem Dr.Num2.R {w w' : World} (h : Dr.Num2 w w') {v : Value} {s : Bool} {t d : Nat} (hr : Rt.R w v s t d) : Rt.R w' v s t d := by
 obtain ⟨tv,bv,e,hn,hd⟩ := hr;exact ⟨tv,bv,e,h _ _ hn,h _ _ hd⟩
theorem Dr.Num2.below {w w' : World} (h : Below w.heap.size w w') : Dr.Num2 w w' := fun v n hn => hn.below h (Nat.le_refl _)
theorem Dr.Num2.kept {b rx : Nat} {s : ByteArray} {u : Int} {w w' : World} (hx : Dr.XA b s rx u w) (hk : Dr.Kept b w w') : Dr.Num2 w w' := fun v n hn => Dr.N_kept hn hk (Dr.N_off hn hx)
theorem Dr.put_same {w : World} {b : Nat} {C : Array Value} {t : TypeId} (h : w.heap[b]? = some (.cells C t (0,0))) (k : Nat) (u : Value) (hu : C[k]? = some u) : w.setCell ⟨b,k,none⟩ u = w := by
 have h1 := Rt.setCells h k u;obtain ⟨hlt,he⟩ := Array.getElem?_eq_some_iff.1 hu;have e : C.set! k u = C := by
  rw [Array.set!_eq_setIfInBounds];apply Array.ext_getElem?;intro i;rw [Array.getElem?_setIfInBounds];by_cases hi : k = i
  · subst hi;rw [if_pos rfl,if_pos hlt,hu]
  · rw [if_neg hi]
 rw [e] at h1;have hh : (w.setCell ⟨b,k,none⟩ u).heap = w.heap := by
  apply Array.ext_getElem?;intro q;by_cases hq : q = b
  · subst hq;rw [h1,h]
  · exact Below.heap_setCell w ⟨b,k,none⟩ u q hq
 show { w with heap := (w.setCell ⟨b,k,none⟩ u).heap } = w;rw [hh]
theorem Dr.same3 {w : World} {b : Nat} {v0 v1 v2 : Value} {t : TypeId} (h : w.heap[b]? = some (.cells #[v0,v1,v2] t (0,0))) :
 (w.setCell ⟨b,0,none⟩ v0 = w ∧ w.setCell ⟨b,1,none⟩ v1 = w ∧ w.setCell ⟨b,2,none⟩ v2 = w) ∧ (w.frozen? ⟨b,0,none⟩ = false ∧ w.frozen? ⟨b,1,none⟩ = false ∧ w.frozen? ⟨b,2,none⟩ = false) :=
 ⟨⟨Dr.put_same h 0 _ rfl,Dr.put_same h 1 _ rfl,Dr.put_same h 2 _ rfl⟩,Rt.frozen_of h 0,Rt.frozen_of h 1,Rt.frozen_of h 2⟩
structure Dr.NS (b rx : Nat) (w0 : World) (B p : Nat) (C2 C3 C5 : Array Value) (s : ByteArray) (u : Int) (w : World) : Prop where
 x : Dr.XA b s rx u w
 k : Dr.Kept b w0 w
 c2 : w.heap[B]? = some (.cells C2 24 (0,0))
 c3 : w.heap[B + 1]? = some (.cells C3 24 (0,0))
 c5 : w.heap[p]? = some (.cells C5 24 (0,0))
 hb : b < B
 hB : w0.heap.size = B
 hp : B + 1 < p
theorem Dr.NS.lt {b rx : Nat} {w0 : World} {B p : Nat} {C2 C3 C5 : Array Value} {s : ByteArray} {u : Int} {w : World} (h : Dr.NS b rx w0 B p C2 C3 C5 s u w) : p < w.heap.size := (Array.getElem?_eq_some_iff.1 h.c5).1
theorem Dr.NS.step {b rx : Nat} {w0 : World} {B p : Nat} {C2 C3 C5 : Array Value} {s s' : ByteArray} {u u' : Int} {w w' : World} (h : Dr.NS b rx w0 B p C2 C3 C5 s u w) (hk : Dr.Kept b w w') (hx : Dr.XA b s' rx u' w') : Dr.NS b rx w0 B p C2 C3 C5 s' u' w' ∧ Dr.Num2 w w' := by
 have h1 := h.lt;have h2 := h.hb;have h3 := h.hp;exact ⟨⟨hx,h.k.trans hk,(hk.block B (by omega) (by omega)).trans h.c2,(hk.block (B + 1) (by omega) (by omega)).trans h.c3,(hk.block p h1 (by omega)).trans h.c5,h2,h.hB,h3⟩,Dr.Num2.kept h.x hk⟩
theorem Dr.NS.below {b rx : Nat} {w0 : World} {B p : Nat} {C2 C3 C5 : Array Value} {s : ByteArray} {u : Int} {w w' : World} (h : Dr.NS b rx w0 B p C2 C3 C5 s u w) (hk : Below w.heap.size w w') : Dr.NS b rx w0 B p C2 C3 C5 s u w' ∧ Dr.Num2 w w' :=
 h.step (Dr.Kept.of_below hk) (h.x.below hk)
theorem Dr.kept_put {b p : Nat} {w0 w W : World} (h : Dr.Kept b w0 w) (hs : W.heap.size = w.heap.size) (hq : ∀ q,q ≠ p → W.heap[q]? = w.heap[q]?) (hb : ∀ (B : Nat) (v0 : World),Below B v0 w → B ≤ p → Below B v0 W) (hp : w0.heap.size ≤ p) : Dr.Kept b w0 W := by
 have h0 := hb p w (Below.refl _ _) (Nat.le_refl _);exact ⟨h0.os.trans h.os,h0.tape.trans h.tape,h0.output.trans h.output,Nat.le_trans h.size h0.size,fun q hl hne => (hq q (by omega)).trans (h.block q hl hne)⟩
theorem Dr.NS.put2 {b rx : Nat} {w0 : World} {B p : Nat} {sA : Bool} {a1 a2 : Option Addr} {n1 n2 c1 c2 : Nat} {C3 C5 : Array Value} {s : ByteArray} {u : Int} {w : World} (h : Dr.NS b rx w0 B p #[.bool sA,.slice a1 n1 c1,.slice a2 n2 c2] C3 C5 s u w) (u0 u1 u2 : Value) :
 ∃ W1 W2 W3 : World,
 (w.cell? ⟨B,0,none⟩ = some (.bool sA) ∧ w.frozen? ⟨B,0,none⟩ = false ∧ w.setCell ⟨B,0,none⟩ u0 = W1) ∧
 (W1.cell? ⟨B,1,none⟩ = some (.slice a1 n1 c1) ∧ W1.frozen? ⟨B,1,none⟩ = false ∧ W1.setCell ⟨B,1,none⟩ u1 = W2) ∧
 (W2.cell? ⟨B,2,none⟩ = some (.slice a2 n2 c2) ∧ W2.frozen? ⟨B,2,none⟩ = false ∧ W2.setCell ⟨B,2,none⟩ u2 = W3) ∧
 Hid (Dr.NS b rx w0 B p #[u0,u1,u2] C3 C5 s u W3 ∧ Dr.Num2 w W3) := by
 obtain ⟨W1,W2,W3,e1,e2,e3,_,HX⟩ := Rt.put3 h.c2 u0 u1 u2
 have h1 := h.hb
 have h2 := h.hB
 have h3 := h.hp
 refine ⟨W1,W2,W3,e1,e2,e3,Lib.hid ⟨⟨(HX.out.2.2.1 b (by omega)).trans h.x,Dr.kept_put h.k HX.out.2.1 HX.out.2.2.1 HX.out.2.2.2 (by omega),HX.out.1,(HX.out.2.2.1 (B + 1) (by omega)).trans h.c3,(HX.out.2.2.1 p (by omega)).trans h.c5,h1,h2,h3⟩,fun v n hn => Nt.In.othr hn h.c2 Rt.noWords HX.out.2.2.1 HX.out.2.1⟩⟩
theorem Dr.NS.put3 {b rx : Nat} {w0 : World} {B p : Nat} {sA : Bool} {a1 a2 : Option Addr} {n1 n2 c1 c2 : Nat} {C2 C5 : Array Value} {s : ByteArray} {u : Int} {w : World} (h : Dr.NS b rx w0 B p C2 #[.bool sA,.slice a1 n1 c1,.slice a2 n2 c2] C5 s u w) (u0 u1 u2 : Value) :
 ∃ W1 W2 W3 : World,
 (w.cell? ⟨B + 1,0,none⟩ = some (.bool sA) ∧ w.frozen? ⟨B + 1,0,none⟩ = false ∧ w.setCell ⟨B + 1,0,none⟩ u0 = W1) ∧
 (W1.cell? ⟨B + 1,1,none⟩ = some (.slice a1 n1 c1) ∧ W1.frozen? ⟨B + 1,1,none⟩ = false ∧ W1.setCell ⟨B + 1,1,none⟩ u1 = W2) ∧
 (W2.cell? ⟨B + 1,2,none⟩ = some (.slice a2 n2 c2) ∧ W2.frozen? ⟨B + 1,2,none⟩ = false ∧ W2.setCell ⟨B + 1,2,none⟩ u2 = W3) ∧
 Hid (Dr.NS b rx w0 B p C2 #[u0,u1,u2] C5 s u W3 ∧ Dr.Num2 w W3) := by
 obtain ⟨W1,W2,W3,e1,e2,e3,_,HX⟩ := Rt.put3 h.c3 u0 u1 u2
 have h1 := h.hb
 have h2 := h.hB
 have h3 := h.hp
 refine ⟨W1,W2,W3,e1,e2,e3,Lib.hid ⟨⟨(HX.out.2.2.1 b (by omega)).trans h.x,Dr.kept_put h.k HX.out.2.1 HX.out.2.2.1 HX.out.2.2.2 (by omega),(HX.out.2.2.1 B (by omega)).trans h.c2,HX.out.1,(HX.out.2.2.1 p (by omega)).trans h.c5,h1,h2,h3⟩,fun v n hn => Nt.In.othr hn h.c3 Rt.noWords HX.out.2.2.1 HX.out.2.1⟩⟩
def Dr.PostM (b rx : Nat) (w : World) (R : Option (Dr.Fr × Dr.Fr × Int)) (e : Ending) (w' : World) : Prop :=
 match R with
 | none => ∃ v1 v2,e = .returned (.tuple #[v1,v2,.bool false]) ∧ (∃ f t d,Rt.R w' v1 f t d) ∧ (∃ f t d,Rt.R w' v2 f t d) ∧ Dr.Kept b w w'
 | some (re,im,u') => ∃ v1 v2 s',e = .returned (.tuple #[v1,v2,.bool true]) ∧ Rt.R w' v1 re.1 re.2.1 re.2.2 ∧ Rt.R w' v2 im.1 im.2.1 im.2.2 ∧ Dr.XA b s' rx u' w' ∧ Dr.Kept b w w'
end Go.Proofs.YteklhapffplohaaGreatDoor
