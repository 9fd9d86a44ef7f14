/-
  The reader in memory; its peek and next. The reader's peek at a bad byte; its next; lineEnd and delimiter of any character. strings.IndexRune of write's two constant texts at a character beyond ASCII: it is not there.
-/
import Derived.WalkKit
import Derived.WalkMore
import Derived.WalkLawsBesides
import Derived.Below
import Derived.Lib.Hide
import Derived.Lib.SmallJoins
import Derived.Deep.RegionHeld3
import Derived.Test.YteklhapffplohaaGreatDoorProg
import Derived.WalkSpells
import Derived.Handy
import Derived.Test.YteklhapffplohaaGreatDoorOd
import Derived.Test.YteklhapffplohaaGreatDoorShelfO
import Derived.Test.YteklhapffplohaaGreatDoorOa
set_option maxHeartbeats 4000000
set_option maxRecDepth 1000000
set_option linter.unusedVariables false
set_option linter.unusedSimpArgs false
namespace Go.Proofs.YteklhapffplohaaGreatDoor
open Go.RowKit
structure Dr.Kept (b : Nat) (w w' : World) : Prop where
 os : w'.os = w.os
 tape : w'.tape = w.tape
 output : w'.output = w.output
 size : w.heap.size ≤ w'.heap.size
 block : ∀ q,q < w.heap.size → q ≠ b → w'.heap[q]? = w.heap[q]?
theorem Dr.Kept.refl (b : Nat) (w : World) : Dr.Kept b w w := ⟨rfl,rfl,rfl,Nat.le_refl _,fun _ _ _ => rfl⟩
theorem Dr.Kept.trans {b : Nat} {w1 w2 w3 : World} (h : Dr.Kept b w1 w2) (k : Dr.Kept b w2 w3) : Dr.Kept b w1 w3 :=
 ⟨k.os.trans h.os,k.tape.trans h.tape,k.output.trans h.output,Nat.le_trans h.size k.size,fun q hq hb => (k.block q (Nat.lt_of_lt_of_le hq h.size) hb).trans (h.block q hq hb)⟩
theorem Dr.Kept.of_below {b : Nat} {w w' : World} (h : Below w.heap.size w w') : Dr.Kept b w w' := ⟨h.os,h.tape,h.output,h.size,fun q hq _ => h.block q hq⟩
structure Dr.At (b : Nat) (S : ByteArray) (l : List UInt8) (g : Bool) (w : World) : Prop where
 blk : w.heap[b]? = some (.cells #[.string S,.int .i64 ((S.size - l.length : Nat) : Int),.bool g] 49 (0,0))
 suf : S.data.toList.drop (S.size - l.length) = l
 le : l.length ≤ S.size
theorem Dr.At.lt {b : Nat} {S : ByteArray} {l : List UInt8} {g : Bool} {w : World} (h : Dr.At b S l g w) : b < w.heap.size := (Array.getElem?_eq_some_iff.1 h.blk).1
theorem Dr.At.below {b : Nat} {S : ByteArray} {l : List UInt8} {g : Bool} {w w' : World} (h : Dr.At b S l g w) (hb : Below w.heap.size w w') : Dr.At b S l g w' := ⟨(hb.block b h.lt).trans h.blk,h.suf,h.le⟩
theorem Dr.At.cells {b : Nat} {S : ByteArray} {l : List UInt8} {g : Bool} {w : World} (h : Dr.At b S l g w) : w.cell? ⟨b,0,none⟩ = some (.string S) ∧ w.cell? ⟨b,1,none⟩ = some (.int .i64 ((S.size - l.length : Nat) : Int)) ∧ w.cell? ⟨b,2,none⟩ = some (.bool g) :=
 ⟨Lib.cell_of_heap h.blk 0,Lib.cell_of_heap h.blk 1,Lib.cell_of_heap h.blk 2⟩
theorem Dr.At.sub {b : Nat} {S : ByteArray} {l : List UInt8} {g : Bool} {w : World} (h : Dr.At b S l g w) : S.extract (S.size - l.length) S.size = ⟨l.toArray⟩ := by
 apply ByteArray.ext;apply Array.ext';rw [ByteArray.data_extract,Array.toList_extract,← h.suf];simp only [List.extract_eq_take_drop];have := h.le;have e : S.size = S.data.toList.length := by simp
 rw [List.length_drop];show _ = List.drop _ S.data.toList;rw [List.take_of_length_le (by rw [List.length_drop]; omega)];congr 1;omega
theorem Dr.At.move {b : Nat} {S : ByteArray} {l r : List UInt8} {g : Bool} {w : World} (h : Dr.At b S l g w) (hr : r = l.drop (l.length - r.length)) (hl : r.length ≤ l.length) :
 ∃ W,w.setCell ⟨b,1,none⟩ (.int .i64 ((S.size - r.length : Nat) : Int)) = W ∧ w.frozen? ⟨b,1,none⟩ = false ∧ Dr.At b S r g W ∧ Dr.Kept b w W ∧ W.heap.size = w.heap.size := by
 have hq := h.blk
 have hle := h.le
 refine ⟨_,rfl,by simp [World.frozen?,hq],⟨?_,?_,by omega⟩,⟨rfl,rfl,rfl,by simp,fun q hq hne => ?_⟩,by simp⟩
 · have := heap_setCell_same w b 1 _ _ (.int .i64 ((S.size - r.length : Nat) : Int)) hq;exact this
 · rw [hr];have e : S.size - (l.drop (l.length - r.length)).length = (S.size - l.length) + (l.length - r.length) := by rw [List.length_drop]; omega
   rw [e,← List.drop_drop,h.suf]
 · exact heap_setCell_other w ⟨b,1,none⟩ q _ (fun e => hne (by simp [e]))
def Dr.dead : Ending := .panicked [{ v := .iface 51 (.agg #[.int .i64 5]),recovered := false }]
theorem Dr.decode (l : List UInt8) (h : l ≠ []) : Lib.decodeGo ⟨l.toArray⟩ = Lib.decodeL l := by
 unfold Lib.decodeGo;rw [if_neg]
 · rfl
 · show ¬ (List.toArray l).size = 0;simpa using h
theorem Dr.stop_any (p : Value) (w : World) : Calls Tryz.prog 37 #[p,.int .i64 5] w fun e w' => e = Dr.dead ∧ w = w' := by
 go_enter Tryz.func37,Tryz.ntmps37;go_wp2_with fail;exact ⟨rfl,rfl,rfl⟩
theorem Dr.peek_end (b : Nat) (S : ByteArray) (g : Bool) (w : World) (h : Dr.At b S [] g w) :
 Calls Tryz.prog 32 #[.pointer (some ⟨b,0,none⟩)] w fun e w' => e = .returned (.tuple #[.int .i32 0,.int .i64 0]) ∧ Below w.heap.size w w' := by
 obtain ⟨c0,c1,c2⟩ := h.cells
 rw [show S.size - ([] : List UInt8).length = S.size by simp] at c1
 clear h
 go_enter Tryz.func32,Tryz.ntmps32
 go_wp2_with fail
 go_region
 all_goals
  go_wp2_with fail
  go_ret2
  exact ⟨rfl,Below.drew (Below.refl _ _)⟩
theorem Dr.At.pos {b : Nat} {S : ByteArray} {l : List UInt8} {g : Bool} {w : World} (h : Dr.At b S l g w) (hl : l ≠ []) : ((S.size - l.length : Nat) : Int) < (S.size : Int) ∧ 0 ≤ ((S.size - l.length : Nat) : Int) := by
 have := List.length_pos_iff.2 hl;have := h.le;omega
theorem Dr.cp_i32 (l : List UInt8) (h : l ≠ []) : 0 ≤ Dr.cp l ∧ Dr.cp l ≤ 1114111 := by
 have := Ru.decode_ok l h;unfold Ru.okR at this;unfold Dr.cp;omega
theorem Dr.peek_ok (b : Nat) (S : ByteArray) (l : List UInt8) (g : Bool) (w : World) (h : Dr.At b S l g w) (hl : l ≠ []) (hb : Dr.bad l = false) (hT : Lib.Utf8Tabs 0 1 w) :
 Calls Tryz.prog 32 #[.pointer (some ⟨b,0,none⟩)] w fun e w' => e = .returned (.tuple #[.int .i32 (Dr.cp l),.int .i64 (Dr.wd l)]) ∧ Below w.heap.size w w' := by
 obtain ⟨c0,c1,c2⟩ := h.cells
 obtain ⟨hp1,hp2⟩ := h.pos hl
 have hsub := h.sub
 have hbl := h.lt
 have KD := Lib.hid (Tryz.utf8_DecodeRuneInString ⟨l.toArray⟩ w.drew.drew hT)
 rw [Dr.decode l hl] at KD
 have hnb : (Dr.cp l == 65533) = false ∨ ((Dr.cp l == 65533) = true ∧ ((Dr.wd l : Int) == 1) = false) := by
  unfold Dr.bad at hb;by_cases h1 : Dr.cp l = 65533
  · rw [decide_eq_true h1,Bool.true_and] at hb;exact .inr ⟨by rw [h1]; rfl,beq_eq_false_iff_ne.2 (by have := of_decide_eq_false hb; omega)⟩
  · exact .inl (beq_eq_false_iff_ne.2 h1)
 have e1 : ((Lib.decodeL l).1 : Int) = Dr.cp l := rfl
 have e2 : (Lib.decodeL l).2 = Dr.wd l := rfl
 rw [e1,e2] at KD
 obtain ⟨p,hp⟩ : ∃ z,S.size - l.length = z := ⟨_,rfl⟩
 rw [hp] at c1 hp1 hp2 hsub
 have hp3 : (p : Int) ≤ (S.size : Int) := by omega
 have HS := Lib.hid (fun (w' : World) (hb : Below w.heap.size w w') => (show w'.cell? ⟨b,0,none⟩ = some (.string S) ∧ w'.cell? ⟨b,1,none⟩ = some (.int .i64 (p : Int)) from ⟨(hb.cell (p := ⟨b,0,none⟩) hbl).trans c0,(hb.cell (p := ⟨b,1,none⟩) hbl).trans c1⟩))
 generalize Dr.cp l = c at *
 generalize Dr.wd l = n at *
 clear h hT hb hl hp e1 e2 hbl c2
 go_enter Tryz.func32,Tryz.ntmps32
 go_wp2_with fail
 go_region
 all_goals
  go_wp2_with fail
  have hkeep := HS.out _ (Below.drew (Below.refl _ _))
  go_region_held3 (fun w' => w'.cell? ⟨b,0,none⟩ = some (.string S) ∧ w'.cell? ⟨b,1,none⟩ = some (.int .i64 (p : Int)))
   (first | exact hkeep)
   (first
     | (go_at_call 64
        refine KD.out.mono ?_
        rintro x w2 ⟨rfl,hb2⟩
        have hacc : Below w.heap.size w w2 := (Below.drew (Below.drew (Below.refl _ _))).trans hb2
        have hkeep := HS.out _ hacc))
  rcases hnb with h1 | ⟨h1,h2⟩
  all_goals
   go_wp2_with fail
   go_ret2
   exact ⟨rfl,hacc⟩
theorem Dr.peek_bad (b : Nat) (S : ByteArray) (l : List UInt8) (g : Bool) (w : World) (h : Dr.At b S l g w) (hl : l ≠ []) (hb : Dr.bad l = true) (hT : Lib.Utf8Tabs 0 1 w) :
 Calls Tryz.prog 32 #[.pointer (some ⟨b,0,none⟩)] w fun e w' => e = Dr.dead ∧ Below w.heap.size w w' := by
 obtain ⟨c0,c1,c2⟩ := h.cells
 obtain ⟨hp1,hp2⟩ := h.pos hl
 have hsub := h.sub
 have hbl := h.lt
 have KD := Lib.hid (Tryz.utf8_DecodeRuneInString ⟨l.toArray⟩ w.drew.drew hT)
 rw [Dr.decode l hl] at KD
 have e1 : ((Lib.decodeL l).1 : Int) = 65533 ∧ ((Lib.decodeL l).2 : Int) = 1 := by
  unfold Dr.bad at hb;simp only [Bool.and_eq_true,decide_eq_true_eq] at hb;have h1 : ((Lib.decodeL l).1 : Int) = 65533 := hb.1;have h2 : (Lib.decodeL l).2 = 1 := hb.2;exact ⟨h1,by omega⟩
 rw [e1.1,e1.2] at KD
 obtain ⟨p,hp⟩ : ∃ z,S.size - l.length = z := ⟨_,rfl⟩
 rw [hp] at c1 hp1 hp2 hsub
 have hp3 : (p : Int) ≤ (S.size : Int) := by omega
 have HS := Lib.hid (fun (w' : World) (hb : Below w.heap.size w w') => (show w'.cell? ⟨b,0,none⟩ = some (.string S) ∧ w'.cell? ⟨b,1,none⟩ = some (.int .i64 (p : Int)) from ⟨(hb.cell (p := ⟨b,0,none⟩) hbl).trans c0,(hb.cell (p := ⟨b,1,none⟩) hbl).trans c1⟩))
 clear h hT hb hl hp e1 hbl c2
 go_enter Tryz.func32,Tryz.ntmps32
 go_wp2_with fail
 go_region
 all_goals
  go_wp2_with fail
  have hkeep := HS.out _ (Below.drew (Below.refl _ _))
  go_region_held3 (fun w' => w'.cell? ⟨b,0,none⟩ = some (.string S) ∧ w'.cell? ⟨b,1,none⟩ = some (.int .i64 (p : Int)))
   (first | exact hkeep)
   (first
     | (go_at_call 64
        refine KD.out.mono ?_
        rintro x w2 ⟨rfl,hb2⟩
        have hacc : Below w.heap.size w w2 := (Below.drew (Below.drew (Below.refl _ _))).trans hb2
        have hkeep := HS.out _ hacc))
  go_wp2_with fail
  refine (Dr.stop_any _ _).mono ?_
  rintro x w3 ⟨rfl,hw3⟩
  subst hw3
  unfold Dr.dead
  go_wp2_with fail
  exact ⟨rfl,rfl,hacc⟩
theorem Dr.next_none (b : Nat) (S : ByteArray) (l : List UInt8) (g : Bool) (w : World) (h : Dr.At b S l g w) (hn : Dr.next l = none) (hT : Lib.Utf8Tabs 0 1 w) :
 Calls Tryz.prog 66 #[.pointer (some ⟨b,0,none⟩)] w fun e w' => e = Dr.dead ∧ Below w.heap.size w w' := by
 unfold Dr.next at hn
 by_cases hl : l = []
 · subst hl;have KP := Dr.peek_end b S g w h;clear h hn hT;go_enter Tryz.func66,Tryz.ntmps66;go_wp2_with fail;refine KP.mono ?_;rintro x w1 ⟨rfl,hb1⟩;go_wp2_with fail;refine (Dr.stop_any _ _).mono ?_;rintro x w3 ⟨rfl,hw3⟩;subst hw3;unfold Dr.dead;go_wp2_with fail;exact ⟨rfl,rfl,hb1⟩
 · rw [if_neg hl] at hn;have hb : Dr.bad l = true := by
    cases e : Dr.bad l
    · rw [e] at hn; simp at hn
    · rfl
   have KP := Dr.peek_bad b S l g w h hl hb hT;clear h hn hT hb hl;go_enter Tryz.func66,Tryz.ntmps66;go_wp2_with fail;refine KP.mono ?_;rintro x w1 ⟨rfl,hb1⟩;unfold Dr.dead;go_wp2_with fail;exact ⟨rfl,rfl,hb1⟩
theorem Dr.At.step {b : Nat} {S : ByteArray} {l : List UInt8} {g : Bool} {w : World} (h : Dr.At b S l g w) (n : Nat) (hn : n ≤ l.length) :
 ∃ W,w.setCell ⟨b,1,none⟩ (.int .i64 (((S.size - l.length : Nat) : Int) + (n : Int))) = W ∧ w.frozen? ⟨b,1,none⟩ = false ∧ Dr.At b S (l.drop n) g W ∧ Dr.Kept b w W ∧ W.heap.size = w.heap.size := by
 have hle := h.le
 obtain ⟨W,h1,h2,h3,h4,h5⟩ := h.move (r := l.drop n) (by rw [List.length_drop,show l.length - (l.length - n) = n by omega]) (by rw [List.length_drop]; omega)
 refine ⟨W,?_,h2,h3,h4,h5⟩
 rw [← h1,List.length_drop,show ((S.size - (l.length - n) : Nat) : Int) = ((S.size - l.length : Nat) : Int) + (n : Int) by omega]
theorem Dr.next_ok (b : Nat) (S : ByteArray) (l : List UInt8) (g : Bool) (c : Int) (r : List UInt8) (w : World) (h : Dr.At b S l g w) (hs : S.size ≤ 9223372036854775807) (hn : Dr.next l = some (c,r)) (hT : Lib.Utf8Tabs 0 1 w) :
 Calls Tryz.prog 66 #[.pointer (some ⟨b,0,none⟩)] w fun e w' => e = .returned (.int .i32 c) ∧ Dr.At b S r g w' ∧ Dr.Kept b w w' := by
 unfold Dr.next at hn
 by_cases hl : l = []
 · rw [if_pos hl] at hn; cases hn
 rw [if_neg hl] at hn
 cases hb : Dr.bad l with
 | true => rw [hb] at hn; simp at hn
 | false =>
 rw [hb] at hn
 simp only [Bool.false_eq_true,if_false,Option.some.injEq,Prod.mk.injEq] at hn
 obtain ⟨rfl,rfl⟩ := hn
 have KP := Dr.peek_ok b S l g w h hl hb hT
 have hwp := Dr.wd_pos hl
 have hwl := Dr.wd_le hl
 have hle := h.le
 have HAT := Lib.hid h
 have hnz : ((Dr.wd l : Int) == 0) = false := beq_eq_false_iff_ne.2 (by omega)
 have hb64 : IntKind.i64.wrap (((S.size - l.length : Nat) : Int) + (Dr.wd l : Int)) = ((S.size - l.length : Nat) : Int) + (Dr.wd l : Int) := by rw [IntKind.wrap_i64]; omega
 have HST := Lib.hid (fun w1 (hb1 : Below w.heap.size w w1) => (h.below hb1).step (Dr.wd l) hwl)
 obtain ⟨p,hp⟩ : ∃ z,S.size - l.length = z := ⟨_,rfl⟩
 rw [hp] at hb64 HST
 have HP := Lib.hid hp
 generalize Dr.cp l = c at *
 obtain ⟨n,hn⟩ : ∃ z,z = Dr.wd l := ⟨_,rfl⟩
 rw [← hn] at KP hnz hb64 HST ⊢
 clear h hT hb hl hp hle hwp hwl hn
 go_enter Tryz.func66,Tryz.ntmps66
 go_wp2_with fail
 refine KP.mono ?_
 rintro x w1 ⟨rfl,hb1⟩
 obtain ⟨c0,c1,c2⟩ := (HAT.out.below hb1).cells
 rw [HP.out] at c1
 obtain ⟨W,hW,hfz,hAt,hK,hz⟩ := HST.out w1 hb1
 have HR := Lib.hid (And.intro hAt ((Dr.Kept.of_below hb1).trans hK))
 clear hAt hK hz hb1
 go_wp2_with fail
 go_ret
 exact ⟨rfl,HR.out.1,HR.out.2⟩
theorem Dr.lineEnd_any (c : Int) (w : World) : Calls Tryz.prog 34 #[.int .i32 c] w fun e w' => e = .returned (.bool (Dr.lineC c)) ∧ w = w' := by
 unfold Dr.lineC;by_cases h1 : c = 10
 · subst h1;go_enter Tryz.func34,Tryz.ntmps34;go_wp2_with fail;go_ret;exact ⟨rfl,rfl⟩
 by_cases h2 : c = 13
 · subst h2;go_enter Tryz.func34,Tryz.ntmps34;go_wp2_with fail;go_ret;exact ⟨rfl,rfl⟩
 by_cases h3 : c = 133
 · subst h3;go_enter Tryz.func34,Tryz.ntmps34;go_wp2_with fail;go_ret;exact ⟨rfl,rfl⟩
 by_cases h4 : c = 8232
 · subst h4;go_enter Tryz.func34,Tryz.ntmps34;go_wp2_with fail;go_ret;exact ⟨rfl,rfl⟩
 have e1 : (c == 10) = false := beq_eq_false_iff_ne.2 h1;have e2 : (c == 13) = false := beq_eq_false_iff_ne.2 h2;have e3 : (c == 133) = false := beq_eq_false_iff_ne.2 h3;have e4 : (c == 8232) = false := beq_eq_false_iff_ne.2 h4;rw [decide_eq_false h1,decide_eq_false h2,decide_eq_false h3,decide_eq_false h4];clear h1 h2 h3 h4;go_enter Tryz.func34,Tryz.ntmps34;go_wp2_with fail;go_ret;exact ⟨rfl,rfl⟩
theorem Wt.indexByte_no : ∀ (l : List UInt8) (c : UInt8),(∀ x ∈ l,x.toNat < 128) → 128 ≤ c.toNat → Lib.indexByte l c = -1
 | [],c,_,_ => rfl
 | x :: l,c,hl,hc => by
   have hx := hl x (by simp);have hne : (x == c) = false := beq_eq_false_iff_ne.2 (fun e => by rw [e] at hx; omega);rw [Lib.indexByte,hne,Wt.indexByte_no l c (fun y hy => hl y (by simp [hy])) hc];rfl
theorem Wt.ib (s : ByteArray) (c : UInt8) (hs : ∀ x ∈ s.data.toList,x.toNat < 128) (hc : 128 ≤ c.toNat) (w : World) :
 Calls Tryz.prog 95 #[.string s,.int .u8 c.toNat] w fun e w' => e = .returned (.int .i64 (-1)) ∧ w' = w := by
 refine (Tryz.strings_IndexByte s c.toNat w).mono ?_
 rintro e w' ⟨rfl,rfl⟩
 refine ⟨?_,rfl⟩
 have : ((c.toNat : Int).toNat.toUInt8) = c := by simp
 rw [this,Wt.indexByte_no _ _ hs hc]
def Wt.cA : ByteArray := ⟨#[33,36,37,38,42,47,58,60,61,62,63,94,95,126]⟩
def Wt.cB : ByteArray := ⟨#[43,45,46,64]⟩
theorem Wt.enc_hi {r : Int} (h : Ru.okR r) (h1 : 128 ≤ r) : (∃ a c : UInt8,Lib.encodeRune r = [a,c] ∧ 128 ≤ c.toNat) ∨ (∃ a b c : UInt8,Lib.encodeRune r = [a,b,c] ∧ 128 ≤ c.toNat) ∨ (∃ a b d c : UInt8,Lib.encodeRune r = [a,b,d,c] ∧ 128 ≤ c.toNat) := by
 unfold Ru.okR at h;have hlow : ∀ z : Int,0 ≤ z → 128 ≤ ((128 + z % 64).toNat.toUInt8).toNat := fun z hz => by
  have := Ru.byteNat (128 + z % 64) (by omega) (by omega);rw [this];omega
 unfold Lib.encodeRune;by_cases c2 : r ≤ 2047
 · rw [Lib.encodeRuneZ_two (by omega) c2];exact .inl ⟨_,_,rfl,hlow r (by omega)⟩
 by_cases c3 : r ≤ 65535
 · rw [Lib.encodeRuneZ_three (by omega)];exact .inr (.inl ⟨_,_,_,rfl,hlow r (by omega)⟩)
 · rw [Lib.encodeRuneZ_four (by omega) (by omega)];exact .inr (.inr ⟨_,_,_,_,rfl,hlow r (by omega)⟩)
theorem Wt.wr64 : IntKind.i64.wrap 0 = 0 ∧ IntKind.i64.wrap 1 = 1 ∧ IntKind.i64.wrap 2 = 2 ∧ IntKind.i64.wrap 3 = 3 ∧ IntKind.i64.wrap 4 = 4 := by decide
theorem Wt.indexRune_hi (s : ByteArray) (hs : s = Wt.cA ∨ s = Wt.cB) (r : Int) (h : Ru.okR r) (h1 : 128 ≤ r) (h2 : r ≠ 65533) (w : World) :
 Calls Tryz.prog 69 #[.string s,.int .i32 r] w fun e w' => e = .returned (.int .i64 (-1)) ∧ Below w.heap.size w w' := by
 have hne : ((r : Int) == 65533) = false := beq_eq_false_iff_ne.2 h2
 have hr2 : r ≤ 2147483647 := by unfold Ru.okR at h; omega
 have hv : Lib.validRune r = true := by
  unfold Ru.okR at h;unfold Lib.validRune;simp only [Bool.or_eq_true,Bool.and_eq_true,decide_eq_true_eq];omega
 obtain ⟨g0,g1,g2,g3,g4⟩ := Wt.wr64
 have KV := fun w' => Tryz.utf8_ValidRune r w'
 rw [hv] at KV
 have henc := Sl.encode_eq r
 rcases Wt.enc_hi h h1 with ⟨a,c,e,hc⟩ | ⟨a,b,c,e,hc⟩ | ⟨a,b,d,c,e,hc⟩
 all_goals
  rw [e] at henc
  have d36 : ((36 : Int) = (c.toNat : Int)) = False := eq_false (by omega)
  have e36 : ((36 : Int) != (c.toNat : Int)) = true := bne_iff_ne.2 (by omega)
  have d37 : ((37 : Int) = (c.toNat : Int)) = False := eq_false (by omega)
  have e37 : ((37 : Int) != (c.toNat : Int)) = true := bne_iff_ne.2 (by omega)
  have d38 : ((38 : Int) = (c.toNat : Int)) = False := eq_false (by omega)
  have e38 : ((38 : Int) != (c.toNat : Int)) = true := bne_iff_ne.2 (by omega)
  have d45 : ((45 : Int) = (c.toNat : Int)) = False := eq_false (by omega)
  have e45 : ((45 : Int) != (c.toNat : Int)) = true := bne_iff_ne.2 (by omega)
  have d46 : ((46 : Int) = (c.toNat : Int)) = False := eq_false (by omega)
  have e46 : ((46 : Int) != (c.toNat : Int)) = true := bne_iff_ne.2 (by omega)
  have d64 : ((64 : Int) = (c.toNat : Int)) = False := eq_false (by omega)
  have e64 : ((64 : Int) != (c.toNat : Int)) = true := bne_iff_ne.2 (by omega)
  have KI := Lib.hid (fun (s : ByteArray) (hs : ∀ x ∈ s.data.toList,x.toNat < 128) w' => Wt.ib s c hs hc w')
  clear e hc
  rcases hs with rfl | rfl
 all_goals clear h hv
 all_goals first | unfold Wt.cA | unfold Wt.cB
 all_goals
  go_enter Tryz.func69,Tryz.ntmps69
  go_wp2_with (go_at_call 96; refine (KV _).mono ?_; rintro e w' ⟨rfl,rfl⟩)
  go_step3
  go_wp2_with fail
  refine wp_loop_rounds 1 ?_
  rw [rounds_succ]
  go_wp2_with fail
  go_step3
  go_wp2_with fail
  go_region
  all_goals go_wp2_with fail
  rotate_left
  · rename_i hx _ _;first
     | exact absurd ((show ((36 : Int) != (c.toNat : Int)) = false from hx).symm.trans e36) (by decide)
     | exact absurd ((show ((37 : Int) != (c.toNat : Int)) = false from hx).symm.trans e37) (by decide)
     | exact absurd ((show ((38 : Int) != (c.toNat : Int)) = false from hx).symm.trans e38) (by decide)
     | exact absurd ((show ((45 : Int) != (c.toNat : Int)) = false from hx).symm.trans e45) (by decide)
     | exact absurd ((show ((46 : Int) != (c.toNat : Int)) = false from hx).symm.trans e46) (by decide)
     | exact absurd ((show ((64 : Int) != (c.toNat : Int)) = false from hx).symm.trans e64) (by decide)
  go_region_held3 (fun wx => True) (trivial)
   (first
     | (go_at_call 95
        refine (KI.out _ (by decide) _).mono ?_
        rintro z2 w2 ⟨rfl,hw2⟩
        subst hw2))
  go_wp2_with fail
  rw [Exit.noGoto_ret]
  repeat (first | rw [Exit.noGoto_ret] | (simp only [Exit.inBlock,Exit.then]))
  go_ret
  exact ⟨rfl,Below.drew (Below.drew (Below.refl _ _))⟩
theorem Wt.indexRune_bad (s : ByteArray) (hs : ∀ i (h : i < s.size),(s[i]'h).toNat < 128) (w : World) :
 Calls Tryz.prog 69 #[.string s,.int .i32 65533] w fun e w' => e = .returned (.int .i64 (-1)) ∧ Below w.heap.size w w' := by
 have H0 : (w.alloc (.stringIter s 0)).heap[w.heap.size]? = some (.stringIter s 0) := heap_alloc_new w _
 have HB0 : Below w.heap.size w (w.alloc (.stringIter s 0)) := (Below.refl _ _).alloc (Nat.le_refl _) _
 have HS := Lib.hid hs
 clear hs
 go_enter Tryz.func69,Tryz.ntmps69
 go_wp2_with fail
 go_loopw [] (fun wr => ∃ (pos : Nat),wr.heap[w.heap.size]? = some (.stringIter s pos) ∧ Below w.heap.size w wr) (fun wr => s.size - wr.iterPos w.heap.size)
 case atStart => exact ⟨0,H0,HB0⟩
 case round =>
  obtain ⟨pos,hit,hb⟩ := hrel
  clear H0 HB0
  by_cases hp : pos < s.size
  · have ha := HS.out pos hp;have hnx : ∀ ty,(Instr.next (.pointer (some ⟨w.heap.size,0,none⟩)) true ty).run Tryz.prog wr = _ := fun ty => Lib.run_next_ascii_at wr w.heap.size s pos ty hit hp ha;have hit2 := Lib.iterAt_heap wr w.heap.size s pos (pos + 1) hit;have hb2 := Lib.below_iterAt hb (k := w.heap.size) (Nat.le_refl _) s (pos + 1);obtain ⟨v,hv⟩ : ∃ z,(s[pos]'hp).toNat = z := ⟨_,rfl⟩;rw [hv] at hnx ha;have hne : ((v : Int) == 65533) = false := beq_eq_false_iff_ne.2 (by omega);obtain ⟨W,hW⟩ : ∃ z,wr.iterAt w.heap.size s (pos + 1) = z := ⟨_,rfl⟩;rw [hW] at hnx hit2 hb2;have HM : Hid (s.size - W.iterPos w.heap.size < s.size - wr.iterPos w.heap.size) := Lib.hid (by simp only [World.iterPos,hit2,hit]; omega);have HI := Lib.hid (And.intro hit2 hb2);clear hit hb hit2 hb2 hv hW ha;go_wp2_with fail;exact ⟨⟨_,HI.out⟩,HM.out⟩
  · have hnx : ∀ ty,(Instr.next (.pointer (some ⟨w.heap.size,0,none⟩)) true ty).run Tryz.prog wr = _ := fun ty => Lib.run_next_end_at wr w.heap.size s pos ty hit hp;go_wp2_with fail;go_ret;exact ⟨rfl,hb⟩
def Dr.cC : ByteArray := ⟨#[40,41,91,93,34,59]⟩
def Dr.cD : ByteArray := ⟨#[97,98,116,110,118,102,114,34,92]⟩
theorem Dr.indexRune_hi (s : ByteArray) (hs : s = Dr.cC ∨ s = Dr.cD) (r : Int) (h : Ru.okR r) (h1 : 128 ≤ r) (h2 : r ≠ 65533) (w : World) :
 Calls Tryz.prog 69 #[.string s,.int .i32 r] w fun e w' => e = .returned (.int .i64 (-1)) ∧ Below w.heap.size w w' := by
 have hne : ((r : Int) == 65533) = false := beq_eq_false_iff_ne.2 h2
 have hr2 : r ≤ 2147483647 := by unfold Ru.okR at h; omega
 have hv : Lib.validRune r = true := by
  unfold Ru.okR at h;unfold Lib.validRune;simp only [Bool.or_eq_true,Bool.and_eq_true,decide_eq_true_eq];omega
 obtain ⟨g0,g1,g2,g3,g4⟩ := Wt.wr64
 have KV := fun w' => Tryz.utf8_ValidRune r w'
 rw [hv] at KV
 have henc := Sl.encode_eq r
 rcases Wt.enc_hi h h1 with ⟨a,c,e,hc⟩ | ⟨a,b,c,e,hc⟩ | ⟨a,b,d,c,e,hc⟩
 all_goals
  rw [e] at henc
  have d41 : ((41 : Int) = (c.toNat : Int)) = False := eq_false (by omega)
  have e41 : ((41 : Int) != (c.toNat : Int)) = true := bne_iff_ne.2 (by omega)
  have d91 : ((91 : Int) = (c.toNat : Int)) = False := eq_false (by omega)
  have e91 : ((91 : Int) != (c.toNat : Int)) = true := bne_iff_ne.2 (by omega)
  have d93 : ((93 : Int) = (c.toNat : Int)) = False := eq_false (by omega)
  have e93 : ((93 : Int) != (c.toNat : Int)) = true := bne_iff_ne.2 (by omega)
  have d98 : ((98 : Int) = (c.toNat : Int)) = False := eq_false (by omega)
  have e98 : ((98 : Int) != (c.toNat : Int)) = true := bne_iff_ne.2 (by omega)
  have d116 : ((116 : Int) = (c.toNat : Int)) = False := eq_false (by omega)
  have e116 : ((116 : Int) != (c.toNat : Int)) = true := bne_iff_ne.2 (by omega)
  have d110 : ((110 : Int) = (c.toNat : Int)) = False := eq_false (by omega)
  have e110 : ((110 : Int) != (c.toNat : Int)) = true := bne_iff_ne.2 (by omega)
  have KI := Lib.hid (fun (s : ByteArray) (hs : ∀ x ∈ s.data.toList,x.toNat < 128) w' => Wt.ib s c hs hc w')
  clear e hc
  rcases hs with rfl | rfl
 all_goals clear h hv
 all_goals first | unfold Dr.cC | unfold Dr.cD
 all_goals
  go_enter Tryz.func69,Tryz.ntmps69
  go_wp2_with (go_at_call 96; refine (KV _).mono ?_; rintro e w' ⟨rfl,rfl⟩)
  go_step3
  go_wp2_with fail
  refine wp_loop_rounds 1 ?_
  rw [rounds_succ]
  go_wp2_with fail
  go_step3
  go_wp2_with fail
  go_region
  all_goals go_wp2_with fail
  rotate_left
  · rename_i hx _ _;first
     | exact absurd ((show ((41 : Int) != (c.toNat : Int)) = false from hx).symm.trans e41) (by decide)
     | exact absurd ((show ((91 : Int) != (c.toNat : Int)) = false from hx).symm.trans e91) (by decide)
     | exact absurd ((show ((93 : Int) != (c.toNat : Int)) = false from hx).symm.trans e93) (by decide)
     | exact absurd ((show ((98 : Int) != (c.toNat : Int)) = false from hx).symm.trans e98) (by decide)
     | exact absurd ((show ((116 : Int) != (c.toNat : Int)) = false from hx).symm.trans e116) (by decide)
     | exact absurd ((show ((110 : Int) != (c.toNat : Int)) = false from hx).symm.trans e110) (by decide)
  go_region_held3 (fun wx => True) (trivial)
   (first
     | (go_at_call 95
        refine (KI.out _ (by decide) _).mono ?_
        rintro z2 w2 ⟨rfl,hw2⟩
        subst hw2))
  go_wp2_with fail
  rw [Exit.noGoto_ret]
  repeat (first | rw [Exit.noGoto_ret] | (simp only [Exit.inBlock,Exit.then]))
  go_ret
  exact ⟨rfl,Below.drew (Below.drew (Below.refl _ _))⟩
theorem Wt.retB {a b : Bool} (h : a = b) : Ending.returned (.bool a) = .returned (.bool b) := by rw [h]
theorem Wt.odd_any (r : Int) (w : World) :
 Calls Tryz.prog 87 #[.int .i32 r] w fun e w' => e = .returned (.bool (Wt.odd r)) ∧ w = w' := by
 go_enter Tryz.func87,Tryz.ntmps87
 go_wp2
 all_goals
  go_ret
  refine ⟨Wt.retB ?_,rfl⟩
  unfold Wt.odd
  by_cases h1 : r < 32 <;> by_cases h2 : 127 ≤ r <;> by_cases h3 : r ≤ 159 <;> first | (exfalso; omega) | (simp [h1,h2,h3]; done) | (simp [h1,h2,h3]; omega) | (simp_all; done) | (simp_all; omega)
theorem Wt.CharName_any (n : Int) (w : World) :
 Calls Tryz.prog 72 #[.int .i64 n] w fun e w' => e = .returned (.string ⟨(Wt.name n).toArray⟩) ∧ w = w' := by
 go_enter Tryz.func72,Tryz.ntmps72
 go_wp2
 all_goals
  go_ret
  refine ⟨?_,rfl⟩
  simp_all [Wt.name]
theorem Wt.blank_any (r : Int) (w : World) :
 Calls Tryz.prog 33 #[.int .i32 r] w fun e w' => e = .returned (.bool (Ch.blankB r)) ∧ w = w' := by
 go_enter Tryz.func33,Tryz.ntmps33
 go_wp2
 all_goals
  go_ret
  refine ⟨?_,rfl⟩
  simp_all [Ch.blankB]
end Go.Proofs.YteklhapffplohaaGreatDoor
