/-
  The reader's remark. nat.Times of numbers. nat.Less of numbers.
-/
import Derived.Laws.Bits64
import Derived.Deep.RegionHeld3
import Derived.StillTailTactics
import Derived.Test.YteklhapffplohaaGreatDoorVf
import Derived.Test.YteklhapffplohaaGreatDoorVa
import Derived.Test.YteklhapffplohaaGreatDoorVd
set_option linter.unusedVariables false
set_option linter.unusedSimpArgs false
namespace Go.Proofs.YteklhapffplohaaGreatDoor
open Go.RowKit
theorem Dr.hasP (l p : List UInt8) : Lib.hasPrefix l p = decide (l.take p.length = p) := by
 unfold Lib.hasPrefix;rw [Bool.eq_iff_iff,List.isPrefixOf_iff_prefix,List.prefix_iff_eq_take,decide_eq_true_eq];exact eq_comm
abbrev Dr.Tabs (w : World) : Prop := Lib.Utf8Tabs 0 1 w
theorem Dr.tabs_kept {b : Nat} {w w' : World} (h : Dr.Tabs w) (h1 : b ≠ 0) (h2 : b ≠ 1) (hk : Dr.Kept b w w') : Dr.Tabs w' := by
 have kc : ∀ {q o : Nat} {v : Value},q ≠ b → w.cell? ⟨q,o,none⟩ = some v → w'.cell? ⟨q,o,none⟩ = some v := fun {q o v} hq hc =>
  (World.cell?_of_block (hk.block q (World.block_lt_of_cell? w _ hc) hq)).trans hc
 exact ⟨fun c hc => kc (Ne.symm h1) (h.1 c hc),fun i hi => ⟨kc (Ne.symm h2) (h.2 i hi).1,kc (Ne.symm h2) (h.2 i hi).2⟩⟩
theorem Dr.At.tabs_ne {b : Nat} {S : ByteArray} {l : List UInt8} {g : Bool} {w : World} (h : Dr.At b S l g w) (hT : Dr.Tabs w) : b ≠ 0 ∧ b ≠ 1 := by
 have c0 := h.cells.1;refine ⟨?_,?_⟩
 · rintro rfl;have := (hT.1 0 (by decide)).symm.trans c0;simp at this
 · rintro rfl;have := ((hT.2 0 (by decide)).1).symm.trans c0;simp at this
def Dr.left (b : Nat) (S : ByteArray) (w : World) : Nat := S.size - (intOf ((w.cell? ⟨b,1,none⟩).getD .nilIface)).toNat
theorem Dr.At.left {b : Nat} {S : ByteArray} {l : List UInt8} {g : Bool} {w : World} (h : Dr.At b S l g w) : Dr.left b S w = l.length := by
 unfold Dr.left;rw [h.cells.2.1];have := h.le;simp [intOf];omega
def Dr.PostL (b : Nat) (S : ByteArray) (g : Bool) (w : World) (R : Option (List UInt8)) (e : Ending) (w' : World) : Prop :=
 match R with
 | none => e = Dr.dead ∧ Dr.Kept b w w'
 | some r => e = .returned (.tuple #[]) ∧ Dr.At b S r g w' ∧ Dr.Kept b w w'
theorem Dr.At.range {b : Nat} {S : ByteArray} {l : List UInt8} {g : Bool} {w : World} (h : Dr.At b S l g w) : ((S.size - l.length : Nat) : Int) ≤ (S.size : Int) ∧ 0 ≤ ((S.size - l.length : Nat) : Int) := by
 have := h.le;omega
theorem Dr.remark_next (d : Nat) (l : List UInt8) (k1 : ¬ l.take 2 = [35,124]) (k2 : ¬ l.take 2 = [124,35]) : Dr.remark d l = match Dr.next l with | none => none | some x => Dr.remark d x.2 := by
 rw [Dr.remark,dif_neg k1,dif_neg k2];unfold Dr.next;by_cases h : l = []
 · rw [dif_pos h,if_pos h]
 · rw [dif_neg h,if_neg h];cases Dr.bad l <;> simp
theorem Dr.next_drop {l r : List UInt8} {c : Int} (h : Dr.next l = some (c,r)) : r = l.drop (Dr.wd l) ∧ c = Dr.cp l ∧ l ≠ [] := by
 unfold Dr.next at h;split at h
 · cases h
 · rename_i hn;split at h
   · cases h
   · simp only [Option.some.injEq,Prod.mk.injEq] at h;exact ⟨h.2.symm,h.1.symm,hn⟩
theorem Dr.setAt {b p n : Nat} {S : ByteArray} {l : List UInt8} {g : Bool} {w : World} (h : Dr.At b S l g w) (hp : S.size - l.length = p) (hn : n ≤ l.length) (m : Int) (hm : m = (n : Int)) :
 ∃ W,w.setCell ⟨b,1,none⟩ (.int .i64 ((p : Int) + m)) = W ∧ w.frozen? ⟨b,1,none⟩ = false ∧ Dr.At b S (l.drop n) g W ∧ Dr.Kept b w W ∧ W.heap.size = w.heap.size := by
 subst hp hm
 exact h.step n hn
set_option maxHeartbeats 4000000
set_option maxRecDepth 1000000
theorem Dr.remark_any (b : Nat) (S : ByteArray) (g : Bool) (l : List UInt8) (w : World) (h : Dr.At b S l g w) (hs : S.size ≤ 9223372036854775807) (h2 : l.take 2 = [35,124]) (hT : Dr.Tabs w) :
 Calls Tryz.prog 36 #[.pointer (some ⟨b,0,none⟩)] w fun e w' => Dr.PostL b S g w (Dr.remark 0 l) e w' := by
 obtain ⟨R,hR⟩ : ∃ z,Dr.remark 0 l = z := ⟨_,rfl⟩
 rw [hR]
 have HS0 := Lib.hid (show ∃ (d : Nat) (l' : List UInt8),(0 : Int) = (d : Int) ∧ Dr.At b S l' g w ∧ Dr.Kept b w w ∧ Dr.remark d l' = R ∧ d + l'.length ≤ S.size ∧ (1 ≤ d ∨ l'.take 2 = [35,124]) from ⟨0,l,rfl,h,Dr.Kept.refl _ _,hR,by have := h.le; omega,.inr h2⟩)
 have HT := Lib.hid (And.intro hT (h.tabs_ne hT))
 have hsz := hs
 clear h h2 hT hR
 go_enter Tryz.func36,Tryz.ntmps36
 go_wp2_with fail
 go_loopw [2] (fun t wr => ∃ (d : Nat) (l' : List UInt8),t = .int .i64 (d : Int) ∧ Dr.At b S l' g wr ∧ Dr.Kept b w wr ∧ Dr.remark d l' = R ∧ d + l'.length ≤ S.size ∧ (1 ≤ d ∨ l'.take 2 = [35,124])) (fun _ wr => Dr.left b S wr)
 case atStart =>
  obtain ⟨d,l',e,q⟩ := HS0.out
  exact ⟨d,l',by rw [e],q⟩
 case round =>
  obtain ⟨d,l',rfl,hA,hK,hR,hd,h1⟩ := hrel
  clear HS0
  have hTr : Dr.Tabs wr := Dr.tabs_kept HT.out.1 HT.out.2.1 HT.out.2.2 hK
  have HTr := Lib.hid hTr
  have KN := Lib.hid (fun (c : Int) (r : List UInt8) (hn : Dr.next l' = some (c,r)) (w1 : World) (hb : Below wr.heap.size wr w1) => Dr.next_ok b S l' g c r w1 (hA.below hb) hs hn (Utf8Tabs_below hTr hb))
  have KF := Lib.hid (fun (hn : Dr.next l' = none) (w1 : World) (hb : Below wr.heap.size wr w1) => Dr.next_none b S l' g w1 (hA.below hb) hn (Utf8Tabs_below hTr hb))
  have KH := fun (p : ByteArray) (w' : World) => Tryz.strings_HasPrefix ⟨l'.toArray⟩ p w'
  obtain ⟨c0,c1,c2⟩ := hA.cells
  obtain ⟨hp1,hp2⟩ := hA.range
  have hsub := hA.sub
  have hbl := hA.lt
  have HA := Lib.hid hA
  have HK := Lib.hid hK
  obtain ⟨p,hp⟩ : ∃ z,S.size - l'.length = z := ⟨_,rfl⟩
  have HP := Lib.hid hp
  have HM := Lib.hid hA.left
  rw [hp] at c1 hp1 hp2 hsub
  have HS := Lib.hid (fun (w' : World) (hb : Below wr.heap.size wr w') => (show w'.cell? ⟨b,0,none⟩ = some (.string S) ∧ w'.cell? ⟨b,1,none⟩ = some (.int .i64 (p : Int)) from ⟨(hb.cell (p := ⟨b,0,none⟩) hbl).trans c0,(hb.cell (p := ⟨b,1,none⟩) hbl).trans c1⟩))
  have HD := Lib.hid hd
  have HR := Lib.hid hR
  have HO := Lib.hid h1
  clear hTr hA hK hR hp h1 hbl c2 hd
  have hb1 : Below wr.heap.size wr wr.drew := Below.drew (Below.refl _ _)
  have hlen : p + l'.length = S.size := by have := HA.out.le; have := HP.out; omega
  by_cases k1 : l'.take 2 = [35,124]
  · have hl2 := Dr.take_two k1;have KH1 := Lib.hid (fun w' => KH ⟨#[35,124]⟩ w');simp only [Dr.hasP,List.length_cons,List.length_nil,decide_eq_true k1] at KH1;have HR2 : Hid (Dr.remark (d + 1) (l'.drop 2) = R) := Lib.hid (by rw [← HR.out]; conv => rhs; rw [Dr.remark,dif_pos k1]);have hlen2 : (l'.drop 2).length = l'.length - 2 := List.length_drop;obtain ⟨W,hW,hfz,hAt,hKW,hz⟩ := Dr.setAt (HA.out.below hb1) HP.out hl2 2 rfl;have hd2 : ((d : Int) + 1) ≤ 9223372036854775807 ∧ (p : Int) + 2 ≤ 9223372036854775807 := by have := HD.out; omega
    obtain ⟨hd3,hd4⟩ := hd2;have HE := Lib.hid (show (∃ (d' : Nat) (l'' : List UInt8),Value.int .i64 ((d : Int) + 1) = .int .i64 (d' : Int) ∧ Dr.At b S l'' g W ∧ Dr.Kept b w W ∧ Dr.remark d' l'' = R ∧ d' + l''.length ≤ S.size ∧ (1 ≤ d' ∨ l''.take 2 = [35,124])) ∧ Dr.left b S W < Dr.left b S wr from
      ⟨⟨d + 1,l'.drop 2,rfl,hAt,(HK.out.trans (Dr.Kept.of_below hb1)).trans hKW,HR2.out,by have := HD.out; omega,.inl (by omega)⟩,by rw [hAt.left,HM.out]; omega⟩)
    clear KH hAt hKW hz hlen2 k1 hl2;go_wp2_with fail;have hkeep := HS.out wr.drew hb1;go_region_held3 (fun w' => w'.cell? ⟨b,0,none⟩ = some (.string S) ∧ w'.cell? ⟨b,1,none⟩ = some (.int .i64 (p : Int)))
     (first | exact hkeep)
     (first
       | (go_at_call 35
          refine (KH1.out _).mono ?_
          rintro x w2 ⟨rfl,rfl⟩))
    obtain ⟨d0,d1⟩ := hkeep;generalize wr.drew = w1 at *;go_wp2_with fail;exact HE.out
  have hd1 : 1 ≤ d := HO.out.resolve_right k1
  by_cases k2 : l'.take 2 = [124,35]
  · have hl2 := Dr.take_two k2;have KH1 := Lib.hid (fun w' => KH ⟨#[35,124]⟩ w');have KH2 := Lib.hid (fun w' => KH ⟨#[124,35]⟩ w');simp only [Dr.hasP,List.length_cons,List.length_nil,decide_eq_true k2,decide_eq_false k1] at KH1 KH2;have HR2 : Hid ((if d = 1 then some (l'.drop 2) else Dr.remark (d - 1) (l'.drop 2)) = R) := Lib.hid (by rw [← HR.out]; conv => rhs; rw [Dr.remark,dif_neg k1,dif_pos k2]);have hlen2 : (l'.drop 2).length = l'.length - 2 := List.length_drop;have hb2 : Below wr.heap.size wr wr.drew.drew := Below.drew hb1;obtain ⟨W,hW,hfz,hAt,hKW,hz⟩ := Dr.setAt (HA.out.below hb2) HP.out hl2 2 rfl;have hKall := (HK.out.trans (Dr.Kept.of_below hb2)).trans hKW;have hd2 : (p : Int) + 2 ≤ 9223372036854775807 ∧ (d : Int) ≤ 9223372036854775807 ∧ 1 ≤ (d : Int) := by have := HD.out; omega
    obtain ⟨hd3,hd4,hd5⟩ := hd2;have hkeep1 := HS.out wr.drew hb1;have hkeep2 := HS.out wr.drew.drew hb2;by_cases e1 : d = 1
    · subst e1;rw [if_pos rfl] at HR2;have HE := Lib.hid (show Dr.PostL b S g w R (.returned (.tuple #[])) W by rw [← HR2.out]; exact ⟨rfl,hAt,hKall⟩);clear KH hAt hKW hz hlen2 k1 k2 hl2 hKall HR2 HS;go_wp2_with fail;go_region_held3 (fun w' => w'.cell? ⟨b,0,none⟩ = some (.string S) ∧ w'.cell? ⟨b,1,none⟩ = some (.int .i64 (p : Int)))
       (first | exact hkeep1)
       (first
         | (go_at_call 35
            refine (KH1.out _).mono ?_
            rintro x w2 ⟨rfl,rfl⟩))
      go_wp2_with fail;go_region_held3 (fun w' => w'.cell? ⟨b,0,none⟩ = some (.string S) ∧ w'.cell? ⟨b,1,none⟩ = some (.int .i64 (p : Int)))
       (first | exact hkeep2)
       (first
         | (go_at_call 35
            refine (KH2.out _).mono ?_
            rintro x w2 ⟨rfl,rfl⟩))
      obtain ⟨d0,d1⟩ := hkeep2;clear hkeep1;generalize wr.drew.drew = w1 at *;go_wp2_with fail;first | go_end0 | refine bodyPost_ret (results_none rfl _ _ _) rfl ?_
      exact HE.out
    · rw [if_neg e1] at HR2;have he1 : ((d : Int) - 1 == 0) = false := beq_eq_false_iff_ne.2 (by omega);have he2 : ¬ ((d : Int) - 1 = 0) := by omega
      have HE := Lib.hid (show (∃ (d' : Nat) (l'' : List UInt8),Value.int .i64 ((d : Int) - 1) = .int .i64 (d' : Int) ∧ Dr.At b S l'' g W ∧ Dr.Kept b w W ∧ Dr.remark d' l'' = R ∧ d' + l''.length ≤ S.size ∧ (1 ≤ d' ∨ l''.take 2 = [35,124])) ∧ Dr.left b S W < Dr.left b S wr from
        ⟨⟨d - 1,l'.drop 2,by rw [show ((d - 1 : Nat) : Int) = (d : Int) - 1 by omega],hAt,hKall,HR2.out,by have := HD.out; omega,.inl (by omega)⟩,by rw [hAt.left,HM.out]; omega⟩)
      clear KH hAt hKW hz hlen2 k1 k2 hl2 hKall HR2 HS;go_wp2_with fail;go_region_held3 (fun w' => w'.cell? ⟨b,0,none⟩ = some (.string S) ∧ w'.cell? ⟨b,1,none⟩ = some (.int .i64 (p : Int)))
       (first | exact hkeep1)
       (first
         | (go_at_call 35
            refine (KH1.out _).mono ?_
            rintro x w2 ⟨rfl,rfl⟩))
      go_wp2_with fail;go_region_held3 (fun w' => w'.cell? ⟨b,0,none⟩ = some (.string S) ∧ w'.cell? ⟨b,1,none⟩ = some (.int .i64 (p : Int)))
       (first | exact hkeep2)
       (first
         | (go_at_call 35
            refine (KH2.out _).mono ?_
            rintro x w2 ⟨rfl,rfl⟩))
      obtain ⟨d0,d1⟩ := hkeep2;clear hkeep1;generalize wr.drew.drew = w1 at *;go_wp2_with fail;exact HE.out
  have KH1 := Lib.hid (fun w' => KH ⟨#[35,124]⟩ w')
  have KH2 := Lib.hid (fun w' => KH ⟨#[124,35]⟩ w')
  simp only [Dr.hasP,List.length_cons,List.length_nil,decide_eq_false k1,decide_eq_false k2] at KH1 KH2
  clear KH
  have HN := Lib.hid (Dr.remark_next d l' k1 k2)
  clear k1 k2
  have hb2 : Below wr.heap.size wr wr.drew.drew := Below.drew hb1
  go_wp2_with fail
  have hkeep := HS.out wr.drew hb1
  go_region_held3 (fun w' => w'.cell? ⟨b,0,none⟩ = some (.string S) ∧ w'.cell? ⟨b,1,none⟩ = some (.int .i64 (p : Int)))
   (first | exact hkeep)
   (first
     | (go_at_call 35
        refine (KH1.out _).mono ?_
        rintro x w2 ⟨rfl,rfl⟩))
  go_wp2_with fail
  have hkeep := HS.out wr.drew.drew hb2
  go_region_held3 (fun w' => w'.cell? ⟨b,0,none⟩ = some (.string S) ∧ w'.cell? ⟨b,1,none⟩ = some (.int .i64 (p : Int)))
   (first | exact hkeep)
   (first
     | (go_at_call 35
        refine (KH2.out _).mono ?_
        rintro x w2 ⟨rfl,rfl⟩))
  go_wp2_with fail
  cases hn : Dr.next l' with
  | none =>
    refine (KF.out hn _ hb2).mono ?_
    rintro x w3 ⟨rfl,hb3⟩
    have HE : Hid (Dr.PostL b S g w R Dr.dead w3) := Lib.hid (by
      rw [← HR.out,HN.out,hn]
      exact ⟨rfl,HK.out.trans (Dr.Kept.of_below (hb2.trans (hb3.mono hb2.size)))⟩)
    clear hb3 hn
    unfold Dr.dead at *
    go_wp2_with fail
    exact ⟨rfl,HE.out⟩
  | some x =>
    obtain ⟨c,r⟩ := x
    refine (KN.out c r hn _ hb2).mono ?_
    rintro x w3 ⟨rfl,hAt,hK3⟩
    have hlt := Dr.next_lt hn
    have HE := Lib.hid (show (∃ (d' : Nat) (l'' : List UInt8),Value.int .i64 (d : Int) = .int .i64 (d' : Int) ∧ Dr.At b S l'' g w3 ∧ Dr.Kept b w w3 ∧ Dr.remark d' l'' = R ∧ d' + l''.length ≤ S.size ∧ (1 ≤ d' ∨ l''.take 2 = [35,124])) ∧ Dr.left b S w3 < Dr.left b S wr from
      ⟨⟨d,r,rfl,hAt,(HK.out.trans (Dr.Kept.of_below hb2)).trans hK3,by rw [← HR.out,HN.out,hn],by have := HD.out; omega,.inl hd1⟩,by rw [hAt.left,HM.out]; omega⟩)
    clear hn hAt hK3 hlt
    go_wp2_with fail
    exact HE.out
end Go.Proofs.YteklhapffplohaaGreatDoor
namespace Go.Proofs.YteklhapffplohaaGreatDoor
open Go.RowKit
end Go.Proofs.YteklhapffplohaaGreatDoor
namespace Go.Proofs.YteklhapffplohaaGreatDoor
open Go.RowKit
theorem Nt.less_end {a b ws : List Nat} {n c : Nat} (hw : Nt.Wd ws) (hl : ws.length = n) (h : Nt.val ws + Nt.val b = Nt.val a + 4294967296 ^ n * c) (hab : Nt.val b ≤ Nt.val a) : Nt.val ws = Nt.val a - Nt.val b := by
 have h1 := Nt.val_lt ws hw;rw [hl] at h1;rcases Nat.eq_zero_or_pos c with h0 | h0
 · subst h0; omega
 · have : 4294967296 ^ n * 1 ≤ 4294967296 ^ n * c := Nat.mul_le_mul_left _ h0;omega
theorem Rt.cell_of {w : World} {b : Nat} {C : Array Value} {t : TypeId} (h : w.heap[b]? = some (.cells C t (0,0))) (k : Nat) : w.cell? ⟨b,k,none⟩ = C[k]? := by
 simp [World.cell?,h]
theorem Rt.setCells {w : World} {b : Nat} {C : Array Value} {t : TypeId} (h : w.heap[b]? = some (.cells C t (0,0))) (k : Nat) (u : Value) : (w.setCell ⟨b,k,none⟩ u).heap[b]? = some (.cells (C.set! k u) t (0,0)) := by
 obtain ⟨hlt,hk⟩ := Array.getElem?_eq_some_iff.1 h;show (w.heap.modify b _)[b]? = _;rw [Array.getElem?_eq_getElem (by rw [Array.size_modify]; exact hlt),Array.getElem_modify_self,hk];rfl
theorem Rt.frozen_of {w : World} {b : Nat} {C : Array Value} {t : TypeId} (h : w.heap[b]? = some (.cells C t (0,0))) (k : Nat) : w.frozen? ⟨b,k,none⟩ = false := by
 simp [World.frozen?,h]
theorem Rt.put3 {w : World} {b : Nat} {v0 v1 v2 : Value} {t : TypeId} (h : w.heap[b]? = some (.cells #[v0,v1,v2] t (0,0))) (u0 u1 u2 : Value) :
 ∃ W1 W2 W3 : World,
 (w.cell? ⟨b,0,none⟩ = some v0 ∧ w.frozen? ⟨b,0,none⟩ = false ∧ w.setCell ⟨b,0,none⟩ u0 = W1) ∧
 (W1.cell? ⟨b,1,none⟩ = some v1 ∧ W1.frozen? ⟨b,1,none⟩ = false ∧ W1.setCell ⟨b,1,none⟩ u1 = W2) ∧
 (W2.cell? ⟨b,2,none⟩ = some v2 ∧ W2.frozen? ⟨b,2,none⟩ = false ∧ W2.setCell ⟨b,2,none⟩ u2 = W3) ∧
 (W3.cell? ⟨b,0,none⟩ = some u0 ∧ W3.cell? ⟨b,1,none⟩ = some u1 ∧ W3.cell? ⟨b,2,none⟩ = some u2) ∧
 Hid (W3.heap[b]? = some (.cells #[u0,u1,u2] t (0,0)) ∧ W3.heap.size = w.heap.size ∧ (∀ q,q ≠ b → W3.heap[q]? = w.heap[q]?) ∧ ∀ (B : Nat) (w0 : World),Below B w0 w → B ≤ b → Below B w0 W3) := by
 have h1 : (w.setCell ⟨b,0,none⟩ u0).heap[b]? = some (.cells #[u0,v1,v2] t (0,0)) := Rt.setCells h 0 u0
 have h2 : ((w.setCell ⟨b,0,none⟩ u0).setCell ⟨b,1,none⟩ u1).heap[b]? = some (.cells #[u0,u1,v2] t (0,0)) := Rt.setCells h1 1 u1
 have h3 : (((w.setCell ⟨b,0,none⟩ u0).setCell ⟨b,1,none⟩ u1).setCell ⟨b,2,none⟩ u2).heap[b]? = some (.cells #[u0,u1,u2] t (0,0)) := Rt.setCells h2 2 u2
 refine ⟨_,_,_,⟨Rt.cell_of h 0,Rt.frozen_of h 0,rfl⟩,⟨Rt.cell_of h1 1,Rt.frozen_of h1 1,rfl⟩,⟨Rt.cell_of h2 2,Rt.frozen_of h2 2,rfl⟩,⟨Rt.cell_of h3 0,Rt.cell_of h3 1,Rt.cell_of h3 2⟩,Lib.hid ⟨h3,by simp,fun q hq => ?_,fun B w0 hb hB => ?_⟩⟩
 · rw [Below.heap_setCell _ ⟨b,2,none⟩ _ q hq,Below.heap_setCell _ ⟨b,1,none⟩ _ q hq,Below.heap_setCell _ ⟨b,0,none⟩ _ q hq]
 · exact ((hb.setCell (p := ⟨b,0,none⟩) hB _).setCell (p := ⟨b,1,none⟩) hB _).setCell (p := ⟨b,2,none⟩) hB _
theorem Nt.In.othr {w w' : World} {v : Value} {ws : List Nat} {r : Nat} {C : Array Value} {t : TypeId} (h : Nt.In w v ws) (hr : w.heap[r]? = some (.cells C t (0,0))) (hC : ∀ (k : Nat) (n : Int),C[k]? ≠ some (.int .u32 n)) (hk : ∀ q,q ≠ r → w'.heap[q]? = w.heap[q]?) (hs : w'.heap.size = w.heap.size) : Nt.In w' v ws := by
 rcases h with h | h | ⟨h0,b,off,cap,hv,hc,hl,hcell⟩
 · exact .inl h
 · exact .inr (.inl h)
 · have hb : b ≠ r := by
    rintro rfl;have := hcell 0 h0;rw [Rt.cell_of hr] at this;exact hC _ _ this
   exact .inr (.inr ⟨h0,b,off,cap,hv,hc,by omega,fun j hj => (World.cell?_of_block (a := ⟨b,off + j,none⟩) (hk b hb)).trans (hcell j hj)⟩)
def Rt.R (w : World) (v : Value) (s : Bool) (t b : Nat) : Prop := ∃ tv bv,v = .agg #[.bool s,tv,bv] ∧ Nt.N w tv t ∧ Nt.N w bv b
theorem Rt.R.below {w w' : World} {v : Value} {s : Bool} {t b B : Nat} (h : Rt.R w v s t b) (hb : Below B w w') (hB : w.heap.size ≤ B) : Rt.R w' v s t b := by
 obtain ⟨tv,bv,hv,h1,h2⟩ := h;exact ⟨tv,bv,hv,h1.below hb hB,h2.below hb hB⟩
theorem Rt.noWords {s : Bool} {a1 a2 : Option Addr} {n1 n2 c1 c2 : Nat} : ∀ (k : Nat) (n : Int),(#[Value.bool s,.slice a1 n1 c1,.slice a2 n2 c2] : Array Value)[k]? ≠ some (.int .u32 n) := by
 intro k n h;have hm := Array.mem_of_getElem? h;simp at hm
def Rt.ratS (neg : Bool) (t b : Nat) : Bool × Nat × Nat := (neg && decide (0 < t / Nat.gcd t b),t / Nat.gcd t b,b / Nat.gcd t b)
theorem Rt.ok_gcd {t b : Nat} (h : Nt.Ok t b) (hb : 0 < b) : 0 < Nat.gcd t b ∧ Nt.Ok t (Nat.gcd t b) ∧ Nt.Ok b (Nat.gcd t b) := by
 have h1 : Nat.gcd t b ≤ b := Nat.gcd_le_right _ hb;exact ⟨Nat.gcd_pos_of_pos_right _ hb,⟨Nat.le_trans (Nt.dig_len_mono h1) h.1,h.2⟩,⟨Nat.le_trans (Nt.dig_len_mono h1) h.1,h.1⟩⟩
set_option maxHeartbeats 4000000
set_option maxRecDepth 1000000
theorem Rt.rat_any (neg : Bool) (t b : Nat) (tv bv : Value) (w : World) (h : Nt.N w tv t) (h2 : Nt.N w bv b) (hb : 0 < b) (hok : Nt.Ok t b) : Calls Tryz.prog 141 #[.bool neg,tv,bv] w fun e w' => ∃ v',e = .returned v' ∧ Rt.R w' v' (Rt.ratS neg t b).1 (Rt.ratS neg t b).2.1 (Rt.ratS neg t b).2.2 ∧ Below w.heap.size w w' := by
 obtain ⟨hg0,hg1,hg2⟩ := Rt.ok_gcd hok hb;have hdef : Rt.ratS neg t b = (neg && decide (0 < t / Nat.gcd t b),t / Nat.gcd t b,b / Nat.gcd t b) := rfl;rw [hdef];have KD := fun w h h2 => Nt.Divisor_any t b tv bv w h h2 hok;generalize Nat.gcd t b = g at *;have KO1 := fun v v2 w h h2 => Nt.Over_any t g v v2 w h h2 hg0 hg1;have KO2 := fun v v2 w h h2 => Nt.Over_any b g v v2 w h h2 hg0 hg2;obtain ⟨ad,cap,rfl⟩ := Nt.In.slice h;obtain ⟨ad2,cap2,rfl⟩ := Nt.In.slice h2;have hpos : (0 < t / g) ↔ 0 < (Nt.dig (t / g)).length := Nt.dig_len_pos.symm;have H := Lib.hid h;have H2 := Lib.hid h2;obtain ⟨W2,hW2⟩ : ∃ z,w.alloc (.cells #[.bool false,.slice none 0 0,.slice none 0 0] 24) = z := ⟨_,rfl⟩;have q0 : W2.heap[w.heap.size]? = some (.cells #[.bool false,.slice none 0 0,.slice none 0 0] 24 (0,0)) := hW2 ▸ heap_alloc_new w _;have hb0 : Below w.heap.size w W2 := hW2 ▸ (Below.refl _ _).alloc (Nat.le_refl _) _;have hsz : w.heap.size < W2.heap.size := (Array.getElem?_eq_some_iff.1 q0).1;have HIN := Lib.hid (fun (w' : World) (hb : Below W2.heap.size W2 w') => And.intro (Nt.N.below (Nt.N.below H.out hb0 (Nat.le_refl _)) hb (Nat.le_refl _)) (Nt.N.below (Nt.N.below H2.out hb0 (Nat.le_refl _)) hb (Nat.le_refl _)));have HR := Lib.hid (fun (w' : World) (hb : Below W2.heap.size W2 w') => (hb.block w.heap.size hsz).trans q0);have HB := Lib.hid (fun (w' : World) (hb : Below W2.heap.size W2 w') => hb0.trans (hb.mono (Nat.le_of_lt hsz)))
 clear h h2 q0 hb0 hg1 hg2 hok hdef;obtain ⟨dd,hdd⟩ : ∃ dd,(neg && decide (0 < t / g)) = dd := ⟨_,rfl⟩;rw [hdd];have HDD := Lib.hid hdd;clear hdd;go_enter Tryz.func141,Tryz.ntmps141;go_wp2_with fail;refine (KD _ (HIN.out _ (Below.refl _ _)).1 (HIN.out _ (Below.refl _ _)).2).mono ?_;rintro x w1 ⟨vg,rfl,hvg,hb1⟩;have HG := Lib.hid hvg;have HB1 := Lib.hid hb1;clear hvg hb1;go_wp2_with fail;refine (KO1 _ _ _ (HIN.out _ HB1.out).1 HG.out).mono ?_;rintro x w3 ⟨q,r,rfl,hq,hr,hb3⟩;obtain ⟨adq,capq,rfl⟩ := Nt.In.slice hq;have HQ := Lib.hid hq;have HG := Lib.hid (HG.out.below hb3 (Nat.le_refl _));have HB3 := Lib.hid (HB1.out.trans (hb3.mono HB1.out.size));clear hq hr hb3;go_wp2_with fail;refine (KO2 _ _ _ (HIN.out _ HB3.out).2 HG.out).mono ?_;rintro x w4 ⟨q2,r2,rfl,hq2,hr2,hb4⟩;obtain ⟨adq2,capq2,rfl⟩ := Nt.In.slice hq2;have HB4 := Lib.hid (HB3.out.trans (hb4.mono HB3.out.size));have hq4 := HQ.out.below hb4 (Nat.le_refl _);obtain ⟨X1,X2,X3,⟨f0,z0,s0⟩,⟨f1,z1,s1⟩,⟨f2,z2,s2⟩,⟨r0,r1,r2'⟩,HX⟩ := Rt.put3 (HR.out _ HB4.out) (.bool dd) (.slice adq (Nt.dig (t / g)).length capq) (.slice adq2 (Nt.dig (b / g)).length capq2)
 have HOUT : Hid (Nt.N X3 (.slice adq (Nt.dig (t / g)).length capq) (t / g) ∧ Nt.N X3 (.slice adq2 (Nt.dig (b / g)).length capq2) (b / g) ∧ Below w.heap.size w X3) := Lib.hid ⟨Nt.In.othr hq4 (HR.out _ HB4.out) Rt.noWords HX.out.2.2.1 HX.out.2.1,Nt.In.othr hq2 (HR.out _ HB4.out) Rt.noWords HX.out.2.2.1 HX.out.2.1,HX.out.2.2.2 _ _ (HB.out _ HB4.out) (Nat.le_refl _)⟩;clear hq2 hr2 hb4 hq4 HX;generalize (Nt.dig (t / g)).length = l at *;generalize (Nt.dig (b / g)).length = l2 at *;cases neg with
 | false =>
   obtain rfl := HDD.out;simp only [Bool.false_and] at *;go_wp2_with fail;refine bodyPost_ret (v := .agg #[.bool false,.slice adq l capq,.slice adq2 l2 capq2]) (by simp [results,Tryz.results141,go_sem,r0,r1,r2']) rfl ⟨_,rfl,⟨_,_,rfl,HOUT.out.1,HOUT.out.2.1⟩,HOUT.out.2.2⟩
 | true =>
   have hdec : decide (0 < l) = dd := by
    rw [← HDD.out,Bool.true_and];by_cases h : 0 < t / g
    · rw [decide_eq_true h];exact decide_eq_true (hpos.1 h)
    · rw [decide_eq_false h];exact decide_eq_false (fun h2 => h (hpos.2 h2))
   clear hpos;go_wp2_with fail;refine bodyPost_ret (v := .agg #[.bool dd,.slice adq l capq,.slice adq2 l2 capq2]) (by simp [results,Tryz.results141,go_sem,r0,r1,r2']) rfl ⟨_,rfl,⟨_,_,rfl,HOUT.out.1,HOUT.out.2.1⟩,HOUT.out.2.2⟩
def Rt.wholeS (neg : Bool) (t : Nat) : Bool × Nat × Nat := Rt.ratS neg t 1
set_option maxHeartbeats 200000
set_option maxRecDepth 512
theorem Rt.wholeS_eq (neg : Bool) (t : Nat) : Rt.wholeS neg t = (neg && decide (0 < t),t,1) := by
 simp [Rt.wholeS,Rt.ratS]
set_option maxHeartbeats 4000000
set_option maxRecDepth 1000000
theorem Rt.whole_any (neg : Bool) (t : Nat) (tv : Value) (w : World) (h : Nt.N w tv t) (hl : (Nt.dig t).length ≤ 400000) : Calls Tryz.prog 122 #[.bool neg,tv] w fun e w' => ∃ v',e = .returned v' ∧ Rt.R w' v' (neg && decide (0 < t)) t 1 ∧ Below w.heap.size w w' := by
 have KR := fun bv w h h2 => Rt.rat_any neg t 1 tv bv w h h2 (by decide) ⟨by rw [Nt.dig_small (by decide) (by decide)]; decide,hl⟩;have e0 := Rt.wholeS_eq neg t;unfold Rt.wholeS at e0;rw [e0] at KR;obtain ⟨ad,cap,rfl⟩ := Nt.In.slice h;have H := Lib.hid h;have hs0 : (w.alloc (.cells #[.bool false,.slice none 0 0,.slice none 0 0] 24)).heap.size = w.heap.size + 1 := by simp
 have hn1 : ∀ w : World,Nt.N (w.alloc (.cells #[.int .u32 1] 57)) (.slice (some ⟨w.heap.size,0,none⟩) 1 1) 1 := fun w => by
  have e : (#[.int .u32 1] : Array Value) = Nt.row [1] := rfl;unfold Nt.N;rw [Nt.dig_small (by decide) (by decide),e];exact Nt.In.of_row (heap_alloc_new w _)
 obtain ⟨W2,hW2⟩ : ∃ z,(w.alloc (.cells #[.bool false,.slice none 0 0,.slice none 0 0] 24)).alloc (.cells #[.int .u32 1] 57) = z := ⟨_,rfl⟩;have q0 : W2.heap[w.heap.size]? = some (.cells #[.bool false,.slice none 0 0,.slice none 0 0] 24 (0,0)) := hW2 ▸ (Lib.alloc_old _ _ _ (by rw [hs0]; omega)).trans (heap_alloc_new w _);have hb0 : Below w.heap.size w W2 := hW2 ▸ ((Below.refl _ _).alloc (Nat.le_refl _) _).alloc (by rw [hs0]; omega) _;have h1 : Nt.N W2 (.slice (some ⟨w.heap.size + 1,0,none⟩) 1 1) 1 := by
  have := hn1 (w.alloc (.cells #[.bool false,.slice none 0 0,.slice none 0 0] 24));rw [hs0,hW2] at this;exact this
 have hsz : w.heap.size < W2.heap.size := (Array.getElem?_eq_some_iff.1 q0).1;have HIN := Lib.hid (And.intro (H.out.below hb0 (Nat.le_refl _)) h1);have HR := Lib.hid (fun (w' : World) (hb : Below W2.heap.size W2 w') => (hb.block w.heap.size hsz).trans q0);have HB := Lib.hid (fun (w' : World) (hb : Below W2.heap.size W2 w') => hb0.trans (hb.mono (Nat.le_of_lt hsz)));clear h q0 hb0 h1 hs0 hn1 e0;generalize (neg && decide (0 < t)) = ss at *;go_enter Tryz.func122,Tryz.ntmps122;go_wp2_with fail;refine (KR _ _ HIN.out.1 HIN.out.2).mono ?_;rintro x w1 ⟨v1,rfl,⟨tv,bv,rfl,hn,hd⟩,hb1⟩;obtain ⟨ad1,cap1,rfl⟩ := Nt.In.slice hn;obtain ⟨ad2,cap2,rfl⟩ := Nt.In.slice hd;obtain ⟨X1,X2,X3,⟨f0,z0,s0⟩,⟨f1,z1,s1⟩,⟨f2,z2,s2⟩,⟨r0,r1,r2'⟩,HX⟩ := Rt.put3 (HR.out _ hb1) (.bool ss) (.slice ad1 (Nt.dig t).length cap1) (.slice ad2 (Nt.dig 1).length cap2);have HOUT : Hid (Nt.N X3 (.slice ad1 (Nt.dig t).length cap1) t ∧ Nt.N X3 (.slice ad2 (Nt.dig 1).length cap2) 1 ∧ Below w.heap.size w X3) := Lib.hid ⟨Nt.In.othr hn (HR.out _ hb1) Rt.noWords HX.out.2.2.1 HX.out.2.1,Nt.In.othr hd (HR.out _ hb1) Rt.noWords HX.out.2.2.1 HX.out.2.1,HX.out.2.2.2 _ _ (HB.out _ hb1) (Nat.le_refl _)⟩;clear hn hd hb1 HX;generalize (Nt.dig t).length = l at *;generalize (Nt.dig 1).length = l2 at *;go_wp2_with fail
 refine bodyPost_ret (v := .agg #[.bool ss,.slice ad1 l cap1,.slice ad2 l2 cap2]) (by simp [results,Tryz.results122,go_sem,r0,r1,r2']) rfl ⟨_,rfl,⟨_,_,rfl,HOUT.out.1,HOUT.out.2.1⟩,HOUT.out.2.2⟩
set_option maxHeartbeats 200000
set_option maxRecDepth 512
theorem Rt.belowD {w0 w : World} (h : Below w0.heap.size w0 w) : Below w0.heap.size w0 w.drew := h.drew
theorem Rt.belowT {w0 w w2 : World} (h : Below w0.heap.size w0 w) (h2 : Below w.heap.size w w2) : Below w0.heap.size w0 w2 := h.trans (h2.mono h.size)
theorem Rt.three (w : World) (o o2 o3 : Obj) : ∃ W2,((w.alloc o).alloc o2).alloc o3 = W2 ∧ W2.heap[w.heap.size]? = some o ∧ W2.heap[w.heap.size + 1]? = some o2 ∧ W2.heap[w.heap.size + 2]? = some o3 ∧ W2.heap.size = w.heap.size + 3 ∧ Below w.heap.size w W2 := by
 have h1 : (w.alloc o).heap.size = w.heap.size + 1 := by simp
 have h2 : ((w.alloc o).alloc o2).heap.size = w.heap.size + 2 := by simp
 refine ⟨_,rfl,?_,?_,?_,by simp,?_⟩
 · exact (Lib.alloc_old _ _ _ (by rw [h2]; omega)).trans ((Lib.alloc_old _ _ _ (by rw [h1]; omega)).trans (heap_alloc_new w o))
 · have := heap_alloc_new (w.alloc o) o2;rw [h1] at this;exact (Lib.alloc_old _ _ _ (by rw [h2]; omega)).trans this
 · have := heap_alloc_new ((w.alloc o).alloc o2) o3;rwa [h2] at this
 · exact (((Below.refl _ _).alloc (Nat.le_refl _) _).alloc (by rw [h1]; omega) _).alloc (by rw [h2]; omega) _
theorem Rt.cells3 {w : World} {b : Nat} {v0 v1 v2 : Value} {t : TypeId} (h : w.heap[b]? = some (.cells #[v0,v1,v2] t (0,0))) : w.cell? ⟨b,0,none⟩ = some v0 ∧ w.cell? ⟨b,1,none⟩ = some v1 ∧ w.cell? ⟨b,2,none⟩ = some v2 := ⟨Rt.cell_of h 0,Rt.cell_of h 1,Rt.cell_of h 2⟩
end Go.Proofs.YteklhapffplohaaGreatDoor
namespace Go.Proofs.YteklhapffplohaaGreatDoor
open Go.RowKit
end Go.Proofs.YteklhapffplohaaGreatDoor
namespace Go.Proofs.YteklhapffplohaaGreatDoor
open Go.RowKit
theorem Rt.two (w : World) (o o2 : Obj) : ∃ W2,(w.alloc o).alloc o2 = W2 ∧ W2.heap[w.heap.size]? = some o ∧ W2.heap[w.heap.size + 1]? = some o2 ∧ W2.heap.size = w.heap.size + 2 ∧ Below w.heap.size w W2 := by
 have h1 : (w.alloc o).heap.size = w.heap.size + 1 := by simp
 refine ⟨_,rfl,?_,?_,by simp,?_⟩
 · exact (Lib.alloc_old _ _ _ (by rw [h1]; omega)).trans (heap_alloc_new w o)
 · have := heap_alloc_new (w.alloc o) o2;rwa [h1] at this
 · exact ((Below.refl _ _).alloc (Nat.le_refl _) _).alloc (by rw [h1]; omega) _
def Rt.Q (w : World) (v : Value) (s : Bool) (t b : Nat) (s2 : Bool) (t2 b2 : Nat) : Prop := ∃ tv bv tv2 bv2,v = .agg #[.bool s,tv,bv,.bool s2,tv2,bv2] ∧ Nt.N w tv t ∧ Nt.N w bv b ∧ Nt.N w tv2 t2 ∧ Nt.N w bv2 b2
theorem Rt.noWords6 {s s2 : Bool} {a1 a2 a3 a4 : Option Addr} {n1 n2 n3 n4 c1 c2 c3 c4 : Nat} : ∀ (k : Nat) (n : Int),(#[Value.bool s,.slice a1 n1 c1,.slice a2 n2 c2,.bool s2,.slice a3 n3 c3,.slice a4 n4 c4] : Array Value)[k]? ≠ some (.int .u32 n) := by
 intro k n h;have hm := Array.mem_of_getElem? h;simp at hm
theorem Rt.cells6 {w : World} {b : Nat} {v0 v1 v2 v3 v4 v5 : Value} {t : TypeId} (h : w.heap[b]? = some (.cells #[v0,v1,v2,v3,v4,v5] t (0,0))) : w.cell? ⟨b,0,none⟩ = some v0 ∧ w.cell? ⟨b,1,none⟩ = some v1 ∧ w.cell? ⟨b,2,none⟩ = some v2 ∧ w.cell? ⟨b,3,none⟩ = some v3 ∧ w.cell? ⟨b,4,none⟩ = some v4 ∧ w.cell? ⟨b,5,none⟩ = some v5 := ⟨Rt.cell_of h 0,Rt.cell_of h 1,Rt.cell_of h 2,Rt.cell_of h 3,Rt.cell_of h 4,Rt.cell_of h 5⟩
theorem Rt.put6 {w : World} {b : Nat} {v0 v1 v2 v3 v4 v5 : Value} {t : TypeId} (h : w.heap[b]? = some (.cells #[v0,v1,v2,v3,v4,v5] t (0,0))) (u0 u1 u2 u3 u4 u5 : Value) :
 ∃ W1 W2 W3 W4 W5 W6 : World,
 (w.cell? ⟨b,0,none⟩ = some v0 ∧ w.frozen? ⟨b,0,none⟩ = false ∧ w.setCell ⟨b,0,none⟩ u0 = W1) ∧
 (W1.cell? ⟨b,1,none⟩ = some v1 ∧ W1.frozen? ⟨b,1,none⟩ = false ∧ W1.setCell ⟨b,1,none⟩ u1 = W2) ∧
 (W2.cell? ⟨b,2,none⟩ = some v2 ∧ W2.frozen? ⟨b,2,none⟩ = false ∧ W2.setCell ⟨b,2,none⟩ u2 = W3) ∧
 (W3.cell? ⟨b,3,none⟩ = some v3 ∧ W3.frozen? ⟨b,3,none⟩ = false ∧ W3.setCell ⟨b,3,none⟩ u3 = W4) ∧
 (W4.cell? ⟨b,4,none⟩ = some v4 ∧ W4.frozen? ⟨b,4,none⟩ = false ∧ W4.setCell ⟨b,4,none⟩ u4 = W5) ∧
 (W5.cell? ⟨b,5,none⟩ = some v5 ∧ W5.frozen? ⟨b,5,none⟩ = false ∧ W5.setCell ⟨b,5,none⟩ u5 = W6) ∧
 (W6.cell? ⟨b,0,none⟩ = some u0 ∧ W6.cell? ⟨b,1,none⟩ = some u1 ∧ W6.cell? ⟨b,2,none⟩ = some u2 ∧ W6.cell? ⟨b,3,none⟩ = some u3 ∧ W6.cell? ⟨b,4,none⟩ = some u4 ∧ W6.cell? ⟨b,5,none⟩ = some u5) ∧
 Hid (W6.heap[b]? = some (.cells #[u0,u1,u2,u3,u4,u5] t (0,0)) ∧ W6.heap.size = w.heap.size ∧ (∀ q,q ≠ b → W6.heap[q]? = w.heap[q]?) ∧ ∀ (B : Nat) (w0 : World),Below B w0 w → B ≤ b → Below B w0 W6) := by
 obtain ⟨A1,h1⟩ : ∃ z,w.setCell ⟨b,0,none⟩ u0 = z := ⟨_,rfl⟩
 obtain ⟨A2,h2⟩ : ∃ z,A1.setCell ⟨b,1,none⟩ u1 = z := ⟨_,rfl⟩
 obtain ⟨A3,h3⟩ : ∃ z,A2.setCell ⟨b,2,none⟩ u2 = z := ⟨_,rfl⟩
 obtain ⟨A4,h4⟩ : ∃ z,A3.setCell ⟨b,3,none⟩ u3 = z := ⟨_,rfl⟩
 obtain ⟨A5,h5⟩ : ∃ z,A4.setCell ⟨b,4,none⟩ u4 = z := ⟨_,rfl⟩
 obtain ⟨A6,h6⟩ : ∃ z,A5.setCell ⟨b,5,none⟩ u5 = z := ⟨_,rfl⟩
 have g1 : A1.heap[b]? = some (.cells #[u0,v1,v2,v3,v4,v5] t (0,0)) := h1 ▸ Rt.setCells h 0 u0
 have g2 : A2.heap[b]? = some (.cells #[u0,u1,v2,v3,v4,v5] t (0,0)) := h2 ▸ Rt.setCells g1 1 u1
 have g3 : A3.heap[b]? = some (.cells #[u0,u1,u2,v3,v4,v5] t (0,0)) := h3 ▸ Rt.setCells g2 2 u2
 have g4 : A4.heap[b]? = some (.cells #[u0,u1,u2,u3,v4,v5] t (0,0)) := h4 ▸ Rt.setCells g3 3 u3
 have g5 : A5.heap[b]? = some (.cells #[u0,u1,u2,u3,u4,v5] t (0,0)) := h5 ▸ Rt.setCells g4 4 u4
 have g6 : A6.heap[b]? = some (.cells #[u0,u1,u2,u3,u4,u5] t (0,0)) := h6 ▸ Rt.setCells g5 5 u5
 refine ⟨A1,A2,A3,A4,A5,A6,⟨Rt.cell_of h 0,Rt.frozen_of h 0,h1⟩,⟨Rt.cell_of g1 1,Rt.frozen_of g1 1,h2⟩,⟨Rt.cell_of g2 2,Rt.frozen_of g2 2,h3⟩,⟨Rt.cell_of g3 3,Rt.frozen_of g3 3,h4⟩,⟨Rt.cell_of g4 4,Rt.frozen_of g4 4,h5⟩,⟨Rt.cell_of g5 5,Rt.frozen_of g5 5,h6⟩,Rt.cells6 g6,Lib.hid ⟨g6,?_,fun q hq => ?_,fun B w0 hb hB => ?_⟩⟩
 · subst h1 h2 h3 h4 h5 h6;simp
 · subst h1 h2 h3 h4 h5 h6;rw [Below.heap_setCell _ ⟨b,5,none⟩ _ q hq,Below.heap_setCell _ ⟨b,4,none⟩ _ q hq,Below.heap_setCell _ ⟨b,3,none⟩ _ q hq,Below.heap_setCell _ ⟨b,2,none⟩ _ q hq,Below.heap_setCell _ ⟨b,1,none⟩ _ q hq,Below.heap_setCell _ ⟨b,0,none⟩ _ q hq]
 · subst h1 h2 h3 h4 h5 h6;exact (((((hb.setCell (p := ⟨b,0,none⟩) hB _).setCell (p := ⟨b,1,none⟩) hB _).setCell (p := ⟨b,2,none⟩) hB _).setCell (p := ⟨b,3,none⟩) hB _).setCell (p := ⟨b,4,none⟩) hB _).setCell (p := ⟨b,5,none⟩) hB _
def Nt.Fr (B : Nat) (v : Value) : Prop := ∀ b off l c,v = .slice (some ⟨b,off,none⟩) l c → B ≤ b
theorem Nt.Fr.mono {B B' : Nat} {v : Value} (h : Nt.Fr B v) (hB : B' ≤ B) : Nt.Fr B' v := fun b off l c e => Nat.le_trans hB (h b off l c e)
theorem Nt.Fr.own {w : World} {B : Nat} {t : TypeId} {v : Value} {n : Nat} {xs : List Value} (h : w.ownsRow B t 1 v n xs) : Nt.Fr B v := by
 intro b off l c e;rcases h.2 with ⟨hv,_⟩ | ⟨g,cap,cur,hv,hB,_⟩
 · rw [hv] at e; simp at e
 · rw [hv] at e;simp only [Value.slice.injEq,Option.some.injEq,Addr.mk.injEq] at e;omega
theorem Nt.Clone_fr (ws : List Nat) (v : Value) (w : World) (h : Nt.In w v ws) (hl : ws.length ≤ 1000000) : Calls Tryz.prog 129 #[v] w fun e w' => ∃ v',e = .returned v' ∧ Nt.In w' v' ws ∧ Nt.Fr w.heap.size v' ∧ Below w.heap.size w w' :=
 (Nt.Clone_own ws v w h hl).mono fun _ _ ⟨v',he,ho,hb⟩ => ⟨v',he,Nt.In.of_own ho,Nt.Fr.own ho,hb⟩
def Rt.Fr (B : Nat) (v : Value) : Prop := ∃ s tv bv,v = .agg #[s,tv,bv] ∧ Nt.Fr B tv ∧ Nt.Fr B bv
set_option maxHeartbeats 8000000
set_option maxRecDepth 1000000
theorem Rt.own1_any (s : Bool) (t b : Nat) (v : Value) (w : World) (h : Rt.R w v s t b) (hl : (Nt.dig t).length ≤ 400000 ∧ (Nt.dig b).length ≤ 400000) :
 Calls Tryz.prog 143 #[v] w fun e w' => ∃ v',e = .returned v' ∧ Rt.R w' v' s t b ∧ Rt.Fr w.heap.size v' ∧ Below w.heap.size w w' := by
 have KT := fun v w h => Nt.Clone_fr (Nt.dig t) v w h (by omega)
 have KB := fun v w h => Nt.Clone_fr (Nt.dig b) v w h (by omega)
 clear hl
 obtain ⟨tv1,bv1,rfl,hn1,hd1⟩ := h
 obtain ⟨a1,c1,rfl⟩ := Nt.In.slice hn1
 obtain ⟨a2,c2,rfl⟩ := Nt.In.slice hd1
 generalize (Nt.dig t).length = l1 at *
 generalize (Nt.dig b).length = l2 at *
 obtain ⟨W2,hW2,q0,q1,hsz,hb0⟩ := Rt.two w (.cells #[.bool s,.slice a1 l1 c1,.slice a2 l2 c2] 24) (.cells #[.bool false,.slice none 0 0,.slice none 0 0] 24)
 have HI := Lib.hid (fun (w' : World) (hb : Below W2.heap.size W2 w') => And.intro ((Nt.N.below hn1 hb0 (Nat.le_refl _)).below hb (Nat.le_refl _)) ((Nt.N.below hd1 hb0 (Nat.le_refl _)).below hb (Nat.le_refl _)))
 have HK := Lib.hid (fun (w' : World) (hb : Below W2.heap.size W2 w') => Rt.cells3 ((hb.block w.heap.size (by omega)).trans q0))
 have HR := Lib.hid (fun (w' : World) (hb : Below W2.heap.size W2 w') => (hb.block (w.heap.size + 1) (by omega)).trans q1)
 have HKX := Lib.hid (fun (w' w'' : World) (hb : Below W2.heap.size W2 w') (hx : ∀ q,q ≠ w.heap.size + 1 → w''.heap[q]? = w'.heap[q]?) => (Rt.cells3 ((hx w.heap.size (by omega)).trans ((hb.block w.heap.size (by omega)).trans q0))))
 have HB := Lib.hid (fun (w' : World) (hb : Below W2.heap.size W2 w') => hb0.trans (hb.mono (by omega : w.heap.size ≤ W2.heap.size)))
 have hacc : Below W2.heap.size W2 W2.drew := Rt.belowD (Below.refl _ _)
 have hkeep := HK.out _ hacc
 have HZ : Hid (∀ w',Below W2.heap.size W2 w' → w.heap.size ≤ w'.heap.size) := Lib.hid (fun w' hb => by have := hb.size; omega)
 clear q0 q1 hb0 hn1 hd1 hsz
 go_enter Tryz.func143,Tryz.ntmps143
 go_wp2_with fail
 clear hW2
 go_region_held3 (fun w' => w'.cell? ⟨w.heap.size,0,none⟩ = some (.bool s) ∧ w'.cell? ⟨w.heap.size,1,none⟩ = some (.slice a1 l1 c1) ∧ w'.cell? ⟨w.heap.size,2,none⟩ = some (.slice a2 l2 c2))
  (first | exact hkeep | exact hkeepX)
  (first
    | (go_at_call_of 129 (Value.slice a1 l1 c1)
       refine (KT _ _ (HI.out _ hacc).1).mono ?_
       rintro x w5 ⟨v5,rfl,hv5,hf5,hb5⟩
       have hf5 := Lib.hid (hf5.mono (HZ.out _ hacc))
       have hacc := Rt.belowT hacc hb5
       have hkeep := HK.out _ hacc)
    | (go_at_call_of 129 (Value.slice a2 l2 c2)
       refine (KB _ _ (HI.out _ hacc).2).mono ?_
       rintro x w6 ⟨v6,rfl,hv6,hf6,hb6⟩
       have hf6 := Lib.hid (hf6.mono (HZ.out _ hacc))
       have hn : Nt.N w6 v5 t := Nt.In.below hv5 hb6 (Nat.le_refl _)
       have hd : Nt.N w6 v6 b := hv6
       obtain ⟨a5,c5,rfl⟩ := Nt.In.slice hn
       obtain ⟨a6,c6,rfl⟩ := Nt.In.slice hd
       have hacc := Rt.belowT hacc hb6
       have hkeep := HK.out _ hacc
       obtain ⟨X1,X2,X3,⟨f0,z0,s0⟩,⟨f1,z1,s1'⟩,⟨f2,z2,s2'⟩,⟨r0,r1,r2'⟩,HX⟩ := Rt.put3 (HR.out _ hacc) (.bool s) (.slice a5 (Nt.dig t).length c5) (.slice a6 (Nt.dig b).length c6)
       have HOUT : Hid (Nt.N X3 (.slice a5 (Nt.dig t).length c5) t ∧ Nt.N X3 (.slice a6 (Nt.dig b).length c6) b ∧ Below w.heap.size w X3) := Lib.hid ⟨Nt.In.othr hn (HR.out _ hacc) Rt.noWords HX.out.2.2.1 HX.out.2.1,Nt.In.othr hd (HR.out _ hacc) Rt.noWords HX.out.2.2.1 HX.out.2.1,HX.out.2.2.2 _ _ (HB.out _ hacc) (by omega)⟩
       have hkeepX := HKX.out _ X3 hacc HX.out.2.2.1))
 all_goals
  clear hkeep hkeepX hacc hb5 hb6 hv5 hv6 hn hd HX
  generalize (Nt.dig t).length = l5 at *
  generalize (Nt.dig b).length = l6 at *
  go_wp2_with fail
  refine bodyPost_ret (v := .agg #[.bool s,.slice a5 l5 c5,.slice a6 l6 c6]) (by simp [results,Tryz.results143,go_sem,r0,r1,r2']) rfl ⟨_,rfl,⟨_,_,rfl,HOUT.out.1,HOUT.out.2.1⟩,⟨_,_,_,rfl,hf5.out,hf6.out⟩,HOUT.out.2.2⟩
set_option maxHeartbeats 200000
set_option maxRecDepth 512
def Rt.FrN (B : Nat) (v : Value) : Prop := ∃ s tv bv s2 tv2 bv2,v = .agg #[s,tv,bv,s2,tv2,bv2] ∧ Nt.Fr B tv ∧ Nt.Fr B bv ∧ Nt.Fr B tv2 ∧ Nt.Fr B bv2
theorem Rt.Fr.open {B B' : Nat} {s tv bv : Value} (h : Rt.Fr B (.agg #[s,tv,bv])) (hB : B' ≤ B) : Nt.Fr B' tv ∧ Nt.Fr B' bv := by
 obtain ⟨s',tv',bv',e,h1,h2⟩ := h;simp only [Value.agg.injEq] at e;have e1 : tv = tv' := by have := congrArg (fun a : Array Value => a[1]?) e; simpa using this
 have e2 : bv = bv' := by have := congrArg (fun a : Array Value => a[2]?) e; simpa using this
 subst e1 e2;exact ⟨h1.mono hB,h2.mono hB⟩
set_option maxHeartbeats 8000000
set_option maxRecDepth 1000000
theorem Rt.own_any (s : Bool) (t b : Nat) (s2 : Bool) (t2 b2 : Nat) (v : Value) (w : World) (h : Rt.Q w v s t b s2 t2 b2) (hl : (Nt.dig t).length ≤ 400000 ∧ (Nt.dig b).length ≤ 400000 ∧ (Nt.dig t2).length ≤ 400000 ∧ (Nt.dig b2).length ≤ 400000) :
 Calls Tryz.prog 126 #[v] w fun e w' => ∃ v',e = .returned v' ∧ Rt.Q w' v' s t b s2 t2 b2 ∧ Rt.FrN w.heap.size v' ∧ Below w.heap.size w w' := by
 have K1 := fun v w h => Rt.own1_any s t b v w h ⟨hl.1,hl.2.1⟩
 have K2 := fun v w h => Rt.own1_any s2 t2 b2 v w h ⟨hl.2.2.1,hl.2.2.2⟩
 clear hl
 obtain ⟨tv1,bv1,tv2,bv2,rfl,hn1,hd1,hn2,hd2⟩ := h
 obtain ⟨a1,c1,rfl⟩ := Nt.In.slice hn1
 obtain ⟨a2,c2,rfl⟩ := Nt.In.slice hd1
 obtain ⟨a3,c3,rfl⟩ := Nt.In.slice hn2
 obtain ⟨a4,c4,rfl⟩ := Nt.In.slice hd2
 generalize (Nt.dig t).length = l1 at *
 generalize (Nt.dig b).length = l2 at *
 generalize (Nt.dig t2).length = l3 at *
 generalize (Nt.dig b2).length = l4 at *
 obtain ⟨W2,hW2,q0,q1,hsz,hb0⟩ := Rt.two w (.cells #[.bool s,.slice a1 l1 c1,.slice a2 l2 c2,.bool s2,.slice a3 l3 c3,.slice a4 l4 c4] 26) (.cells #[.bool false,.slice none 0 0,.slice none 0 0,.bool false,.slice none 0 0,.slice none 0 0] 26)
 have HI := Lib.hid (fun (w' : World) (hb : Below W2.heap.size W2 w') => And.intro (show Rt.R w' (.agg #[.bool s,.slice a1 l1 c1,.slice a2 l2 c2]) s t b from ⟨_,_,rfl,(Nt.N.below hn1 hb0 (Nat.le_refl _)).below hb (Nat.le_refl _),(Nt.N.below hd1 hb0 (Nat.le_refl _)).below hb (Nat.le_refl _)⟩) (show Rt.R w' (.agg #[.bool s2,.slice a3 l3 c3,.slice a4 l4 c4]) s2 t2 b2 from ⟨_,_,rfl,(Nt.N.below hn2 hb0 (Nat.le_refl _)).below hb (Nat.le_refl _),(Nt.N.below hd2 hb0 (Nat.le_refl _)).below hb (Nat.le_refl _)⟩))
 have HK := Lib.hid (fun (w' : World) (hb : Below W2.heap.size W2 w') => Rt.cells6 ((hb.block w.heap.size (by omega)).trans q0))
 have HR := Lib.hid (fun (w' : World) (hb : Below W2.heap.size W2 w') => (hb.block (w.heap.size + 1) (by omega)).trans q1)
 have HKX := Lib.hid (fun (w' w'' : World) (hb : Below W2.heap.size W2 w') (hx : ∀ q,q ≠ w.heap.size + 1 → w''.heap[q]? = w'.heap[q]?) => (Rt.cells6 ((hx w.heap.size (by omega)).trans ((hb.block w.heap.size (by omega)).trans q0))))
 have HB := Lib.hid (fun (w' : World) (hb : Below W2.heap.size W2 w') => hb0.trans (hb.mono (by omega : w.heap.size ≤ W2.heap.size)))
 have hacc : Below W2.heap.size W2 W2.drew := Rt.belowD (Below.refl _ _)
 have hkeep := HK.out _ hacc
 have HZ : Hid (∀ w',Below W2.heap.size W2 w' → w.heap.size ≤ w'.heap.size) := Lib.hid (fun w' hb => by have := hb.size; omega)
 clear q0 q1 hb0 hn1 hd1 hn2 hd2 hsz
 go_enter Tryz.func126,Tryz.ntmps126
 go_wp2_with fail
 clear hW2
 go_region_held3 (fun w' => w'.cell? ⟨w.heap.size,0,none⟩ = some (.bool s) ∧ w'.cell? ⟨w.heap.size,1,none⟩ = some (.slice a1 l1 c1) ∧ w'.cell? ⟨w.heap.size,2,none⟩ = some (.slice a2 l2 c2) ∧ w'.cell? ⟨w.heap.size,3,none⟩ = some (.bool s2) ∧ w'.cell? ⟨w.heap.size,4,none⟩ = some (.slice a3 l3 c3) ∧ w'.cell? ⟨w.heap.size,5,none⟩ = some (.slice a4 l4 c4))
  (first | exact hkeep | exact hkeepX)
  (first
    | (go_at_call_of 143 (Value.agg #[.bool s,.slice a1 l1 c1,.slice a2 l2 c2])
       refine (K1 _ _ (HI.out _ hacc).1).mono ?_
       rintro x w5 ⟨v5,rfl,hv5,hf5,hb5⟩
       obtain ⟨tvx,bvx,rfl,hn5,hd5⟩ := hv5
       have hf5 := Lib.hid (Rt.Fr.open hf5 (HZ.out _ hacc))
       have hacc := Rt.belowT hacc hb5
       have hkeep := HK.out _ hacc)
    | (go_at_call_of 143 (Value.agg #[.bool s2,.slice a3 l3 c3,.slice a4 l4 c4])
       refine (K2 _ _ (HI.out _ hacc).2).mono ?_
       rintro x w6 ⟨v6,rfl,hv6,hf6,hb6⟩
       obtain ⟨tvy,bvy,rfl,hn6,hd6⟩ := hv6
       have hf6 := Lib.hid (Rt.Fr.open hf6 (HZ.out _ hacc))
       have hn := hn5.below hb6 (Nat.le_refl _)
       have hd := hd5.below hb6 (Nat.le_refl _)
       obtain ⟨a5,c5,rfl⟩ := Nt.In.slice hn
       obtain ⟨a6,c6,rfl⟩ := Nt.In.slice hd
       obtain ⟨a7,c7,rfl⟩ := Nt.In.slice hn6
       obtain ⟨a8,c8,rfl⟩ := Nt.In.slice hd6
       have hacc := Rt.belowT hacc hb6
       have hkeep := HK.out _ hacc
       obtain ⟨X1,X2,X3,X4,X5,X6,⟨f0,z0,s0⟩,⟨f1,z1,s1'⟩,⟨f2,z2,s2'⟩,⟨f3,z3,s3'⟩,⟨f4,z4,s4'⟩,⟨f5,z5,s5'⟩,⟨r0,r1,r2',r3,r4,r5⟩,HX⟩ := Rt.put6 (HR.out _ hacc) (.bool s) (.slice a5 (Nt.dig t).length c5) (.slice a6 (Nt.dig b).length c6) (.bool s2) (.slice a7 (Nt.dig t2).length c7) (.slice a8 (Nt.dig b2).length c8)
       have HOUT : Hid (Rt.Q X6 (.agg #[.bool s,.slice a5 (Nt.dig t).length c5,.slice a6 (Nt.dig b).length c6,.bool s2,.slice a7 (Nt.dig t2).length c7,.slice a8 (Nt.dig b2).length c8]) s t b s2 t2 b2 ∧ Below w.heap.size w X6) := Lib.hid ⟨⟨_,_,_,_,rfl,Nt.In.othr hn (HR.out _ hacc) Rt.noWords6 HX.out.2.2.1 HX.out.2.1,Nt.In.othr hd (HR.out _ hacc) Rt.noWords6 HX.out.2.2.1 HX.out.2.1,Nt.In.othr hn6 (HR.out _ hacc) Rt.noWords6 HX.out.2.2.1 HX.out.2.1,Nt.In.othr hd6 (HR.out _ hacc) Rt.noWords6 HX.out.2.2.1 HX.out.2.1⟩,HX.out.2.2.2 _ _ (HB.out _ hacc) (by omega)⟩
       have hkeepX := HKX.out _ X6 hacc HX.out.2.2.1))
 all_goals
  clear hkeep hkeepX hacc hb5 hb6 hn5 hd5 hn6 hd6 hn hd HX
  generalize (Nt.dig t).length = l5 at *
  generalize (Nt.dig b).length = l6 at *
  generalize (Nt.dig t2).length = l7 at *
  generalize (Nt.dig b2).length = l8 at *
  go_wp2_with fail
  refine bodyPost_ret (v := .agg #[.bool s,.slice a5 l5 c5,.slice a6 l6 c6,.bool s2,.slice a7 l7 c7,.slice a8 l8 c8]) (by simp [results,Tryz.results126,go_sem,r0,r1,r2',r3,r4,r5]) rfl ⟨_,rfl,HOUT.out.1,⟨_,_,_,_,_,_,rfl,hf5.out.1,hf5.out.2,hf6.out.1,hf6.out.2⟩,HOUT.out.2⟩
set_option maxHeartbeats 200000
set_option maxRecDepth 512
theorem Rt.FrN.mono {B B' : Nat} {v : Value} (h : Rt.FrN B v) (hB : B' ≤ B) : Rt.FrN B' v := by
 obtain ⟨s,tv,bv,s2,tv2,bv2,e,h1,h2,h3,h4⟩ := h;exact ⟨s,tv,bv,s2,tv2,bv2,e,h1.mono hB,h2.mono hB,h3.mono hB,h4.mono hB⟩
set_option maxHeartbeats 8000000
set_option maxRecDepth 1000000
theorem Rt.fit_ok (s : Bool) (t b : Nat) (s2 : Bool) (t2 b2 : Nat) (v v2 : Value) (w : World) (h : Rt.R w v s t b) (h2 : Rt.R w v2 s2 t2 b2) (hl : (Nt.dig t).length ≤ 512 ∧ (Nt.dig b).length ≤ 512 ∧ (Nt.dig t2).length ≤ 512 ∧ (Nt.dig b2).length ≤ 512) :
 Calls Tryz.prog 103 #[v,v2] w fun e w' => ∃ v',e = .returned (.tuple #[v',.int .i64 0]) ∧ Rt.Q w' v' s t b s2 t2 b2 ∧ Rt.FrN w.heap.size v' ∧ Below w.heap.size w w' := by
 have KO := fun v w h => Rt.own_any s t b s2 t2 b2 v w h ⟨by omega,by omega,by omega,by omega⟩
 obtain ⟨tv1,bv1,rfl,hn1,hd1⟩ := h
 obtain ⟨tv2,bv2,rfl,hn2,hd2⟩ := h2
 obtain ⟨a1,c1,rfl⟩ := Nt.In.slice hn1
 obtain ⟨a2,c2,rfl⟩ := Nt.In.slice hd1
 obtain ⟨a3,c3,rfl⟩ := Nt.In.slice hn2
 obtain ⟨a4,c4,rfl⟩ := Nt.In.slice hd2
 obtain ⟨g1,g2,g3,g4⟩ := hl
 have HI := Lib.hid (fun (w' : World) (hb : Below w.heap.size w w') => (show Rt.Q w' (.agg #[.bool s,.slice a1 (Nt.dig t).length c1,.slice a2 (Nt.dig b).length c2,.bool s2,.slice a3 (Nt.dig t2).length c3,.slice a4 (Nt.dig b2).length c4]) s t b s2 t2 b2 from ⟨_,_,_,_,rfl,Nt.N.below hn1 hb (Nat.le_refl _),Nt.N.below hd1 hb (Nat.le_refl _),Nt.N.below hn2 hb (Nat.le_refl _),Nt.N.below hd2 hb (Nat.le_refl _)⟩))
 clear hn1 hd1 hn2 hd2
 generalize (Nt.dig t).length = l1 at *
 generalize (Nt.dig b).length = l2 at *
 generalize (Nt.dig t2).length = l3 at *
 generalize (Nt.dig b2).length = l4 at *
 have i1 : (l1 : Int) ≤ 512 := by omega
 have i2 : (l2 : Int) ≤ 512 := by omega
 have i3 : (l3 : Int) ≤ 512 := by omega
 have i4 : (l4 : Int) ≤ 512 := by omega
 obtain ⟨W2,hW2,q0,q1,q2,hsz,hb0⟩ := Rt.three w (.cells #[.bool s,.slice a1 l1 c1,.slice a2 l2 c2] 24) (.cells #[.bool s2,.slice a3 l3 c3,.slice a4 l4 c4] 24) (.cells #[.bool false,.slice none 0 0,.slice none 0 0,.bool false,.slice none 0 0,.slice none 0 0] 26)
 obtain ⟨W3,hW3⟩ : ∃ z,W2.alloc (.cells #[.slice a1 l1 c1,.slice a2 l2 c2,.slice a3 l3 c3,.slice a4 l4 c4] 22) = z := ⟨_,rfl⟩
 have hb3 : Below w.heap.size w W3 := by rw [← hW3]; exact hb0.alloc hb0.size _
 have r0 := Rt.cells3 (show W3.heap[w.heap.size]? = some _ by rw [← hW3]; exact (Lib.alloc_old _ _ _ (by omega)).trans q0)
 have r1 := Rt.cells3 (show W3.heap[w.heap.size + 1]? = some _ by rw [← hW3]; exact (Lib.alloc_old _ _ _ (by omega)).trans q1)
 have r2 : W3.heap[w.heap.size + 2]? = some (.cells #[.bool false,.slice none 0 0,.slice none 0 0,.bool false,.slice none 0 0,.slice none 0 0] 26 (0,0)) := by rw [← hW3]; exact (Lib.alloc_old _ _ _ (by omega)).trans q2
 have r3 : W3.heap[W2.heap.size]? = some (.cells #[.slice a1 l1 c1,.slice a2 l2 c2,.slice a3 l3 c3,.slice a4 l4 c4] 22 (0,0)) := by rw [← hW3]; exact heap_alloc_new W2 _
 obtain ⟨k0,k1,k2⟩ := Rt.cells3 q0
 obtain ⟨m0,m1,m2⟩ := Rt.cells3 q1
 have HR2 := Lib.hid r2
 have HB3 := Lib.hid hb3
 have HR0 := Lib.hid r0
 have HR1 := Lib.hid r1
 have e0 : W3.cell? ⟨W2.heap.size,0,none⟩ = some (.slice a1 l1 c1) := Rt.cell_of r3 0
 have e1 : W3.cell? ⟨W2.heap.size,1,none⟩ = some (.slice a2 l2 c2) := Rt.cell_of r3 1
 have e2 : W3.cell? ⟨W2.heap.size,2,none⟩ = some (.slice a3 l3 c3) := Rt.cell_of r3 2
 have e3 : W3.cell? ⟨W2.heap.size,3,none⟩ = some (.slice a4 l4 c4) := Rt.cell_of r3 3
 clear q0 q1 q2 hb0 hb3 r0 r1 r2 r3 g1 g2 g3 g4 hsz
 go_enter Tryz.func103,Tryz.ntmps103
 go_wp2_with fail
 go_loopw [18] (fun i wr => wr = W3 ∧ ∃ k : Nat,i = .int .i64 k ∧ k ≤ 4) (fun i _ => 4 - (intOf i).toNat)
 case atStart => exact ⟨rfl,0,rfl,by decide⟩
 case round =>
  obtain ⟨hwr,k,rfl,hk⟩ := hrel
  subst hwr
  rcases (show k = 0 ∨ k = 1 ∨ k = 2 ∨ k = 3 ∨ k = 4 by omega) with rfl | rfl | rfl | rfl | rfl
  case inr.inr.inr.inr =>
   obtain ⟨k0,k1,k2⟩ := HR0.out
   obtain ⟨m0,m1,m2⟩ := HR1.out
   go_wp2_with fail
   refine (KO _ _ (HI.out _ HB3.out)).mono ?_
   rintro x w4 ⟨v4,rfl,hq4,hf4,hb4⟩
   have hr4 : w4.heap[w.heap.size + 1 + 1]? = some (.cells #[.bool false,.slice none 0 0,.slice none 0 0,.bool false,.slice none 0 0,.slice none 0 0] 26 (0,0)) := (hb4.block (w.heap.size + 1 + 1) ((Array.getElem?_eq_some_iff.1 HR2.out).1)).trans HR2.out
   have hbw4 : Below w.heap.size w w4 := HB3.out.trans (hb4.mono HB3.out.size)
   have HF4 := Lib.hid (hf4.mono HB3.out.size)
   obtain ⟨tvx,bvx,tvy,bvy,rfl,hn5,hd5,hn6,hd6⟩ := hq4
   obtain ⟨a5,c5,rfl⟩ := Nt.In.slice hn5
   obtain ⟨a6,c6,rfl⟩ := Nt.In.slice hd5
   obtain ⟨a7,c7,rfl⟩ := Nt.In.slice hn6
   obtain ⟨a8,c8,rfl⟩ := Nt.In.slice hd6
   obtain ⟨X1,X2,X3,X4,X5,X6,⟨f0,z0,s0⟩,⟨f1,z1,s1'⟩,⟨f2,z2,s2'⟩,⟨f3,z3,s3'⟩,⟨f4,z4,s4'⟩,⟨f5,z5,s5'⟩,⟨r0,r1,r2',r3,r4,r5⟩,HX⟩ := Rt.put6 hr4 (.bool s) (.slice a5 (Nt.dig t).length c5) (.slice a6 (Nt.dig b).length c6) (.bool s2) (.slice a7 (Nt.dig t2).length c7) (.slice a8 (Nt.dig b2).length c8)
   have HOUT : Hid (Rt.Q X6 (.agg #[.bool s,.slice a5 (Nt.dig t).length c5,.slice a6 (Nt.dig b).length c6,.bool s2,.slice a7 (Nt.dig t2).length c7,.slice a8 (Nt.dig b2).length c8]) s t b s2 t2 b2 ∧ Below w.heap.size w X6) := Lib.hid ⟨⟨_,_,_,_,rfl,Nt.In.othr hn5 hr4 Rt.noWords6 HX.out.2.2.1 HX.out.2.1,Nt.In.othr hd5 hr4 Rt.noWords6 HX.out.2.2.1 HX.out.2.1,Nt.In.othr hn6 hr4 Rt.noWords6 HX.out.2.2.1 HX.out.2.1,Nt.In.othr hd6 hr4 Rt.noWords6 HX.out.2.2.1 HX.out.2.1⟩,HX.out.2.2.2 _ _ hbw4 (by omega)⟩
   clear hf4 hb4 hbw4 hr4 hn5 hd5 hn6 hd6 HX
   generalize (Nt.dig t).length = l5 at *
   generalize (Nt.dig b).length = l6 at *
   generalize (Nt.dig t2).length = l7 at *
   generalize (Nt.dig b2).length = l8 at *
   go_wp2_with fail
   refine bodyPost_ret (v := .tuple #[.agg #[.bool s,.slice a5 l5 c5,.slice a6 l6 c6,.bool s2,.slice a7 l7 c7,.slice a8 l8 c8],.int .i64 0]) (by simp [results,Tryz.results103,go_sem,r0,r1,r2',r3,r4,r5]) rfl ⟨_,rfl,HOUT.out.1,HF4.out,HOUT.out.2⟩
  all_goals
   go_wp2_with fail
   go_roundw
   case rel => exact ⟨by first | rfl | trivial,_,by first | rfl | go_num,by decide⟩
   case measure => simp [intOf]
set_option maxHeartbeats 200000
set_option maxRecDepth 512
def Dr.XA (b : Nat) (s : ByteArray) (rx : Nat) (u : Int) (w : World) : Prop := w.heap[b]? = some (.cells #[.string s,.int .i64 (rx : Int),.int .i64 u] 126 (0,0))
theorem Dr.XA.lt {b : Nat} {s : ByteArray} {rx : Nat} {u : Int} {w : World} (h : Dr.XA b s rx u w) : b < w.heap.size := (Array.getElem?_eq_some_iff.1 h).1
theorem Dr.XA.below {b : Nat} {s : ByteArray} {rx : Nat} {u : Int} {w w' : World} (h : Dr.XA b s rx u w) (hb : Below w.heap.size w w') : Dr.XA b s rx u w' := (hb.block b h.lt).trans h
theorem Dr.XA.cells {b : Nat} {s : ByteArray} {rx : Nat} {u : Int} {w : World} (h : Dr.XA b s rx u w) : w.cell? ⟨b,0,none⟩ = some (.string s) ∧ w.cell? ⟨b,1,none⟩ = some (.int .i64 (rx : Int)) ∧ w.cell? ⟨b,2,none⟩ = some (.int .i64 u) :=
 ⟨Lib.cell_of_heap h 0,Lib.cell_of_heap h 1,Lib.cell_of_heap h 2⟩
theorem Dr.XA.setS {b : Nat} {s : ByteArray} {rx : Nat} {u : Int} {w : World} (h : Dr.XA b s rx u w) (s' : ByteArray) : ∃ W,w.setCell ⟨b,0,none⟩ (.string s') = W ∧ w.frozen? ⟨b,0,none⟩ = false ∧ Dr.XA b s' rx u W ∧ Dr.Kept b w W ∧ W.heap.size = w.heap.size :=
 ⟨_,rfl,Rt.frozen_of h 0,Rt.setCells h 0 _,⟨rfl,rfl,rfl,by simp,fun q hq hne => heap_setCell_other w ⟨b,0,none⟩ q _ (fun e => hne (by simp [e]))⟩,by simp⟩
theorem Dr.XA.setR {b : Nat} {s : ByteArray} {rx : Nat} {u : Int} {w : World} (h : Dr.XA b s rx u w) (rx' : Nat) : ∃ W,w.setCell ⟨b,1,none⟩ (.int .i64 (rx' : Int)) = W ∧ w.frozen? ⟨b,1,none⟩ = false ∧ Dr.XA b s rx' u W ∧ Dr.Kept b w W ∧ W.heap.size = w.heap.size :=
 ⟨_,rfl,Rt.frozen_of h 1,Rt.setCells h 1 _,⟨rfl,rfl,rfl,by simp,fun q hq hne => heap_setCell_other w ⟨b,1,none⟩ q _ (fun e => hne (by simp [e]))⟩,by simp⟩
theorem Dr.XA.setU {b : Nat} {s : ByteArray} {rx : Nat} {u : Int} {w : World} (h : Dr.XA b s rx u w) (u' : Int) : ∃ W,w.setCell ⟨b,2,none⟩ (.int .i64 u') = W ∧ w.frozen? ⟨b,2,none⟩ = false ∧ Dr.XA b s rx u' W ∧ Dr.Kept b w W ∧ W.heap.size = w.heap.size :=
 ⟨_,rfl,Rt.frozen_of h 2,Rt.setCells h 2 _,⟨rfl,rfl,rfl,by simp,fun q hq hne => heap_setCell_other w ⟨b,2,none⟩ q _ (fun e => hne (by simp [e]))⟩,by simp⟩
theorem Dr.N_kept {b : Nat} {w w' : World} {v : Value} {n : Nat} (h : Nt.N w v n) (hk : Dr.Kept b w w') (hne : ∀ q off l c,v = .slice (some ⟨q,off,none⟩) l c → 0 < (Nt.dig n).length → q ≠ b) : Nt.N w' v n := by
 rcases h with h | h | ⟨h0,q,off,cap,hv,hc,hl,hcell⟩
 · exact .inl h
 · exact .inr (.inl h)
 · exact .inr (.inr ⟨h0,q,off,cap,hv,hc,Nat.lt_of_lt_of_le hl hk.size,fun j hj => (World.cell?_of_block (hk.block q hl (hne q off _ cap hv h0))).trans (hcell j hj)⟩)
theorem Dr.N_off {b : Nat} {s : ByteArray} {rx : Nat} {u : Int} {w : World} {v : Value} {n : Nat} (h : Nt.N w v n) (hx : Dr.XA b s rx u w) : ∀ q off l c,v = .slice (some ⟨q,off,none⟩) l c → 0 < (Nt.dig n).length → q ≠ b := by
 intro q off l c hv h0 e;subst e;rcases h with ⟨h,_⟩ | ⟨_,_,_,h⟩ | ⟨_,q',off',cap,hv',hc,hl,hcell⟩
 · rw [h] at hv; cases hv
 · rw [h] at h0; exact absurd h0 (by decide)
 · rw [hv] at hv';simp only [Value.slice.injEq,Option.some.injEq,Addr.mk.injEq,and_true] at hv';obtain ⟨⟨rfl,rfl⟩,_,_⟩ := hv';have hc0 := hcell 0 h0;have e2 := Rt.cell_of hx (off + 0);rw [e2] at hc0;have hm := Array.mem_of_getElem? hc0;simp at hm
def Dr.PostD (b rx : Nat) (w : World) (s : ByteArray) (u : Int) (R : Option (Nat × List UInt8 × Int)) (e : Ending) (w' : World) : Prop :=
 match R with
 | none => e = .returned (.tuple #[.slice none 0 0,.bool false]) ∧ Dr.XA b s rx u w' ∧ Dr.Kept b w w'
 | some (n,r,u') => ∃ v s',e = .returned (.tuple #[v,.bool true]) ∧ Nt.N w' v n ∧ s'.data.toList = r ∧ Dr.XA b s' rx u' w' ∧ Dr.Kept b w w'
theorem Dr.takeWhile_all {p : UInt8 → Bool} : ∀ {l : List UInt8} {k : Nat},(∀ j (h : j < l.length),j < k → p (l[j]'h) = true) → (k = l.length ∨ ∃ h : k < l.length,p (l[k]'h) = false) → l.takeWhile p = l.take k ∧ l.dropWhile p = l.drop k
 | [],k,h1,h2 => by simp
 | x :: l,0,h1,h2 => by
   rcases h2 with h2 | ⟨h,h2⟩
   · simp at h2
   · simp at h2;simp [h2]
 | x :: l,k + 1,h1,h2 => by
   have hx : p x = true := h1 0 (by simp) (by omega);have ih := Dr.takeWhile_all (p := p) (l := l) (k := k) (fun j hj hjk => by have := h1 (j + 1) (by simp; omega) (by omega); simpa using this) (by
     rcases h2 with h2 | ⟨h,h2⟩
     · left; simpa using h2
     · right; exact ⟨by simpa using h,by simpa using h2⟩)
   rw [List.takeWhile_cons,List.dropWhile_cons,if_pos hx,if_pos hx];exact ⟨by rw [ih.1]; rfl,by rw [ih.2]; rfl⟩
theorem Dr.ext0 (s : ByteArray) (k : Nat) : (s.extract 0 k).data.toList = s.data.toList.take k := by
 rw [ByteArray.data_extract,Array.toList_extract];simp [List.extract_eq_take_drop]
theorem Dr.extE (s : ByteArray) (k : Nat) : (s.extract k s.size).data.toList = s.data.toList.drop k := by
 rw [ByteArray.data_extract,Array.toList_extract];simp only [List.extract_eq_take_drop];refine List.take_of_length_le ?_;rw [List.length_drop];have : s.data.toList.length = s.size := by simp
 omega
theorem Dr.get_list (s : ByteArray) (k : Nat) (h : k < s.size) : s[k]'h = s.data.toList[k]'(by simpa using h) := rfl
set_option maxHeartbeats 16000000
set_option maxRecDepth 1000000
theorem Dr.digs_any (b rx : Nat) (s : ByteArray) (u : Int) (w : World) (h : Dr.XA b s rx u w) (hr1 : 2 ≤ rx) (hr2 : rx ≤ 36) (hs : s.size ≤ 1048576) :
 Calls Tryz.prog 142 #[.pointer (some ⟨b,0,none⟩)] w fun e w' => Dr.PostD b rx w s u (Dr.digs rx s.data.toList u) e w' := by
 obtain ⟨R,hR⟩ : ∃ z,Dr.digs rx s.data.toList u = z := ⟨_,rfl⟩
 rw [hR]
 unfold Dr.digs at hR
 have HR := Lib.hid hR
 have hlen : s.data.toList.length = s.size := by simp
 have HLEN := Lib.hid hlen
 have H0 := Lib.hid (show ∃ k : Nat,k ≤ s.size ∧ Value.int .i64 (0 : Int) = .int .i64 (k : Int) ∧ (∀ j (hj : j < s.data.toList.length),j < k → Dr.isDig rx (s.data.toList[j]'hj) = true) ∧ Dr.XA b s rx u w ∧ Below w.heap.size w w from
   ⟨0,Nat.zero_le _,rfl,fun j _ hj => absurd hj (Nat.not_lt_zero _),h,Below.refl _ _⟩)
 clear h hR hlen
 go_enter Tryz.func142,Tryz.ntmps142
 go_wp2_with fail
 go_loopw [4] (fun ni wr => ∃ k : Nat,k ≤ s.size ∧ ni = .int .i64 (k : Int) ∧ (∀ j (hj : j < s.data.toList.length),j < k → Dr.isDig rx (s.data.toList[j]'hj) = true) ∧ Dr.XA b s rx u wr ∧ Below w.heap.size w wr) (fun ni _ => s.size - (intOf ni).toNat)
 case atStart => exact H0.out
 case round =>
  obtain ⟨k,hk,rfl,hdig,hA,hbw⟩ := hrel
  clear H0
  obtain ⟨c0,c1,c2⟩ := hA.cells
  have hb1 : Below wr.heap.size wr wr.drew := Below.drew (Below.refl _ _)
  have hbw1 : Below w.heap.size w wr.drew := hbw.drew
  have hA1 := hA.below hb1
  have hkeep : wr.drew.cell? ⟨b,0,none⟩ = some (.string s) ∧ wr.drew.cell? ⟨b,1,none⟩ = some (.int .i64 (rx : Int)) := ⟨hA1.cells.1,hA1.cells.2.1⟩
  have HDIG := Lib.hid hdig
  have HN := Lib.hid (fun (hk0 : k = 0) (hend : k = s.data.toList.length ∨ ∃ h : k < s.data.toList.length,Dr.isDig rx (s.data.toList[k]'h) = false) => show Dr.PostD b rx w s u R (.returned (.tuple #[.slice none 0 0,.bool false])) wr.drew from by
    have ht := Dr.takeWhile_all hdig hend;rw [← HR.out,ht.1,hk0,List.take_zero,if_pos rfl]
    exact ⟨rfl,hA1,Dr.Kept.of_below hbw1⟩)
  have hkI : (k : Int) ≤ (s.size : Int) := by omega
  have hk0I : 0 ≤ (k : Int) := by omega
  have hk1I : (k : Int) + 1 ≤ 9223372036854775807 := by omega
  by_cases hlt : k < s.size
  · have KV := fun w' => Dr.Value_any (s[k]'hlt) w';obtain ⟨v,hv⟩ : ∃ z,Dr.val (s[k]'hlt) = z := ⟨_,rfl⟩;have hdk : Dr.isDig rx (s.data.toList[k]'(by simpa using hlt)) = decide (v < rx) := by
     unfold Dr.isDig;rw [← Dr.get_list s k hlt,hv]
    rw [hv] at KV;have KV2 := Lib.hid KV;have HDK := Lib.hid hdk;by_cases hvr : v < rx
    · have hvd : decide (v < rx) = true := decide_eq_true hvr;have HE := Lib.hid (show ∃ k' : Nat,k' ≤ s.size ∧ Value.int .i64 ((k : Int) + 1) = .int .i64 (k' : Int) ∧ (∀ j (hj : j < s.data.toList.length),j < k' → Dr.isDig rx (s.data.toList[j]'hj) = true) ∧ Dr.XA b s rx u wr.drew ∧ Below w.heap.size w wr.drew from
        ⟨k + 1,hlt,rfl,fun j hj hjk => by
          by_cases e : j = k
          · subst e; rw [hdk]; exact hvd
          · exact hdig j hj (by omega),hA1,hbw1⟩)
      clear KV hv hdk hdig hA hbw hb1 hbw1 hA1 HN c2;go_wp2_with fail;go_region_held3 (fun w' => w'.cell? ⟨b,0,none⟩ = some (.string s) ∧ w'.cell? ⟨b,1,none⟩ = some (.int .i64 (rx : Int)))
       (first | exact hkeep)
       (first
         | (go_at_call 155
            refine (KV2.out _).mono ?_
            rintro x w2 ⟨rfl,rfl⟩))
      go_wp2_with fail;exact ⟨HE.out,by simp [intOf]; omega⟩
    · have hvd : decide (v < rx) = false := decide_eq_false hvr;have hend : k = s.data.toList.length ∨ ∃ h : k < s.data.toList.length,Dr.isDig rx (s.data.toList[k]'h) = false := .inr ⟨by rw [HLEN.out]; exact hlt,by rw [HDK.out]; exact hvd⟩;by_cases h0 : k = 0
      · have HE := Lib.hid (HN.out h0 hend);subst h0;clear KV hv hdk hA hbw hb1 hbw1 hA1 c2 HN hdig;go_wp2_with fail;go_region_held3 (fun w' => w'.cell? ⟨b,0,none⟩ = some (.string s) ∧ w'.cell? ⟨b,1,none⟩ = some (.int .i64 (rx : Int)))
         (first | exact hkeep)
         (first
           | (go_at_call 155
              refine (KV2.out _).mono ?_
              rintro x w2 ⟨rfl,rfl⟩))
        go_wp2_with fail;go_ret2;exact HE.out
      have hk0 : ((k : Int) == 0) = false := beq_eq_false_iff_ne.2 (by omega);have htw := Dr.takeWhile_all hdig hend;obtain ⟨s1,hs1⟩ : ∃ z,s.extract 0 k = z := ⟨_,rfl⟩;obtain ⟨s2,hs2⟩ : ∃ z,s.extract k s.size = z := ⟨_,rfl⟩;have hs1l : s1.data.toList = s.data.toList.take k := by rw [← hs1]; exact Dr.ext0 s k
      have hs2l : s2.data.toList = s.data.toList.drop k := by rw [← hs2]; exact Dr.extE s k
      have hs1z : s1.size = k := by
       have e : s1.data.toList.length = s1.size := by simp
       rw [hs1l,List.length_take,HLEN.out] at e;omega
      have hne : ¬ s.data.toList.take k = [] := by
       intro e;have hl9 := congrArg List.length e;rw [List.length_take,HLEN.out,List.length_nil] at hl9;omega
      have HF0 := Lib.hid (fun (hnr : Dr.natR rx s1.data.toList = none) (W : World) (hX : Dr.XA b s2 rx 4 W) (hKW : Dr.Kept b w W) => show Dr.PostD b rx w s u R (.returned (.tuple #[.slice none 0 0,.bool true])) W from by
        rw [← HR.out,htw.1,htw.2,if_neg hne,← hs1l,hnr,← hs2l]
        exact ⟨_,s2,rfl,Nt.N.zero W,rfl,hX,hKW⟩)
      have HF1 := Lib.hid (fun (n : Nat) (hnr : Dr.natR rx s1.data.toList = some n) (sl : Value) (W : World) (hNW : Nt.N W sl n) (hX : Dr.XA b s2 rx u W) (hKW : Dr.Kept b w W) => show Dr.PostD b rx w s u R (.returned (.tuple #[sl,.bool true])) W from by
        rw [← HR.out,htw.1,htw.2,if_neg hne,← hs1l,hnr,← hs2l]
        exact ⟨sl,s2,rfl,hNW,rfl,hX,hKW⟩)
      have KR := Lib.hid (fun (w' : World) => Dr.natRead s1 rx hr1 hr2 (by omega) (by omega) (fun j hj => by
        have h1 := hdig j (by rw [HLEN.out]; omega) (by omega);unfold Dr.isDig at h1;have e : s1[j]'hj = s.data.toList[j]'(by rw [HLEN.out]; omega) := by
         rw [Dr.get_list s1 j hj];simp only [hs1l,List.getElem_take]
        rw [e]
        exact of_decide_eq_true h1) w')
      have hA2 := hA1.below (w' := wr.drew.drew) (Below.drew (Below.refl _ _));have hbw2 : Below w.heap.size w wr.drew.drew := hbw1.drew;have hkeep2 : wr.drew.drew.cell? ⟨b,0,none⟩ = some (.string s) ∧ wr.drew.drew.cell? ⟨b,1,none⟩ = some (.int .i64 (rx : Int)) := ⟨hA2.cells.1,hA2.cells.2.1⟩;have HA2 := Lib.hid (And.intro hA2 hbw2);have KR2 := KR.out wr.drew.drew;cases hnr : Dr.natR rx s1.data.toList with
      | none =>
        rw [hnr] at KR2;have KR3 := Lib.hid (show Calls Tryz.prog 156 #[.string s1,.int .i64 (rx : Int)] wr.drew.drew (fun e w' => e = .returned (.tuple #[.slice none 0 0,.int .i64 4]) ∧ Below wr.drew.drew.heap.size wr.drew.drew w') from KR2);have HF2 := Lib.hid (HF0.out hnr);clear KV hv hdk hA hbw hb1 hbw1 hA1 c2 hs1l hs2l hs1z hne htw HN HF0 HF1 KR KR2 hA2 hbw2 hnr h0 hend hdig;go_wp2_with fail;go_region_held3 (fun w' => w'.cell? ⟨b,0,none⟩ = some (.string s) ∧ w'.cell? ⟨b,1,none⟩ = some (.int .i64 (rx : Int)))
         (first | exact hkeep)
         (first
           | (go_at_call 155
              refine (KV2.out _).mono ?_
              rintro x w2 ⟨rfl,rfl⟩))
        go_wp2_with fail;go_region_held3 (fun w' => w'.cell? ⟨b,0,none⟩ = some (.string s) ∧ w'.cell? ⟨b,1,none⟩ = some (.int .i64 (rx : Int)))
         (first | exact hkeep2 | exact hkeep3)
         (first
           | (go_at_call 156
              refine KR3.out.mono ?_
              rintro x w3 ⟨rfl,hb3⟩
              have hA3 := HA2.out.1.below hb3
              have hK3 := (Dr.Kept.of_below (b := b) (HA2.out.2.trans (hb3.mono HA2.out.2.size)))
              have hkeep3 : w3.cell? ⟨b,0,none⟩ = some (.string s) ∧ w3.cell? ⟨b,1,none⟩ = some (.int .i64 (rx : Int)) := ⟨hA3.cells.1,hA3.cells.2.1⟩))
        obtain ⟨d0,d1,d2⟩ := hA3.cells;obtain ⟨W1,hW1,hfz1,hX1,hKW1,hz1⟩ := hA3.setU 4;obtain ⟨e0,e1,e2⟩ := hX1.cells;obtain ⟨W2,hW2,hfz2,hX2,hKW2,hz2⟩ := hX1.setS s2;have HE := Lib.hid (HF2.out W2 hX2 ((hK3.trans hKW1).trans hKW2));clear hA3 hK3 hX1 hX2 hKW1 hKW2 hz1 hz2 hkeep3 HF2 HA2 hb3;go_wp2_with fail;go_ret2;exact HE.out
      | some n =>
        rw [hnr] at KR2;have KR3 := Lib.hid (show Calls Tryz.prog 156 #[.string s1,.int .i64 (rx : Int)] wr.drew.drew (fun e w' => ∃ v,e = .returned (.tuple #[v,.int .i64 0]) ∧ Nt.N w' v n ∧ Below wr.drew.drew.heap.size wr.drew.drew w') from KR2);have HF2 := Lib.hid (HF1.out n hnr);clear KV hv hdk hA hbw hb1 hbw1 hA1 c2 hs1l hs2l hs1z hne htw HN HF0 HF1 KR KR2 hA2 hbw2 hnr h0 hend hdig;go_wp2_with fail;go_region_held3 (fun w' => w'.cell? ⟨b,0,none⟩ = some (.string s) ∧ w'.cell? ⟨b,1,none⟩ = some (.int .i64 (rx : Int)))
         (first | exact hkeep)
         (first
           | (go_at_call 155
              refine (KV2.out _).mono ?_
              rintro x w2 ⟨rfl,rfl⟩))
        go_wp2_with fail;go_region_held3 (fun w' => w'.cell? ⟨b,0,none⟩ = some (.string s) ∧ w'.cell? ⟨b,1,none⟩ = some (.int .i64 (rx : Int)))
         (first | exact hkeep2 | exact hkeep3)
         (first
           | (go_at_call 156
              refine KR3.out.mono ?_
              rintro x w3 ⟨sl,rfl,hN3,hb3⟩
              have hA3 := HA2.out.1.below hb3
              have hK3 := (Dr.Kept.of_below (b := b) (HA2.out.2.trans (hb3.mono HA2.out.2.size)))
              have hkeep3 : w3.cell? ⟨b,0,none⟩ = some (.string s) ∧ w3.cell? ⟨b,1,none⟩ = some (.int .i64 (rx : Int)) := ⟨hA3.cells.1,hA3.cells.2.1⟩))
        obtain ⟨d0,d1,d2⟩ := hA3.cells;obtain ⟨W2,hW2,hfz2,hX2,hKW2,hz2⟩ := hA3.setS s2;have HE := Lib.hid (HF2.out sl W2 (Dr.N_kept hN3 hKW2 (Dr.N_off hN3 hA3)) hX2 (hK3.trans hKW2));clear hA3 hK3 hX2 hKW2 hz2 hkeep3 HF2 HA2 hb3 hN3;go_wp2_with fail;go_ret2;exact HE.out
  · have hend : k = s.data.toList.length ∨ ∃ h : k < s.data.toList.length,Dr.isDig rx (s.data.toList[k]'h) = false := .inl (by rw [HLEN.out]; omega);have hg : decide (k < s.size) = false := decide_eq_false hlt;by_cases h0 : k = 0
    · have HE := Lib.hid (HN.out h0 hend);subst h0;clear hA hbw hb1 hbw1 hA1 c2 hkeep HN;go_wp2_with fail;go_region;go_wp2_with fail;go_ret2;exact HE.out
    have hk0 : ((k : Int) == 0) = false := beq_eq_false_iff_ne.2 (by omega);have htw := Dr.takeWhile_all hdig hend;obtain ⟨s1,hs1⟩ : ∃ z,s.extract 0 k = z := ⟨_,rfl⟩;obtain ⟨s2,hs2⟩ : ∃ z,s.extract k s.size = z := ⟨_,rfl⟩;have hs1l : s1.data.toList = s.data.toList.take k := by rw [← hs1]; exact Dr.ext0 s k
    have hs2l : s2.data.toList = s.data.toList.drop k := by rw [← hs2]; exact Dr.extE s k
    have hs1z : s1.size = k := by
     have e : s1.data.toList.length = s1.size := by simp
     rw [hs1l,List.length_take,HLEN.out] at e;omega
    have hne : ¬ s.data.toList.take k = [] := by
     intro e;have hl9 := congrArg List.length e;rw [List.length_take,HLEN.out,List.length_nil] at hl9;omega
    have HF0 := Lib.hid (fun (hnr : Dr.natR rx s1.data.toList = none) (W : World) (hX : Dr.XA b s2 rx 4 W) (hKW : Dr.Kept b w W) => show Dr.PostD b rx w s u R (.returned (.tuple #[.slice none 0 0,.bool true])) W from by
      rw [← HR.out,htw.1,htw.2,if_neg hne,← hs1l,hnr,← hs2l]
      exact ⟨_,s2,rfl,Nt.N.zero W,rfl,hX,hKW⟩)
    have HF1 := Lib.hid (fun (n : Nat) (hnr : Dr.natR rx s1.data.toList = some n) (sl : Value) (W : World) (hNW : Nt.N W sl n) (hX : Dr.XA b s2 rx u W) (hKW : Dr.Kept b w W) => show Dr.PostD b rx w s u R (.returned (.tuple #[sl,.bool true])) W from by
      rw [← HR.out,htw.1,htw.2,if_neg hne,← hs1l,hnr,← hs2l]
      exact ⟨sl,s2,rfl,hNW,rfl,hX,hKW⟩)
    have KR := Lib.hid (fun (w' : World) => Dr.natRead s1 rx hr1 hr2 (by omega) (by omega) (fun j hj => by
      have h1 := hdig j (by rw [HLEN.out]; omega) (by omega);unfold Dr.isDig at h1;have e : s1[j]'hj = s.data.toList[j]'(by rw [HLEN.out]; omega) := by
       rw [Dr.get_list s1 j hj];simp only [hs1l,List.getElem_take]
      rw [e]
      exact of_decide_eq_true h1) w')
    have hA2 := hA1.below (w' := wr.drew.drew) (Below.drew (Below.refl _ _));have hbw2 : Below w.heap.size w wr.drew.drew := hbw1.drew;have hkeep2 : wr.drew.drew.cell? ⟨b,0,none⟩ = some (.string s) ∧ wr.drew.drew.cell? ⟨b,1,none⟩ = some (.int .i64 (rx : Int)) := ⟨hA2.cells.1,hA2.cells.2.1⟩;have HA2 := Lib.hid (And.intro hA2 hbw2);have KR2 := KR.out wr.drew.drew;cases hnr : Dr.natR rx s1.data.toList with
    | none =>
      rw [hnr] at KR2;have KR3 := Lib.hid (show Calls Tryz.prog 156 #[.string s1,.int .i64 (rx : Int)] wr.drew.drew (fun e w' => e = .returned (.tuple #[.slice none 0 0,.int .i64 4]) ∧ Below wr.drew.drew.heap.size wr.drew.drew w') from KR2);have HF2 := Lib.hid (HF0.out hnr);clear hA hbw hb1 hbw1 hA1 c2 hkeep hs1l hs2l hs1z hne htw HN HF0 HF1 KR KR2 hA2 hbw2 hnr h0 hend hdig;go_wp2_with fail;go_region;go_wp2_with fail;go_region_held3 (fun w' => w'.cell? ⟨b,0,none⟩ = some (.string s) ∧ w'.cell? ⟨b,1,none⟩ = some (.int .i64 (rx : Int)))
       (first | exact hkeep2 | exact hkeep3)
       (first
         | (go_at_call 156
            refine KR3.out.mono ?_
            rintro x w3 ⟨rfl,hb3⟩
            have hA3 := HA2.out.1.below hb3
            have hK3 := (Dr.Kept.of_below (b := b) (HA2.out.2.trans (hb3.mono HA2.out.2.size)))
            have hkeep3 : w3.cell? ⟨b,0,none⟩ = some (.string s) ∧ w3.cell? ⟨b,1,none⟩ = some (.int .i64 (rx : Int)) := ⟨hA3.cells.1,hA3.cells.2.1⟩))
      obtain ⟨d0,d1,d2⟩ := hA3.cells;obtain ⟨W1,hW1,hfz1,hX1,hKW1,hz1⟩ := hA3.setU 4;obtain ⟨e0,e1,e2⟩ := hX1.cells;obtain ⟨W2,hW2,hfz2,hX2,hKW2,hz2⟩ := hX1.setS s2;have HE := Lib.hid (HF2.out W2 hX2 ((hK3.trans hKW1).trans hKW2));clear hA3 hK3 hX1 hX2 hKW1 hKW2 hz1 hz2 hkeep3 HF2 HA2 hb3;go_wp2_with fail;go_ret2;exact HE.out
    | some n =>
      rw [hnr] at KR2;have KR3 := Lib.hid (show Calls Tryz.prog 156 #[.string s1,.int .i64 (rx : Int)] wr.drew.drew (fun e w' => ∃ v,e = .returned (.tuple #[v,.int .i64 0]) ∧ Nt.N w' v n ∧ Below wr.drew.drew.heap.size wr.drew.drew w') from KR2);have HF2 := Lib.hid (HF1.out n hnr);clear hA hbw hb1 hbw1 hA1 c2 hkeep hs1l hs2l hs1z hne htw HN HF0 HF1 KR KR2 hA2 hbw2 hnr h0 hend hdig;go_wp2_with fail;go_region;go_wp2_with fail;go_region_held3 (fun w' => w'.cell? ⟨b,0,none⟩ = some (.string s) ∧ w'.cell? ⟨b,1,none⟩ = some (.int .i64 (rx : Int)))
       (first | exact hkeep2 | exact hkeep3)
       (first
         | (go_at_call 156
            refine KR3.out.mono ?_
            rintro x w3 ⟨sl,rfl,hN3,hb3⟩
            have hA3 := HA2.out.1.below hb3
            have hK3 := (Dr.Kept.of_below (b := b) (HA2.out.2.trans (hb3.mono HA2.out.2.size)))
            have hkeep3 : w3.cell? ⟨b,0,none⟩ = some (.string s) ∧ w3.cell? ⟨b,1,none⟩ = some (.int .i64 (rx : Int)) := ⟨hA3.cells.1,hA3.cells.2.1⟩))
      obtain ⟨d0,d1,d2⟩ := hA3.cells;obtain ⟨W2,hW2,hfz2,hX2,hKW2,hz2⟩ := hA3.setS s2;have HE := Lib.hid (HF2.out sl W2 (Dr.N_kept hN3 hKW2 (Dr.N_off hN3 hA3)) hX2 (hK3.trans hKW2));clear hA3 hK3 hX2 hKW2 hz2 hkeep3 HF2 HA2 hb3 hN3;go_wp2_with fail;go_ret2;exact HE.out
set_option maxHeartbeats 200000
set_option maxRecDepth 512
theorem Dr.drop_one (x : UInt8) (r : List UInt8) (s : ByteArray) (h : s.data.toList = x :: r) : (s.extract 1 s.size).data.toList = r := by rw [Dr.extE,h]; rfl
set_option maxHeartbeats 4000000
set_option maxRecDepth 1000000
theorem Dr.sign_any (b rx : Nat) (s : ByteArray) (u : Int) (w : World) (h : Dr.XA b s rx u w) (hs : s.size ≤ 1048576) :
 Calls Tryz.prog 123 #[.pointer (some ⟨b,0,none⟩)] w fun e w' => ∃ s',e = .returned (.tuple #[.bool (Dr.sign s.data.toList).1,.bool (Dr.sign s.data.toList).2.1]) ∧ s'.data.toList = (Dr.sign s.data.toList).2.2 ∧ Dr.XA b s' rx u w' ∧ Dr.Kept b w w' := by
 have hlen : s.data.toList.length = s.size := by simp
 obtain ⟨l,hl⟩ : ∃ l,s.data.toList = l := ⟨_,rfl⟩
 rw [hl] at hlen ⊢
 have HL := Lib.hid hl
 have hA1 := h
 obtain ⟨c0,c1,c2⟩ := h.cells
 cases l with
 | nil =>
   have hse : s.toList.isEmpty = true := by rw [ByteArray.toList_eq,hl]; rfl
   have hse2 : s.toList = [] := by rw [ByteArray.toList_eq,hl]
   have HE := Lib.hid (show Dr.XA b s rx u w ∧ Dr.Kept b w w from ⟨hA1,Dr.Kept.refl _ _⟩)
   clear hl hlen hA1 h
   go_enter Tryz.func123,Tryz.ntmps123
   go_wp2_with fail
   go_ret2
   exact ⟨s,rfl,HL.out,HE.out⟩
 | cons x r =>
   have hpos : 0 < s.size := by rw [← hlen]; simp
   have hx : s[0]'hpos = x := by
    rw [Dr.get_list s 0 hpos];simp only [hl,List.getElem_cons_zero]
   have hse : s.toList.isEmpty = false := by rw [ByteArray.toList_eq,hl]; rfl
   have hse2 : ¬ s.toList = [] := by rw [ByteArray.toList_eq,hl]; simp
   have hposI : 0 < (s.size : Int) := by omega
   have h1I : 1 ≤ (s.size : Int) := by omega
   obtain ⟨v,hv⟩ : ∃ z,(s[0]'hpos).toNat = z := ⟨_,rfl⟩
   have hxv : x.toNat = v := by rw [← hx]; exact hv
   obtain ⟨s2,hs2⟩ : ∃ z,s.extract 1 s.size = z := ⟨_,rfl⟩
   have hs2l : s2.data.toList = r := by rw [← hs2]; exact Dr.drop_one x r s hl
   obtain ⟨W,hW,hfz,hX,hKW,hz⟩ := hA1.setS s2
   have HY := Lib.hid (show s2.data.toList = r ∧ Dr.XA b s2 rx u W ∧ Dr.Kept b w W from ⟨hs2l,hX,hKW⟩)
   have HE := Lib.hid (show s.data.toList = x :: r ∧ Dr.XA b s rx u w ∧ Dr.Kept b w w from ⟨hl,hA1,Dr.Kept.refl _ _⟩)
   have hsg : (x = 43 ∧ Dr.sign (x :: r) = (false,true,r)) ∨ (x = 45 ∧ Dr.sign (x :: r) = (true,true,r)) ∨ ((x ≠ 43 ∧ x ≠ 45) ∧ Dr.sign (x :: r) = (false,false,x :: r)) := by
    by_cases e1 : x = 43
    · subst e1; exact .inl ⟨rfl,rfl⟩
    · by_cases e2 : x = 45
      · subst e2; exact .inr (.inl ⟨rfl,rfl⟩)
      · refine .inr (.inr ⟨⟨e1,e2⟩,?_⟩);unfold Dr.sign;split
        · rename_i q e; simp only [List.cons.injEq] at e; exact absurd e.1 e1
        · rename_i q e; simp only [List.cons.injEq] at e; exact absurd e.1 e2
        · rfl
   clear hl hlen hA1 h hs2l hX hKW hz hx c1 c2
   rcases hsg with ⟨e,hsg⟩ | ⟨e,hsg⟩ | ⟨⟨e1,e2⟩,hsg⟩
   · rw [hsg];have hv43 : v = 43 := by rw [← hxv,e]; rfl
     subst hv43;clear hsg hxv e;go_enter Tryz.func123,Tryz.ntmps123;go_wp2_with fail;go_ret2;exact ⟨s2,rfl,HY.out⟩
   · rw [hsg];have hv45 : v = 45 := by rw [← hxv,e]; rfl
     subst hv45;clear hsg hxv e;go_enter Tryz.func123,Tryz.ntmps123;go_wp2_with fail;go_ret2;exact ⟨s2,rfl,HY.out⟩
   · rw [hsg];have e3 : ((v : Int) == 43) = false := beq_eq_false_iff_ne.2 (fun e => e1 (UInt8.toNat.inj (by show x.toNat = 43; omega)));have e4 : ((v : Int) == 45) = false := beq_eq_false_iff_ne.2 (fun e => e2 (UInt8.toNat.inj (by show x.toNat = 45; omega)));clear hsg hxv e1 e2 hW hfz;go_enter Tryz.func123,Tryz.ntmps123;go_wp2_with fail;go_ret2;exact ⟨s,rfl,HE.out⟩
theorem Dr.unit_any (b rx : Nat) (s : ByteArray) (u : Int) (w : World) (h : Dr.XA b s rx u w) :
 Calls Tryz.prog 124 #[.pointer (some ⟨b,0,none⟩)] w fun e w' => e = .returned (.bool (Dr.unit s.data.toList)) ∧ w = w' := by
 obtain ⟨c0,c1,c2⟩ := h.cells
 have e1 : (s.toList == [105]) = decide (s.data.toList = [105]) := by
  rw [ByteArray.toList_eq,Bool.eq_iff_iff,beq_iff_eq,decide_eq_true_eq]
 have e2 : (s.toList == [73]) = decide (s.data.toList = [73]) := by
  rw [ByteArray.toList_eq,Bool.eq_iff_iff,beq_iff_eq,decide_eq_true_eq]
 unfold Dr.unit
 cases h1 : decide (s.data.toList = [105]) with
 | true =>
   rw [h1] at e1
   clear h1 h e2
   go_enter Tryz.func124,Tryz.ntmps124
   go_wp2_with fail
   go_ret
   exact ⟨rfl,rfl⟩
 | false =>
   rw [h1] at e1
   cases h2 : decide (s.data.toList = [73]) with
   | true =>
     rw [h2] at e2
     clear h1 h2 h
     go_enter Tryz.func124,Tryz.ntmps124
     go_wp2_with fail
     go_ret
     exact ⟨rfl,rfl⟩
   | false =>
     rw [h2] at e2
     clear h1 h2 h
     go_enter Tryz.func124,Tryz.ntmps124
     go_wp2_with fail
     go_ret
     exact ⟨rfl,rfl⟩
end Go.Proofs.YteklhapffplohaaGreatDoor
