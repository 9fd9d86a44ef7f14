/-
  The reader's escape. The reader's string. The reader's symbol.
-/
import Derived.Lib.MapLaws
import Derived.StillTailTactics
import Derived.Deep.AppendLies
import Derived.Test.YteklhapffplohaaGreatDoorOo
import Derived.Test.YteklhapffplohaaGreatDoorOg
import Derived.Test.YteklhapffplohaaGreatDoorOa
import Derived.Test.YteklhapffplohaaGreatDoorOm
import Derived.Test.YteklhapffplohaaGreatDoorOk
set_option maxHeartbeats 4000000
set_option maxRecDepth 1000000
set_option linter.unusedVariables false
set_option linter.unusedSimpArgs false
namespace Go.Proofs.YteklhapffplohaaGreatDoor
open Go.RowKit
theorem Dr.enc_of {l : List UInt8} (h : l ≠ []) (hb : Dr.bad l = false) : Lib.encodeRune (Dr.cp l) = l.take (Dr.wd l) := by
 refine Lib.encode_decode l h ?_;rintro ⟨e1,e2⟩;have h1 : Dr.cp l = 65533 := by unfold Dr.cp; omega
 have h2 : Dr.wd l = 1 := e2;unfold Dr.bad at hb;rw [h1,h2] at hb;simp at hb
theorem Dr.wd_one {l : List UInt8} (h : l ≠ []) (hb : Dr.bad l = false) (h0 : 0 ≤ Dr.cp l) (h1 : Dr.cp l ≤ 127) : Dr.wd l = 1 := by
 have e := congrArg List.length (Dr.enc_of h hb);have e2 : (Lib.encodeRune (Dr.cp l)).length = 1 := by
  generalize Dr.cp l = c at h0 h1;unfold Lib.encodeRune;rw [Lib.encodeRuneZ_one h0 h1];rfl
 rw [e2,List.length_take] at e;have := Dr.wd_le h;omega
theorem Dr.escEnd_eq (l : List UInt8) : Dr.escEnd l = match Dr.next l with | none => none | some (c,r) => if c = 59 then some ([],r) else (Dr.escEnd r).map fun x => (l.take (Dr.wd l) ++ x.1,x.2) := by
 rw [Dr.escEnd];unfold Dr.next;by_cases h : l = []
 · rw [dif_pos h,if_pos h]
 · rw [dif_neg h,if_neg h];cases Dr.bad l <;> simp
def Dr.PostE (b : Nat) (S : ByteArray) (g : Bool) (w : World) (R : Option (Int × List UInt8)) (e : Ending) (w' : World) : Prop :=
 match R with
 | none => e = Dr.dead ∧ Dr.Kept b w w'
 | some (c,r) => e = .returned (.int .i32 c) ∧ Dr.At b S r g w' ∧ Dr.Kept b w w'
theorem Dr.next_bad {l r : List UInt8} {c : Int} (h : Dr.next l = some (c,r)) : Dr.bad l = false := by
 unfold Dr.next at h;split at h
 · cases h
 · split at h
   · cases h
   · rename_i hb;cases e : Dr.bad l
     · rfl
     · exact absurd e hb
theorem Dr.next_len {l r : List UInt8} {c : Int} (h : Dr.next l = some (c,r)) : r.length + Dr.wd l = l.length := by
 obtain ⟨h1,h2,h3⟩ := Dr.next_drop h;have := Dr.wd_le h3;rw [h1,List.length_drop];omega
theorem Dr.next_ok32 {l r : List UInt8} {c : Int} (h : Dr.next l = some (c,r)) : Ru.okR c := by
 obtain ⟨h1,h2,h3⟩ := Dr.next_drop h;rw [h2];exact Ru.decode_ok l h3
def Dr.Esc (l pre l' : List UInt8) : Prop := l = pre ++ l' ∧ Dr.escEnd l = (Dr.escEnd l').map fun x => (pre ++ x.1,x.2)
theorem Dr.Esc.step {l pre l' r : List UInt8} {c : Int} (h : Dr.Esc l pre l') (hn : Dr.next l' = some (c,r)) (hc : ¬ c = 59) : Dr.Esc l (pre ++ l'.take (Dr.wd l')) r := by
 obtain ⟨h1,h2,h3⟩ := Dr.next_drop hn;refine ⟨by rw [h.1,h1,List.append_assoc,List.take_append_drop],?_⟩;rw [h.2,Dr.escEnd_eq l',hn];simp only;rw [if_neg hc];cases Dr.escEnd r <;> simp
theorem Dr.Esc.stop {l pre l' r : List UInt8} (h : Dr.Esc l pre l') (hn : Dr.next l' = some (59,r)) : Dr.esc l = (Dr.hex pre).map fun c => (c,r) := by
 unfold Dr.esc;rw [h.2,Dr.escEnd_eq l',hn];simp
theorem Dr.Esc.dead {l pre l' : List UInt8} (h : Dr.Esc l pre l') (hn : Dr.next l' = none) : Dr.esc l = none := by
 unfold Dr.esc;rw [h.2,Dr.escEnd_eq l',hn];simp
theorem Dr.escape_any (b : Nat) (S : ByteArray) (g : Bool) (l : List UInt8) (w : World) (h : Dr.At b S l g w) (hs : S.size ≤ 9223372036854775807) (hT : Dr.Tabs w) :
 Calls Tryz.prog 68 #[.pointer (some ⟨b,0,none⟩)] w fun e w' => Dr.PostE b S g w (Dr.esc l) e w' := by
 obtain ⟨R,hR⟩ : ∃ z,Dr.esc l = z := ⟨_,rfl⟩
 rw [hR]
 have HAT := Lib.hid h
 have HNE := Lib.hid (And.intro hT (h.tabs_ne hT))
 have H0 := Lib.hid (show ∃ pre l',Dr.At b S l' g w ∧ Dr.Kept b w w ∧ Dr.Esc l pre l' from ⟨[],l,h,Dr.Kept.refl _ _,rfl,by cases Dr.escEnd l <;> simp⟩)
 have HR := Lib.hid hR
 obtain ⟨c0,c1,c2⟩ := h.cells
 obtain ⟨hq1,hq2⟩ := h.range
 obtain ⟨q,hq⟩ : ∃ z,S.size - l.length = z := ⟨_,rfl⟩
 have HQ := Lib.hid hq
 rw [hq] at c1 hq1 hq2
 clear h hT hR hq
 go_enter Tryz.func68,Tryz.ntmps68
 go_wp2_with fail
 go_loopw [] (fun wr => ∃ pre l',Dr.At b S l' g wr ∧ Dr.Kept b w wr ∧ Dr.Esc l pre l') (fun wr => Dr.left b S wr)
 case atStart => exact H0.out
 case round =>
  obtain ⟨pre,l',hA,hK,hE⟩ := hrel
  clear H0 c0 c1 c2
  have hTr : Dr.Tabs wr := Dr.tabs_kept HNE.out.1 HNE.out.2.1 HNE.out.2.2 hK
  have HM := Lib.hid hA.left
  cases hn : Dr.next l' with
  | none =>
    have KF := Dr.next_none b S l' g wr hA hn hTr
    have HE0 := Lib.hid (fun (w1 : World) (hb1 : Below wr.heap.size wr w1) => show Dr.PostE b S g w R Dr.dead w1 from by
      rw [← HR.out,hE.dead hn]
      exact ⟨rfl,hK.trans (Dr.Kept.of_below hb1)⟩)
    clear hA hK hE hTr HM hn
    go_wp2_with fail
    refine KF.mono ?_
    rintro x w1 ⟨rfl,hb1⟩
    have HE := Lib.hid (HE0.out w1 hb1)
    clear HE0 hb1
    unfold Dr.dead at *
    go_wp2_with fail
    exact ⟨rfl,HE.out⟩
  | some x =>
    obtain ⟨c,r⟩ := x
    have KN := Dr.next_ok b S l' g c r wr hA hs hn hTr
    have hlt := Dr.next_lt hn
    by_cases h59 : c = 59
    · subst h59;have hst := hE.stop hn;rw [HR.out] at hst;have hAle := hA.le;have hl1 : r.length + 1 = l'.length := by
       have h1 := Dr.next_len hn;obtain ⟨h2,h3,h4⟩ := Dr.next_drop hn;rw [Dr.wd_one h4 (Dr.next_bad hn) (by rw [← h3]; decide) (by rw [← h3]; decide)] at h1;exact h1
      have hpl : l.length = pre.length + l'.length := by rw [hE.1,List.length_append]
      have hql := HQ.out;have hle0 := HAT.out.le;obtain ⟨p,hp⟩ : ∃ z,q + pre.length = z := ⟨_,rfl⟩;have hcell : S.size - r.length = p + 1 := by omega
      have hsub : S.extract q p = ⟨pre.toArray⟩ := by
       have h1 := HAT.out.between hA (by omega);rw [hql,show S.size - l'.length = p by omega] at h1;rw [h1,hE.1];unfold Dr.upto;rw [List.length_append,Nat.add_sub_cancel,List.take_left]
      have hqp : (q : Int) ≤ (p : Int) := by omega
      have hps : (p : Int) ≤ (S.size : Int) := by omega
      have hp0 : 0 ≤ (p : Int) := by omega
      have hw : IntKind.i64.wrap ((p : Int) + 1 - 1) = (p : Int) := by rw [IntKind.wrap_i64]; omega
      have hw2 : IntKind.i64.wrap (p : Int) = (p : Int) := by rw [IntKind.wrap_i64]; omega
      have hw3 : (p : Int) + 1 - 1 = (p : Int) := by omega
      have KH := Lib.hid (fun (v : Value) (w' : World) => Dr.hex_any v ⟨pre.toArray⟩ w' (by show pre.toArray.size ≤ _; simp; omega));have HE0 := Lib.hid (fun (w1 : World) (hA1 : Dr.At b S r g w1) (hK1 : Dr.Kept b wr w1) (w2 : World) (hb : Below w1.heap.size w1 w2) => And.intro (show Dr.hex pre = none → Dr.PostE b S g w R Dr.dead w2 from fun e => by
          rw [hst,e]
          exact ⟨rfl,(hK.trans hK1).trans (Dr.Kept.of_below hb)⟩) (show ∀ d,Dr.hex pre = some d → Dr.PostE b S g w R (.returned (.int .i32 d)) w2 from fun d e => by
          rw [hst,e]
          exact ⟨rfl,hA1.below hb,(hK.trans hK1).trans (Dr.Kept.of_below hb)⟩))
      clear hA hK hE hTr HM hn hlt hst hAle hl1 hpl hql hle0 hp;go_wp2_with fail;refine KN.mono ?_;rintro x w1 ⟨rfl,hA1,hK1⟩;obtain ⟨d0,d1,d2⟩ := hA1.cells;rw [hcell] at d1;have HE1 := Lib.hid (HE0.out w1 hA1 hK1 w1.drew (Below.drew (Below.refl _ _)));have hcast : (((p + 1 : Nat)) : Int) = (p : Int) + 1 := rfl;rw [hcast] at d1;clear HE0 hA1 hK1 hcell hcast;have KH1 := KH.out (.pointer (some ⟨b,0,none⟩)) w1.drew;change Calls _ _ _ _ (fun e w' => Dr.PostC w1.drew (Dr.hex pre) e w') at KH1;cases hx : Dr.hex pre with
      | none =>
        rw [hx] at KH1 HE1;have HE := Lib.hid (HE1.out.1 rfl);clear HE1 KH hx;have KH1 := Lib.hid KH1;go_wp2_with fail;go_still_tail 12,(by kernel_rfl);change wpList _ _ _ _ _ w1.drew;go_wp2_with fail;refine KH1.out.mono ?_;rintro x w2 ⟨rfl,rfl⟩;unfold Dr.dead at *;go_wp2_with fail;exact ⟨rfl,HE.out⟩
      | some d =>
        rw [hx] at KH1 HE1;have HE := Lib.hid (HE1.out.2 d rfl);clear HE1 KH hx;have KH1 := Lib.hid KH1;go_wp2_with fail;go_region_held3 (fun w' => w'.cell? ⟨b,0,none⟩ = some (.string S) ∧ w'.cell? ⟨b,1,none⟩ = some (.int .i64 ((p : Int) + 1)))
         (go_keep)
         (first
           | (go_at_call 73
              refine KH1.out.mono ?_
              rintro x w2 ⟨rfl,rfl⟩))
        go_wp2_with fail;go_ret;exact HE.out
    · have hcb : (c != 59) = true := bne_iff_ne.2 h59;have hE2 := hE.step hn h59;have HE0 := Lib.hid (fun (w1 : World) (hA1 : Dr.At b S r g w1) (hK1 : Dr.Kept b wr w1) => show (∃ pre l',Dr.At b S l' g w1 ∧ Dr.Kept b w w1 ∧ Dr.Esc l pre l') ∧ Dr.left b S w1 < Dr.left b S wr from
        ⟨⟨_,r,hA1,hK.trans hK1,hE2⟩,by rw [hA1.left,HM.out]; exact hlt⟩)
      clear hA hK hE hTr HM hn hlt hE2 h59;go_wp2_with fail;refine KN.mono ?_;rintro x w1 ⟨rfl,hA1,hK1⟩;have HE := Lib.hid (HE0.out w1 hA1 hK1);clear HE0 hA1 hK1;go_wp2_with fail;exact HE.out
theorem Dr.Bu.byteI {B k : Nat} {bs : List UInt8} {w : World} (h : Dr.Bu B k bs w) (c : UInt8) (m : Int) (hm : m = (c.toNat : Int)) (hl : bs.length ≤ 4194304) :
 Calls Tryz.prog 61 #[.pointer (some ⟨k,0,none⟩),.int .u8 m] w fun e w' => e = .returned .nilIface ∧ Dr.Bu B k (bs ++ [c]) w' ∧ Below B w w' := by
 subst hm
 exact h.byte c hl
theorem Dr.text_eq (l : List UInt8) : Dr.text l = match Dr.txt1 l with | .no => none | .stop r => some ([],r) | .go b r => (Dr.text r).map fun x => (b ++ x.1,x.2) := by
 rw [Dr.text];split <;> (rename_i e; rw [e])
def Dr.Txt (l bs l' : List UInt8) : Prop := Dr.text l = (Dr.text l').map fun x => (bs ++ x.1,x.2)
theorem Dr.Txt.step {l bs l' b r : List UInt8} (h : Dr.Txt l bs l') (hn : Dr.txt1 l' = .go b r) : Dr.Txt l (bs ++ b) r := by
 unfold Dr.Txt at *;rw [h,Dr.text_eq l',hn];show Option.map _ (Option.map _ (Dr.text r)) = Option.map _ (Dr.text r);rw [Option.map_map];congr 1;funext x;simp
theorem Dr.Txt.stop {l bs l' r : List UInt8} (h : Dr.Txt l bs l') (hn : Dr.txt1 l' = .stop r) : Dr.text l = some (bs,r) := by
 unfold Dr.Txt at *;rw [h,Dr.text_eq l',hn];simp
theorem Dr.Txt.dead {l bs l' : List UInt8} (h : Dr.Txt l bs l') (hn : Dr.txt1 l' = .no) : Dr.text l = none := by
 unfold Dr.Txt at *;rw [h,Dr.text_eq l',hn];rfl
def Dr.PostX (b : Nat) (S : ByteArray) (g : Bool) (w : World) (R : Option (List UInt8 × List UInt8)) (e : Ending) (w' : World) : Prop :=
 match R with
 | none => e = Dr.dead ∧ Dr.Kept b w w'
 | some (x,r) => e = .returned (.string ⟨x.toArray⟩) ∧ Dr.At b S r g w' ∧ Dr.Kept b w w'
theorem Dr.hex_ok {l : List UInt8} {c : Int} (h : Dr.hex l = some c) : Ru.okR c := by
 unfold Dr.hex at h;split at h
 · rename_i hc;simp only [Option.some.injEq] at h;simp only [Bool.and_eq_true] at hc;have h2 := hc.2;rw [h] at h2;simp only [Tr.isChar,Bool.or_eq_true,Bool.and_eq_true,decide_eq_true_eq] at h2;unfold Ru.okR;omega
 · cases h
theorem Dr.esc_ok {l r : List UInt8} {c : Int} (h : Dr.esc l = some (c,r)) : Ru.okR c := by
 unfold Dr.esc at h;split at h
 · cases h
 · rename_i x hx;cases hh : Dr.hex x.1 with
   | none => rw [hh] at h; cases h
   | some d =>
     rw [hh] at h;simp only [Option.map_some,Option.some.injEq,Prod.mk.injEq] at h;rw [← h.1];exact Dr.hex_ok hh
set_option maxHeartbeats 16000000 in
theorem Dr.text_any (b : Nat) (S : ByteArray) (g : Bool) (l : List UInt8) (w : World) (h : Dr.At b S l g w) (hs : S.size ≤ 1048576) (hT : Dr.Tabs w) :
 Calls Tryz.prog 39 #[.pointer (some ⟨b,0,none⟩)] w fun e w' => Dr.PostX b S g w (Dr.text l) e w' := by
 obtain ⟨R,hR⟩ : ∃ z,Dr.text l = z := ⟨_,rfl⟩
 rw [hR]
 have HR := Lib.hid hR
 have HNE := Lib.hid (And.intro hT (h.tabs_ne hT))
 have hlB := h.lt
 have hle0 := h.le
 have hal : Below w.heap.size w (w.alloc (.cells #[.pointer none,.slice none 0 0] 63)) := (Below.refl _ _).alloc (Nat.le_refl _) _
 have H0 := Lib.hid (show ∃ l' bs,Dr.At b S l' g (w.alloc (.cells #[.pointer none,.slice none 0 0] 63)) ∧ Dr.Kept b w (w.alloc (.cells #[.pointer none,.slice none 0 0] 63)) ∧ Dr.Bu w.heap.size w.heap.size bs (w.alloc (.cells #[.pointer none,.slice none 0 0] 63)) ∧ Dr.Txt l bs l' ∧ bs.length + 4 * l'.length ≤ 4 * l.length from
   ⟨l,[],h.below hal,Dr.Kept.of_below hal,Dr.Bu.fresh w,by unfold Dr.Txt; cases Dr.text l <;> simp,by simp⟩)
 obtain ⟨B,hB⟩ : ∃ z,w.heap.size = z := ⟨_,rfl⟩
 have HBE := Lib.hid hB
 clear h hT hR hal
 go_enter Tryz.func39,Tryz.ntmps39
 go_wp2_with fail
 rw [hB] at H0
 go_loopw [] (fun wr => ∃ l' bs,Dr.At b S l' g wr ∧ Dr.Kept b w wr ∧ Dr.Bu B B bs wr ∧ Dr.Txt l bs l' ∧ bs.length + 4 * l'.length ≤ 4 * l.length) (fun wr => Dr.left b S wr)
 case atStart => exact H0.out
 case round =>
  obtain ⟨l',bs,hA,hK,hBu,hTx,hbl⟩ := hrel
  clear H0
  have hTr : Dr.Tabs wr := Dr.tabs_kept HNE.out.1 HNE.out.2.1 HNE.out.2.2 hK
  have hAle := hA.le
  have hb41 : bs.length ≤ 4194304 := by omega
  have hbB : b < B := by rw [← hB]; exact hlB
  have HG := Lib.hid (fun (bts r3 : List UInt8) (hstep : Dr.txt1 l' = .go bts r3) (hb4 : bts.length ≤ 4) (W : World) (hAt : Dr.At b S r3 g W) (hK2 : Dr.Kept b w W) (hB2 : Dr.Bu B B (bs ++ bts) W) =>
    show (∃ l' bs,Dr.At b S l' g W ∧ Dr.Kept b w W ∧ Dr.Bu B B bs W ∧ Dr.Txt l bs l' ∧ bs.length + 4 * l'.length ≤ 4 * l.length) ∧ Dr.left b S W < Dr.left b S wr from by
     have hlt := Dr.txt1_lt hstep
     exact ⟨⟨r3,bs ++ bts,hAt,hK2,hB2,hTx.step hstep,by rw [List.length_append]; omega⟩,by rw [hAt.left,hA.left]; exact hlt⟩)
  have HX := Lib.hid (fun (hno : Dr.txt1 l' = .no) (W : World) (hK2 : Dr.Kept b w W) => show Dr.PostX b S g w R Dr.dead W from by
    rw [← HR.out,hTx.dead hno]
    exact ⟨rfl,hK2⟩)
  have HZ := Lib.hid (fun (r3 : List UInt8) (hno : Dr.txt1 l' = .stop r3) (W : World) (hAt : Dr.At b S r3 g W) (hK2 : Dr.Kept b w W) => show Dr.PostX b S g w R (.returned (.string ⟨bs.toArray⟩)) W from by
    rw [← HR.out,hTx.stop hno]
    exact ⟨rfl,hAt,hK2⟩)
  have HBL := Lib.hid (fun (w1 W : World) (hK1 : Dr.Kept b w w1) (hb : Below B w1 W) => show Dr.Kept b w W from hK1.belowB (hB.symm ▸ hb))
  cases hn : Dr.next l' with
  | none =>
    have KF := Dr.next_none b S l' g wr hA hn hTr
    have hno : Dr.txt1 l' = .no := by unfold Dr.txt1; rw [hn]
    have HE0 := Lib.hid (fun (w1 : World) (hb1 : Below wr.heap.size wr w1) => HX.out hno w1 (hK.trans (Dr.Kept.of_below hb1)))
    clear hA hK hBu hTx hbl hTr hAle hn hno HG HX HZ HBL hB hb41 hbB hlB hle0
    go_wp2_with fail
    refine KF.mono ?_
    rintro x w1 ⟨rfl,hb1⟩
    have HE := Lib.hid (HE0.out w1 hb1)
    clear HE0 hb1
    unfold Dr.dead at *
    go_wp2_with fail
    exact ⟨rfl,HE.out⟩
  | some x =>
    obtain ⟨c,r⟩ := x
    have KN := Dr.next_ok b S l' g c r wr hA (by omega) hn hTr
    have hok := Dr.next_ok32 hn
    have HW1 := Lib.hid (fun (w1 : World) (hA1 : Dr.At b S r g w1) (hK1 : Dr.Kept b wr w1) => show Dr.Kept b w w1 ∧ Dr.Bu B B bs w1 ∧ Dr.Tabs w1 from ⟨hK.trans hK1,hBu.kept hK1 hbB,Dr.tabs_kept HNE.out.1 HNE.out.2.1 HNE.out.2.2 (hK.trans hK1)⟩)
    have hsz : S.size ≤ 9223372036854775807 := by omega
    clear hA hK hBu hTx hbl hTr hAle hB hlB hle0
    have htx : Dr.txt1 l' = (if c = 34 then .stop r
      else if c = 92 then
       (match Dr.next r with
       | none => .no
       | some (c2,r2) =>
         if c2 = 120 then (match Dr.esc r2 with | none => .no | some (d,r3) => .go (Lib.encodeRune d) r3)
         else (match Dr.unesc c2 with | none => .no | some b => .go [b] r2))
      else if c = 13 then (match Dr.ret r with | none => .no | some r2 => .go [10] r2)
      else if (decide (c = 133) || decide (c = 8232)) = true then .go [10] r
      else .go (Lib.encodeRune c) r) := by unfold Dr.txt1; rw [hn]; rfl
    clear hn
    by_cases h34 : c = 34
    · rw [if_pos h34] at htx;have HTX := Lib.hid htx;subst h34;clear htx;go_wp2_with fail;refine KN.mono ?_;rintro x w1 ⟨rfl,hA1,hK1⟩;obtain ⟨hK2,hB2,hT2⟩ := HW1.out w1 hA1 hK1;have KW := Lib.hid hB2.string;have HE0 := Lib.hid (fun (W : World) (hb : Below B w1 W) => HZ.out _ HTX.out W (hA1.belowB hb hbB) (HBL.out w1 W hK2 hb));clear HW1 hA1 hK1 hK2 hB2 hT2 HG HX HZ HBL HTX hok hbB hb41;go_wp2_with fail;refine KW.out.mono ?_;rintro x w2 ⟨rfl,hb3⟩;have HE := Lib.hid (HE0.out w2 hb3);clear HE0 hb3 KW;go_wp2_with fail;go_ret;exact HE.out
    have e34 : (c == 34) = false := beq_eq_false_iff_ne.2 h34
    rw [if_neg h34] at htx
    by_cases h92 : c = 92
    · rw [if_pos h92] at htx;subst h92;cases hn2 : Dr.next r with
      | none =>
        rw [hn2] at htx;have HTX := Lib.hid (show Dr.txt1 l' = .no from htx);clear htx h34;go_wp2_with fail;refine KN.mono ?_;rintro x w1 ⟨rfl,hA1,hK1⟩;obtain ⟨hK2,hB2,hT2⟩ := HW1.out w1 hA1 hK1;have KP := Lib.hid (Dr.next_none b S r g w1 hA1 hn2 hT2);have HE0 := Lib.hid (fun (w2 : World) (hb2 : Below w1.heap.size w1 w2) => HX.out HTX.out w2 (hK2.trans (Dr.Kept.of_below hb2)));clear HW1 hA1 hK1 hK2 hB2 hT2 HG HX HZ HBL HTX hok hbB hb41 hn2;go_wp2_with fail;refine KP.out.mono ?_;rintro x w2 ⟨rfl,hb2⟩;have HE := Lib.hid (HE0.out w2 hb2);clear HE0 hb2 KP;unfold Dr.dead at *;go_wp2_with fail;exact ⟨rfl,HE.out⟩
      | some x2 =>
        obtain ⟨c2,r2⟩ := x2;rw [hn2] at htx;have htx1 : Dr.txt1 l' = if c2 = 120 then (match Dr.esc r2 with | none => .no | some (d,r3) => .go (Lib.encodeRune d) r3) else (match Dr.unesc c2 with | none => .no | some b => .go [b] r2) := htx;clear htx;have hok2 := Dr.next_ok32 hn2;have KN2 := Lib.hid (fun (w1 : World) (hA1 : Dr.At b S r g w1) (hT2 : Dr.Tabs w1) => Dr.next_ok b S r g c2 r2 w1 hA1 hsz hn2 hT2);by_cases h120 : c2 = 120
        · rw [if_pos h120] at htx1;subst h120;have KE := Lib.hid (fun (w2 : World) (hA2 : Dr.At b S r2 g w2) (hT3 : Dr.Tabs w2) => Dr.escape_any b S g r2 w2 hA2 hsz hT3);cases hE : Dr.esc r2 with
          | none =>
            rw [hE] at htx1 KE;have HTX := Lib.hid (show Dr.txt1 l' = .no from htx1);clear htx1 h34 hn2 hE;go_wp2_with fail;refine KN.mono ?_;rintro x w1 ⟨rfl,hA1,hK1⟩;obtain ⟨hK2,hB2,hT2⟩ := HW1.out w1 hA1 hK1;have KP := Lib.hid (KN2.out w1 hA1 hT2);have HE0 := Lib.hid (fun (w2 : World) (hA2 : Dr.At b S r2 g w2) (hK3 : Dr.Kept b w1 w2) => show Calls Tryz.prog 68 #[.pointer (some ⟨b,0,none⟩)] w2 (fun e w' => Dr.PostE b S g w2 none e w') ∧ ∀ w3 (hK4 : Dr.Kept b w2 w3),Dr.PostX b S g w R Dr.dead w3 from
              ⟨KE.out w2 hA2 (Dr.tabs_kept HNE.out.1 HNE.out.2.1 HNE.out.2.2 (hK2.trans hK3)),fun w3 hK4 => HX.out HTX.out w3 ((hK2.trans hK3).trans hK4)⟩)
            clear HW1 hA1 hK1 hK2 hB2 hT2 HG HX HZ HBL HTX hok hbB hb41 KN2 KE hok2;go_wp2_with fail;refine KP.out.mono ?_;rintro x w2 ⟨rfl,hA2,hK3⟩;obtain ⟨KQ,HE1⟩ := HE0.out w2 hA2 hK3;have KQ := Lib.hid KQ;have HE1 := Lib.hid HE1;clear HE0 hA2 hK3 KP;go_wp2_with fail;refine KQ.out.mono ?_;rintro x w3 ⟨rfl,hK4⟩;have HE := Lib.hid (HE1.out w3 hK4);clear HE1 hK4 KQ;unfold Dr.dead at *;go_wp2_with fail;exact ⟨rfl,HE.out⟩
          | some x3 =>
            obtain ⟨d,r3⟩ := x3;rw [hE] at htx1 KE;have HTX := Lib.hid (show Dr.txt1 l' = .go (Lib.encodeRune d) r3 from htx1);have hokd := Dr.esc_ok hE;clear htx1 h34 hn2 hE;go_wp2_with fail;refine KN.mono ?_;rintro x w1 ⟨rfl,hA1,hK1⟩;obtain ⟨hK2,hB2,hT2⟩ := HW1.out w1 hA1 hK1;have KP := Lib.hid (KN2.out w1 hA1 hT2);have HE0 := Lib.hid (fun (w2 : World) (hA2 : Dr.At b S r2 g w2) (hK3 : Dr.Kept b w1 w2) => show Calls Tryz.prog 68 #[.pointer (some ⟨b,0,none⟩)] w2 (fun e w' => Dr.PostE b S g w2 (some (d,r3)) e w') ∧ ∀ w3 (hA4 : Dr.At b S r3 g w3) (hK4 : Dr.Kept b w2 w3),Dr.Bu B B bs w3 ∧ ∀ (W : World) (hb : Below B w3 W) (hBW : Dr.Bu B B (bs ++ Lib.encodeRune d) W),_ from
              ⟨KE.out w2 hA2 (Dr.tabs_kept HNE.out.1 HNE.out.2.1 HNE.out.2.2 (hK2.trans hK3)),fun w3 hA4 hK4 => ⟨(hB2.kept hK3 hbB).kept hK4 hbB,fun W hb hBW => HG.out _ _ HTX.out (Ru.encode_length d).2 W (hA4.belowB hb hbB) (HBL.out w3 W ((hK2.trans hK3).trans hK4) hb) hBW⟩⟩)
            clear HW1 hA1 hK1 hK2 hB2 hT2 HG HX HZ HBL HTX hok hbB KN2 KE hok2;go_wp2_with fail;refine KP.out.mono ?_;rintro x w2 ⟨rfl,hA2,hK3⟩;obtain ⟨KQ,HE1⟩ := HE0.out w2 hA2 hK3;have KQ := Lib.hid KQ;have HE1 := Lib.hid HE1;clear HE0 hA2 hK3 KP;go_wp2_with fail;refine KQ.out.mono ?_;rintro x w3 ⟨rfl,hA4,hK4⟩;obtain ⟨hB4,HE2⟩ := HE1.out w3 hA4 hK4;have HE2 := Lib.hid HE2;have KW := Lib.hid (hB4.rune d hokd hb41);clear HE1 hA4 hK4 KQ hB4 hb41;go_wp2_with fail;refine KW.out.mono ?_;rintro x w4 ⟨n,rfl,hB5,hb5⟩;have HE := Lib.hid (HE2.out w4 hb5 hB5);clear HE2 hB5 hb5 KW;go_wp2_with fail;exact HE.out
        · rw [if_neg h120] at htx1;have e120 : (c2 == 120) = false := beq_eq_false_iff_ne.2 h120;have KI0 := Lib.hid (fun (w2 : World) => Dr.indexD c2 hok2 w2);unfold Dr.cD at KI0;have HTX1 := Lib.hid htx1;clear htx1 h34 hn2 h120;go_wp2_with fail;refine KN.mono ?_;rintro x w1 ⟨rfl,hA1,hK1⟩;obtain ⟨hK2,hB2,hT2⟩ := HW1.out w1 hA1 hK1;have KP := Lib.hid (KN2.out w1 hA1 hT2);have HE0 := Lib.hid (fun (w2 : World) (hA2 : Dr.At b S r2 g w2) (hK3 : Dr.Kept b w1 w2) (w3 : World) (hb3 : Below w2.heap.size w2 w3) => show (Dr.unesc c2 = none → Dr.PostX b S g w R Dr.dead w3) ∧ (∀ bt,Dr.unesc c2 = some bt → Dr.Bu B B bs w3 ∧ ∀ (W : World) (hb : Below B w3 W) (hBW : Dr.Bu B B (bs ++ [bt]) W),_) from
            ⟨fun hu => HX.out (by rw [HTX1.out,hu]) w3 ((hK2.trans hK3).trans (Dr.Kept.of_below hb3)),fun bt hu => ⟨(hB2.kept hK3 hbB).kept (Dr.Kept.of_below (b := b) hb3) hbB,fun W hb hBW => HG.out [bt] r2 (by rw [HTX1.out,hu]) (by simp) W ((hA2.below hb3).belowB hb hbB) (HBL.out w3 W ((hK2.trans hK3).trans (Dr.Kept.of_below hb3)) hb) hBW⟩⟩)
          clear HW1 hA1 hK1 hK2 hB2 hT2 HG HX HZ HBL HTX1 hok hbB KN2 hok2;go_wp2_with fail;refine KP.out.mono ?_;rintro x w2 ⟨rfl,hA2,hK3⟩;obtain ⟨k,hk,KI1⟩ := KI0.out w2;have KI := Lib.hid KI1;have HE1 := Lib.hid (fun w3 hb3 => HE0.out w2 hA2 hK3 w3 hb3);clear HE0 hA2 hK3 KP KI0 KI1;rcases hk with ⟨hk,hu⟩ | ⟨hk0,hk9,hu⟩
          · subst hk;have HU := Lib.hid hu;clear hu;go_wp2_with fail;refine KI.out.mono ?_;rintro x w3 ⟨rfl,hb3⟩;have HE := Lib.hid ((HE1.out w3 hb3).1 HU.out);clear HE1 hb3 KI HU hb41;go_wp2_with fail;refine (Dr.stop_any _ _).mono ?_;rintro x w4 ⟨rfl,hw4⟩;subst hw4;unfold Dr.dead at *;go_wp2_with fail;exact ⟨rfl,HE.out⟩
          · have hk' : k = 0 ∨ k = 1 ∨ k = 2 ∨ k = 3 ∨ k = 4 ∨ k = 5 ∨ k = 6 ∨ k = 7 ∨ k = 8 := by omega
            have hin : k.toNat < Dr.escB.length := by show _ < 9; omega
            obtain ⟨bt,hbt⟩ : ∃ bt,Dr.escB[k.toNat]? = some bt := ⟨_,List.getElem?_eq_getElem hin⟩;rw [hbt] at hu;clear hk0 hk9 hin;have HU := Lib.hid hu;have HBT := Lib.hid hbt;clear hu hbt;rcases hk' with rfl | rfl | rfl | rfl | rfl | rfl | rfl | rfl | rfl;all_goals
             go_wp2_with fail;refine KI.out.mono ?_;rintro x w3 ⟨rfl,hb3⟩;obtain ⟨hB4,HE2⟩ := (HE1.out w3 hb3).2 _ HU.out;have HE2 := Lib.hid HE2;have KW := Lib.hid (fun m hm => hB4.byteI bt m hm hb41);clear HE1 hb3 KI HU hB4 hb41;obtain rfl := Option.some.inj (show some _ = some bt from HBT.out);clear HBT;go_wp2_with fail;refine (KW.out _ rfl).mono ?_;rintro x w4 ⟨rfl,hB5,hb5⟩;have HE := Lib.hid (HE2.out w4 hb5 hB5);clear HE2 hB5 hb5 KW;go_wp2_with fail;exact HE.out
    have e92 : (c == 92) = false := beq_eq_false_iff_ne.2 h92
    rw [if_neg h92] at htx
    by_cases h13 : c = 13
    · rw [if_pos h13] at htx;subst h13;by_cases hr : r = []
      · have htx2 : Dr.txt1 l' = .go [10] r := by
         rw [htx];unfold Dr.ret;rw [if_pos hr]
        have HTX := Lib.hid htx2;clear htx htx2 h34 h92;go_wp2_with fail;refine KN.mono ?_;rintro x w1 ⟨rfl,hA1,hK1⟩;obtain ⟨hK2,hB2,hT2⟩ := HW1.out w1 hA1 hK1;have KP := Lib.hid (Dr.peek_end b S g w1 (hr ▸ hA1));have hsz1 := hB2.2;have HE0 := Lib.hid (fun (w2 : World) (hb2 : Below w1.heap.size w1 w2) => show Dr.Bu B B bs w2 ∧ ∀ (W : World) (hb : Below B w2 W) (hBW : Dr.Bu B B (bs ++ [10]) W),_ from ⟨hB2.kept (Dr.Kept.of_below (b := b) hb2) hbB,fun W hb hBW => HG.out _ _ HTX.out (by simp) W ((hA1.below hb2).belowB hb hbB) (HBL.out w2 W (hK2.trans (Dr.Kept.of_below hb2)) hb) hBW⟩);clear HW1 hA1 hK1 hK2 hB2 hT2 HG HX HZ HBL HTX hok hbB hsz1;go_wp2_with fail;refine KP.out.mono ?_;rintro x w2 ⟨rfl,hb2⟩;obtain ⟨hB3,HE1⟩ := HE0.out w2 hb2;have HE1 := Lib.hid HE1;have KW := Lib.hid (hB3.byteI 10 10 rfl hb41);clear HE0 hb2 hB3 hb41;go_wp2_with fail;refine KW.out.mono ?_;rintro x w3 ⟨rfl,hB4,hb4⟩;have HE := Lib.hid (HE1.out w3 hb4 hB4);clear HE1 hB4 hb4 KW;go_wp2_with fail;exact HE.out
      cases hb : Dr.bad r with
      | true =>
        have htx2 : Dr.txt1 l' = .no := by
         rw [htx];unfold Dr.ret;rw [if_neg hr,if_pos hb]
        have HTX := Lib.hid htx2;clear htx htx2 h34 h92;go_wp2_with fail;refine KN.mono ?_;rintro x w1 ⟨rfl,hA1,hK1⟩;obtain ⟨hK2,hB2,hT2⟩ := HW1.out w1 hA1 hK1;have KP := Lib.hid (Dr.peek_bad b S r g w1 hA1 hr hb hT2);have HE0 := Lib.hid (fun (w2 : World) (hb2 : Below w1.heap.size w1 w2) => HX.out HTX.out w2 (hK2.trans (Dr.Kept.of_below hb2)));clear HW1 hA1 hK1 hK2 hB2 hT2 HG HX HZ HBL HTX hok hbB hb41 hb hr;go_wp2_with fail;refine KP.out.mono ?_;rintro x w2 ⟨rfl,hb2⟩;have HE := Lib.hid (HE0.out w2 hb2);clear HE0 hb2 KP;unfold Dr.dead at *;go_wp2_with fail;exact ⟨rfl,HE.out⟩
      | false =>
        have hwl := Dr.wd_le hr;have KP0 := fun (w1 : World) (hA1 : Dr.At b S r g w1) (hT2 : Dr.Tabs w1) => Dr.peek_ok b S r g w1 hA1 hr hb hT2;by_cases hcp : Dr.cp r = 10 ∨ Dr.cp r = 133
        · have htx2 : Dr.txt1 l' = .go [10] (r.drop (Dr.wd r)) := by
           rw [htx];unfold Dr.ret;rw [if_neg hr,if_neg (by rw [hb]; simp),if_pos (by simpa using hcp)]
          have HTX := Lib.hid htx2;have HCP := Lib.hid hcp;obtain ⟨q,hq⟩ : ∃ z,S.size - r.length = z := ⟨_,rfl⟩;have HQ := Lib.hid hq;have hsum : ∀ w1,Dr.At b S r g w1 → (q : Int) + (Dr.wd r : Int) ≤ 9223372036854775807 ∧ 0 ≤ (Dr.wd r : Int) ∧ 0 ≤ (q : Int) := fun w1 hA1 => by have := hA1.le; omega
          have HSUM := Lib.hid hsum;have HWL := Lib.hid hwl;clear htx htx2 h34 h92 hb hr hcp hq hsum hwl;go_wp2_with fail;refine KN.mono ?_;rintro x w1 ⟨rfl,hA1,hK1⟩;obtain ⟨hK2,hB2,hT2⟩ := HW1.out w1 hA1 hK1;have KP := Lib.hid (KP0 w1 hA1 hT2);obtain ⟨hs1,hs2,hs3⟩ := HSUM.out w1 hA1;have HE0 := Lib.hid (fun (w2 : World) (hb2 : Below w1.heap.size w1 w2) => show (∃ W,w2.setCell ⟨b,1,none⟩ (.int .i64 ((q : Int) + ((Dr.wd r : Nat) : Int))) = W ∧ w2.frozen? ⟨b,1,none⟩ = false ∧ w2.cell? ⟨b,1,none⟩ = some (.int .i64 (q : Int)) ∧ Dr.Bu B B bs W ∧ ∀ (W2 : World) (hb : Below B W W2) (hBW : Dr.Bu B B (bs ++ [10]) W2),_) from by
            obtain ⟨W,hW,hfz,hAt,hKW,hz⟩ := Dr.setAt (hA1.below hb2) HQ.out HWL.out ((Dr.wd r : Nat) : Int) rfl;have hc1 := (hA1.below hb2).cells.2.1;rw [HQ.out] at hc1
            exact ⟨W,hW,hfz,hc1,(hB2.kept (Dr.Kept.of_below (b := b) hb2) hbB).kept hKW hbB,fun W2 hb hBW => HG.out _ _ HTX.out (by simp) W2 (hAt.belowB hb hbB) (HBL.out W W2 ((hK2.trans (Dr.Kept.of_below hb2)).trans hKW) hb) hBW⟩)
          clear HW1 hA1 hK1 hK2 hB2 hT2 HG HX HZ HBL HTX hok hbB KP0 HQ HSUM HWL;generalize Dr.wd r = n at *;generalize Dr.cp r = c2 at *;rcases HCP.out with e | e;all_goals
           subst e;clear HCP;go_wp2_with fail;refine KP.out.mono ?_;rintro x w2 ⟨rfl,hb2⟩;obtain ⟨W,hW,hfz,hc1,hB3,HE1⟩ := HE0.out w2 hb2;have HE1 := Lib.hid HE1;have KW := Lib.hid (hB3.byteI 10 10 rfl hb41);clear HE0 hb2 hB3 hb41;go_wp2_with fail;refine KW.out.mono ?_;rintro x w3 ⟨rfl,hB4,hb4⟩;have HE := Lib.hid (HE1.out w3 hb4 hB4);clear HE1 hB4 hb4 KW;go_wp2_with fail;exact HE.out
        · have htx2 : Dr.txt1 l' = .go [10] r := by
           rw [htx];unfold Dr.ret;rw [if_neg hr,if_neg (by rw [hb]; simp),if_neg (by simpa using hcp)]
          have HTX := Lib.hid htx2;have e10 : (Dr.cp r == 10) = false := beq_eq_false_iff_ne.2 (fun e => hcp (.inl e));have e133 : (Dr.cp r == 133) = false := beq_eq_false_iff_ne.2 (fun e => hcp (.inr e));clear htx htx2 h34 h92 hb hr hcp hwl;go_wp2_with fail;refine KN.mono ?_;rintro x w1 ⟨rfl,hA1,hK1⟩;obtain ⟨hK2,hB2,hT2⟩ := HW1.out w1 hA1 hK1;have KP := Lib.hid (KP0 w1 hA1 hT2);have HE0 := Lib.hid (fun (w2 : World) (hb2 : Below w1.heap.size w1 w2) => show Dr.Bu B B bs w2 ∧ ∀ (W : World) (hb : Below B w2 W) (hBW : Dr.Bu B B (bs ++ [10]) W),_ from ⟨hB2.kept (Dr.Kept.of_below (b := b) hb2) hbB,fun W hb hBW => HG.out _ _ HTX.out (by simp) W ((hA1.below hb2).belowB hb hbB) (HBL.out w2 W (hK2.trans (Dr.Kept.of_below hb2)) hb) hBW⟩);clear HW1 hA1 hK1 hK2 hB2 hT2 HG HX HZ HBL HTX hok hbB KP0;generalize Dr.wd r = n at *;generalize Dr.cp r = c2 at *;go_wp2_with fail;refine KP.out.mono ?_;rintro x w2 ⟨rfl,hb2⟩;obtain ⟨hB3,HE1⟩ := HE0.out w2 hb2;have HE1 := Lib.hid HE1;have KW := Lib.hid (hB3.byteI 10 10 rfl hb41);clear HE0 hb2 hB3 hb41;go_wp2_with fail;refine KW.out.mono ?_;rintro x w3 ⟨rfl,hB4,hb4⟩;have HE := Lib.hid (HE1.out w3 hb4 hB4);clear HE1 hB4 hb4 KW;go_wp2_with fail;exact HE.out
    have e13 : (c == 13) = false := beq_eq_false_iff_ne.2 h13
    rw [if_neg h13] at htx
    by_cases h133 : c = 133
    · have htx2 : Dr.txt1 l' = .go [10] r := by rw [htx,if_pos (by rw [h133]; decide)]
      have HTX := Lib.hid htx2;subst h133;clear htx htx2 h34 h92 h13;go_wp2_with fail;refine KN.mono ?_;rintro x w1 ⟨rfl,hA1,hK1⟩;obtain ⟨hK2,hB2,hT2⟩ := HW1.out w1 hA1 hK1;have KW := Lib.hid (hB2.byteI 10 10 rfl hb41);have HE0 := Lib.hid (fun (W : World) (hb : Below B w1 W) (hBW : Dr.Bu B B (bs ++ [10]) W) => HG.out _ _ HTX.out (by simp) W (hA1.belowB hb hbB) (HBL.out w1 W hK2 hb) hBW);clear HW1 hA1 hK1 hK2 hB2 hT2 HG HX HZ HBL HTX hok hbB hb41;go_wp2_with fail;refine KW.out.mono ?_;rintro x w2 ⟨rfl,hB3,hb3⟩;have HE := Lib.hid (HE0.out w2 hb3 hB3);clear HE0 hB3 hb3 KW;go_wp2_with fail;exact HE.out
    by_cases h8232 : c = 8232
    · have htx2 : Dr.txt1 l' = .go [10] r := by rw [htx,if_pos (by rw [h8232]; decide)]
      have HTX := Lib.hid htx2;subst h8232;clear htx htx2 h34 h92 h13 h133;go_wp2_with fail;refine KN.mono ?_;rintro x w1 ⟨rfl,hA1,hK1⟩;obtain ⟨hK2,hB2,hT2⟩ := HW1.out w1 hA1 hK1;have KW := Lib.hid (hB2.byteI 10 10 rfl hb41);have HE0 := Lib.hid (fun (W : World) (hb : Below B w1 W) (hBW : Dr.Bu B B (bs ++ [10]) W) => HG.out _ _ HTX.out (by simp) W (hA1.belowB hb hbB) (HBL.out w1 W hK2 hb) hBW);clear HW1 hA1 hK1 hK2 hB2 hT2 HG HX HZ HBL HTX hok hbB hb41;go_wp2_with fail;refine KW.out.mono ?_;rintro x w2 ⟨rfl,hB3,hb3⟩;have HE := Lib.hid (HE0.out w2 hb3 hB3);clear HE0 hB3 hb3 KW;go_wp2_with fail;exact HE.out
    have e133 : (c == 133) = false := beq_eq_false_iff_ne.2 h133
    have e8232 : (c == 8232) = false := beq_eq_false_iff_ne.2 h8232
    rw [decide_eq_false h133,decide_eq_false h8232,Bool.or_false,if_neg (by simp)] at htx
    have HTX := Lib.hid htx
    clear h34 h92 h13 h133 h8232 htx
    go_wp2_with fail
    refine KN.mono ?_
    rintro x w1 ⟨rfl,hA1,hK1⟩
    obtain ⟨hK2,hB2,hT2⟩ := HW1.out w1 hA1 hK1
    have KW := Lib.hid (hB2.rune c hok hb41)
    have HE0 := Lib.hid (fun (W : World) (hb : Below B w1 W) (hBW : Dr.Bu B B (bs ++ Lib.encodeRune c) W) => HG.out _ _ HTX.out (Ru.encode_length c).2 W (hA1.belowB hb hbB) (HBL.out w1 W hK2 hb) hBW)
    clear HW1 hA1 hK1 hK2 hB2 hT2 HG HX HZ HBL HTX hok hbB hb41
    go_wp2_with fail
    refine KW.out.mono ?_
    rintro x w2 ⟨n,rfl,hB3,hb3⟩
    have HE := Lib.hid (HE0.out w2 hb3 hB3)
    clear HE0 hB3 hb3 KW
    go_wp2_with fail
    exact HE.out
theorem Dr.syms_eq (first : Bool) (l : List UInt8) (h : ¬ (l = [] ∧ first = false)) : Dr.syms first l = match Dr.sym1 first l with | none => none | some x => (Dr.syms false x.2).map fun y => x.1 ++ y := by
 rw [Dr.syms,if_neg h];split <;> (rename_i e; rw [e])
theorem Dr.syms_nil : Dr.syms false [] = some [] := by rw [Dr.syms,if_pos ⟨rfl,rfl⟩]
def Dr.Sy (R : Option (List UInt8)) (bs : List UInt8) (first : Bool) (l' : List UInt8) : Prop := R = (Dr.syms first l').map fun y => bs ++ y
theorem Dr.Sy.start (t : List UInt8) : (t.take 2 = [45,62] → Dr.Sy (Dr.symbol t) [45,62] false (t.drop 2)) ∧ (¬ t.take 2 = [45,62] → Dr.Sy (Dr.symbol t) [] true t) := by
 refine ⟨fun h => ?_,fun h => ?_⟩
 · unfold Dr.Sy Dr.symbol;rw [if_pos h]
 · unfold Dr.Sy Dr.symbol;rw [if_neg h];cases Dr.syms true t <;> simp
theorem Dr.Sy.step {R : Option (List UInt8)} {bs l' b r : List UInt8} {first : Bool} (h : Dr.Sy R bs first l') (hn : Dr.sym1 first l' = some (b,r)) : Dr.Sy R (bs ++ b) false r := by
 unfold Dr.Sy at *;have hne : ¬ (l' = [] ∧ first = false) := by
  rintro ⟨rfl,_⟩;simp [Dr.sym1,Dr.next] at hn
 rw [h,Dr.syms_eq first l' hne,hn];show Option.map _ (Option.map _ (Dr.syms false r)) = Option.map _ (Dr.syms false r);rw [Option.map_map];congr 1;funext x;simp
theorem Dr.Sy.stop {R : Option (List UInt8)} {bs : List UInt8} (h : Dr.Sy R bs false []) : R = some bs := by
 unfold Dr.Sy at h;rw [h,Dr.syms_nil];simp
theorem Dr.Sy.dead {R : Option (List UInt8)} {bs l' : List UInt8} {first : Bool} (h : Dr.Sy R bs first l') (hne : ¬ (l' = [] ∧ first = false)) (hn : Dr.sym1 first l' = none) : R = none := by
 unfold Dr.Sy at h;rw [h,Dr.syms_eq first l' hne,hn];rfl
def Dr.PostS (w : World) (R : Option (List UInt8)) (e : Ending) (w' : World) : Prop :=
 match R with
 | none => e = Dr.dead ∧ Below w.heap.size w w'
 | some x => e = .returned (.string ⟨x.toArray⟩) ∧ Below w.heap.size w w'
theorem Dr.Kept.toBelow {w w1 w' : World} (h0 : Below w.heap.size w w1) (h : Dr.Kept w.heap.size w1 w') : Below w.heap.size w w' :=
 ⟨h.os.trans h0.os,h.tape.trans h0.tape,h.output.trans h0.output,Nat.le_trans h0.size h.size,fun q hq => (h.block q (Nat.lt_of_lt_of_le hq h0.size) (by omega)).trans (h0.block q hq)⟩
def Dr.SyR (b : Nat) (S : ByteArray) (w1 : World) (R : Option (List UInt8)) (v : Value) (W : World) : Prop :=
 ∃ (first : Bool) (l' bs : List UInt8),v = .bool first ∧ Dr.At b S l' false W ∧ Dr.Kept b w1 W ∧ Dr.Bu (b + 1) (b + 1) bs W ∧ Dr.Sy R bs first l' ∧ bs.length + 4 * l'.length ≤ 4 * S.size
theorem Dr.At.fresh (S : ByteArray) (w : World) : Dr.At w.heap.size S S.data.toList false (w.alloc (.cells #[.string S,.int .i64 0,.bool false] 49)) := by
 have e : S.data.toList.length = S.size := by simp
 refine ⟨?_,by rw [e,Nat.sub_self]; rfl,by rw [e]; exact Nat.le_refl _⟩;rw [e,Nat.sub_self];exact heap_alloc_new w _
set_option maxHeartbeats 16000000 in
theorem Dr.symbol_any (p : Value) (S : ByteArray) (w : World) (hs : S.size ≤ 1048576) (hT : Dr.Tabs w) :
 Calls Tryz.prog 75 #[p,.string S] w fun e w' => Dr.PostS w (Dr.symbol S.data.toList) e w' := by
 obtain ⟨R,hR⟩ : ∃ z,Dr.symbol S.data.toList = z := ⟨_,rfl⟩
 have hSt := Dr.Sy.start S.data.toList
 rw [hR] at hSt ⊢
 have hlen : S.data.toList.length = S.size := by simp
 obtain ⟨b,hb⟩ : ∃ z,w.heap.size = z := ⟨_,rfl⟩
 have hbw1 : Below w.heap.size w (w.alloc (.cells #[.string S,.int .i64 0,.bool false] 49)) := (Below.refl _ _).alloc (Nat.le_refl _) _
 have hA1 := Dr.At.fresh S w
 have hT1 : Dr.Tabs (w.alloc (.cells #[.string S,.int .i64 0,.bool false] 49)) := Utf8Tabs_below hT hbw1
 obtain ⟨w1,hw1⟩ : ∃ z,w.alloc (.cells #[.string S,.int .i64 0,.bool false] 49) = z := ⟨_,rfl⟩
 rw [hw1,hb] at hA1 hbw1
 rw [hw1] at hT1
 have hz1 : w1.heap.size = b + 1 := by rw [← hw1]; simp [hb]
 have HNE := Lib.hid (And.intro hT1 (hA1.tabs_ne hT1))
 have HEND := Lib.hid (fun (W : World) (hK : Dr.Kept b w1 W) => show (R = none → Dr.PostS w R Dr.dead W) ∧ ∀ x,R = some x → Dr.PostS w R (.returned (.string ⟨x.toArray⟩)) W from by
   have hbel : Below w.heap.size w W := Dr.Kept.toBelow (w1 := w1) (by rw [hb]; exact hbw1) (by rw [hb]; exact hK)
   exact ⟨fun e => by rw [e]; exact ⟨rfl,hbel⟩,fun x e => by rw [e]; exact ⟨rfl,hbel⟩⟩)
 have hal : Below w1.heap.size w1 (w1.alloc (.cells #[.pointer none,.slice none 0 0] 63)) := (Below.refl _ _).alloc (Nat.le_refl _) _
 have hA2 := hA1.below hal
 have hK2 := Dr.Kept.of_below (b := b) hal
 have hB2 := Dr.Bu.fresh w1
 obtain ⟨w2,hw2⟩ : ∃ z,w1.alloc (.cells #[.pointer none,.slice none 0 0] 63) = z := ⟨_,rfl⟩
 rw [hw2] at hA2 hK2 hB2
 rw [hz1] at hB2
 have KH0 := fun w' => Tryz.strings_HasPrefix S ⟨#[45,62]⟩ w'
 simp only [Dr.hasP] at KH0
 have KH := Lib.hid KH0
 clear KH0
 have hsz : S.size ≤ 9223372036854775807 := by omega
 have hbB : b < b + 1 := Nat.lt_succ_self b
 by_cases hpre : S.data.toList.take 2 = [45,62]
 · have hl2 := Dr.take_two hpre;have KH1 : ∀ w',Calls Tryz.prog 35 #[.string S,.string ⟨#[45,62]⟩] w' fun e w'' => e = .returned (.bool true) ∧ w'' = w' := fun w' => by
    refine (KH.out w').mono ?_;rintro e w'' ⟨rfl,rfl⟩;exact ⟨congrArg (fun x => Ending.returned (Value.bool x)) (decide_eq_true hpre),rfl⟩
   have KH2 := Lib.hid KH1;clear KH1;have KW0 : Calls Tryz.prog 56 #[.pointer (some ⟨b + 1,0,none⟩),.string ⟨#[45,62]⟩] w2 _ := hB2.str [45,62] (by simp);have KW := Lib.hid KW0;clear KW0;have HK1 := Lib.hid (fun (w3 : World) (hB3 : Dr.Bu (b + 1) (b + 1) ([] ++ [45,62]) w3) (hb3 : Below (b + 1) w2 w3) => show ∃ W,w3.setCell ⟨b,1,none⟩ (.int .i64 2) = W ∧ w3.frozen? ⟨b,1,none⟩ = false ∧ (∃ u,w3.cell? ⟨b,1,none⟩ = some u) ∧ Dr.SyR b S w1 R (.bool false) W from by
     have hA3 := hA2.belowB hb3 hbB;obtain ⟨W,hW,hfz,hAt,hKW,hz⟩ := Dr.setAt hA3 (p := 0) (by rw [hlen]; omega) hl2 2 rfl
     exact ⟨W,hW,hfz,⟨_,hA3.cells.2.1⟩,false,_,[45,62],rfl,hAt,(hK2.belowB (by rw [hz1]; exact hb3)).trans hKW,hB3.kept hKW hbB,hSt.1 hpre,by rw [List.length_drop,hlen]; simp; omega⟩)
   clear hSt hpre hA1 hA2 hK2 hB2 hal hT1 hbw1 hlen hR KH hl2;go_enter Tryz.func75,Tryz.ntmps75;go_wp2_with (first | (go_at_call 35; refine (KH2.out _).mono ?_; rintro x w' ⟨rfl,hw'⟩; subst hw'));refine KW.out.mono ?_;rintro x w3 ⟨n,rfl,hB3,hb3⟩;obtain ⟨W,hW,hfz,⟨u,hc1⟩,HK01⟩ := HK1.out w3 hB3 hb3;have HK0 := Lib.hid HK01;clear hB3 hb3 HK1 KW KH2 HK01;go_wp2_with fail;clear hW hfz hc1;go_loopw [7] (fun v wr => Dr.SyR b S w1 R v wr) (fun _ wr => Dr.left b S wr);case atStart => exact HK0.out
   case round =>
    unfold Dr.SyR at hrel;obtain ⟨first,l',bs,rfl,hA,hK,hBu,hSy,hbl⟩ := hrel;clear HK0;have hTr : Dr.Tabs wr := Dr.tabs_kept HNE.out.1 HNE.out.2.1 HNE.out.2.2 hK;have hAle := hA.le;have hb41 : bs.length ≤ 4194304 := by omega
    obtain ⟨c0,c1,c2⟩ := hA.cells;obtain ⟨q,hq⟩ : ∃ z,S.size - l'.length = z := ⟨_,rfl⟩;rw [hq] at c1;have hq0 : 0 ≤ (q : Int) := by omega
    have HG := Lib.hid (fun (bts r3 : List UInt8) (hstep : Dr.sym1 first l' = some (bts,r3)) (hb4 : bts.length ≤ 4) (W : World) (hAt : Dr.At b S r3 false W) (hK2 : Dr.Kept b w1 W) (hB2 : Dr.Bu (b + 1) (b + 1) (bs ++ bts) W) =>
      show Dr.SyR b S w1 R (.bool false) W ∧ Dr.left b S W < Dr.left b S wr from by
       have hlt := Dr.sym1_lt hstep
       exact ⟨⟨false,r3,bs ++ bts,rfl,hAt,hK2,hB2,hSy.step hstep,by rw [List.length_append]; omega⟩,by rw [hAt.left,hA.left]; exact hlt⟩)
    have HX := Lib.hid (fun (hne : ¬ (l' = [] ∧ first = false)) (hno : Dr.sym1 first l' = none) (W : World) (hK2 : Dr.Kept b w1 W) => show Dr.PostS w R Dr.dead W from (HEND.out W hK2).1 (hSy.dead hne hno));have HZ := Lib.hid (fun (hl0 : l' = []) (hf0 : first = false) (W : World) (hK2 : Dr.Kept b w1 W) => show Dr.PostS w R (.returned (.string ⟨bs.toArray⟩)) W from (HEND.out W hK2).2 bs (by subst hl0 hf0; exact hSy.stop));have HBL := Lib.hid (fun (wa W : World) (hK1 : Dr.Kept b w1 wa) (hb : Below (b + 1) wa W) => show Dr.Kept b w1 W from hK1.belowB (by rw [hz1]; exact hb));by_cases hend : l' = [] ∧ first = false
    · obtain ⟨hl0,hf0⟩ := hend;have hqe : q = S.size := by rw [← hq,hl0]; rfl
      have KW := Lib.hid hBu.string;have HE0 := Lib.hid (fun (W : World) (hb : Below (b + 1) wr W) => HZ.out hl0 hf0 W (HBL.out wr W hK hb));subst hf0 hqe;clear hA hK hBu hSy hbl hTr hAle hb41 HG HX HZ HBL hq;go_wp2_with fail;refine KW.out.mono ?_;rintro x w3 ⟨rfl,hb3⟩;have HE := Lib.hid (HE0.out w3 hb3);clear HE0 hb3 KW;go_wp2_with fail;go_ret;exact HE.out
    have hgo : (first = true ∧ decide (q < S.size) = false) ∨ (first = true ∧ decide (q < S.size) = true) ∨ (first = false ∧ decide (q < S.size) = true) := by
     cases hf : first with
     | true => cases decide (q < S.size) <;> simp
     | false =>
       refine .inr (.inr ⟨rfl,decide_eq_true ?_⟩);have : l' ≠ [] := fun e => hend ⟨e,hf⟩;have := List.length_pos_iff.2 this;omega
    have HX1 := Lib.hid (fun hno W hK2 => HX.out hend hno W hK2);have hnoA : Dr.next l' = none → Dr.sym1 first l' = none := fun hn => by unfold Dr.sym1; rw [hn]
    have hsyA : ∀ c r,Dr.next l' = some (c,r) → Dr.sym1 first l' = if c = 92 then
     (match Dr.next r with
     | none => none
     | some (c2,r2) => if c2 = 120 then (match Dr.esc r2 with | none => none | some (d,r3) => some (Lib.encodeRune d,r3)) else none)
     else if ((first && !Wt.firstB c) || !Wt.restB c) = true then none else some (Lib.encodeRune c,r) := fun c r hn => by unfold Dr.sym1; rw [hn]; rfl
    have HNO := Lib.hid hnoA;have HSYA := Lib.hid hsyA;have KF := fun hn => Dr.next_none b S l' false wr hA hn hTr;have KN := fun c r hn => Dr.next_ok b S l' false c r wr hA hsz hn hTr;have HW1 := Lib.hid (fun (r : List UInt8) (w3 : World) (hA1 : Dr.At b S r false w3) (hK1 : Dr.Kept b wr w3) => show Dr.Kept b w1 w3 ∧ Dr.Bu (b + 1) (b + 1) bs w3 ∧ Dr.Tabs w3 from ⟨hK.trans hK1,hBu.kept hK1 hbB,Dr.tabs_kept HNE.out.1 HNE.out.2.1 HNE.out.2.2 (hK.trans hK1)⟩);have HK := Lib.hid hK;clear hA hK hBu hSy hbl hTr hAle HZ hq hend hs HX hnoA hsyA;rcases hgo with ⟨rfl,hg⟩ | ⟨rfl,hg⟩ | ⟨rfl,hg⟩;all_goals
     cases hn : Dr.next l' with
     | none =>
       have KF := KF hn;have HE0 := Lib.hid (fun (w3 : World) (hb1 : Below wr.heap.size wr w3) => HX1.out (HNO.out hn) w3 (HK.out.trans (Dr.Kept.of_below hb1)));clear hn HNO HSYA HG HX1 HBL HW1 KN;go_wp2_with fail;refine KF.mono ?_;rintro x w3 ⟨rfl,hb1⟩;have HE := Lib.hid (HE0.out w3 hb1);clear HE0 hb1;unfold Dr.dead at *;go_wp2_with fail;exact ⟨rfl,HE.out⟩
     | some x =>
       obtain ⟨c,r⟩ := x;have KN := KN c r hn;have hok := Dr.next_ok32 hn;have hsy := HSYA.out c r hn;clear hn KF HNO HSYA;by_cases h92 : c = 92
       · rw [if_pos h92] at hsy;subst h92;cases hn2 : Dr.next r with
         | none =>
           rw [hn2] at hsy;have HSY := Lib.hid (show Dr.sym1 _ l' = none from hsy);have HE0 := Lib.hid (fun (W : World) (hK2 : Dr.Kept b w1 W) => HX1.out HSY.out W hK2);clear hsy HG HX1 HSY HBL;go_wp2_with fail;refine KN.mono ?_;rintro x w3 ⟨rfl,hA1,hK1⟩;obtain ⟨hK2,hB2,hT2⟩ := HW1.out r w3 hA1 hK1;have KP := Lib.hid (Dr.next_none b S r false w3 hA1 hn2 hT2);have HE1 := Lib.hid (fun (w4 : World) (hb4 : Below w3.heap.size w3 w4) => HE0.out w4 (hK2.trans (Dr.Kept.of_below hb4)));clear hA1 hK1 hK2 hB2 hT2 HE0 HW1 hn2;go_wp2_with fail;refine KP.out.mono ?_;rintro x w4 ⟨rfl,hb4⟩;have HE := Lib.hid (HE1.out w4 hb4);clear HE1 hb4 KP;unfold Dr.dead at *;go_wp2_with fail;exact ⟨rfl,HE.out⟩
         | some x2 =>
           obtain ⟨c2,r2⟩ := x2;rw [hn2] at hsy;have hsy1 : Dr.sym1 _ l' = if c2 = 120 then (match Dr.esc r2 with | none => none | some (d,r3) => some (Lib.encodeRune d,r3)) else none := hsy;clear hsy;have KN2 := Lib.hid (fun (w3 : World) (hA1 : Dr.At b S r false w3) (hT2 : Dr.Tabs w3) => Dr.next_ok b S r false c2 r2 w3 hA1 hsz hn2 hT2);by_cases h120 : c2 = 120
           · rw [if_pos h120] at hsy1;subst h120;cases hE : Dr.esc r2 with
             | none =>
               rw [hE] at hsy1;have HSY := Lib.hid (show Dr.sym1 _ l' = none from hsy1);have KE := Lib.hid (fun (w4 : World) (hA2 : Dr.At b S r2 false w4) (hT3 : Dr.Tabs w4) => show Calls Tryz.prog 68 #[.pointer (some ⟨b,0,none⟩)] w4 (fun e w' => Dr.PostE b S false w4 none e w') from hE ▸ Dr.escape_any b S false r2 w4 hA2 hsz hT3);have HE0 := Lib.hid (fun (W : World) (hK2 : Dr.Kept b w1 W) => HX1.out HSY.out W hK2);clear hsy1 HG HX1 HSY HBL hE hn2;go_wp2_with fail;refine KN.mono ?_;rintro x w3 ⟨rfl,hA1,hK1⟩;obtain ⟨hK2,hB2,hT2⟩ := HW1.out r w3 hA1 hK1;have KP := Lib.hid (KN2.out w3 hA1 hT2);have HE1 := Lib.hid (fun (w4 : World) (hA2 : Dr.At b S r2 false w4) (hK4 : Dr.Kept b w3 w4) => And.intro (KE.out w4 hA2 (Dr.tabs_kept HNE.out.1 HNE.out.2.1 HNE.out.2.2 (hK2.trans hK4))) (fun (w5 : World) (hK5 : Dr.Kept b w4 w5) => HE0.out w5 ((hK2.trans hK4).trans hK5)));clear hA1 hK1 hK2 hB2 hT2 HE0 HW1 KE KN2;go_wp2_with fail;refine KP.out.mono ?_;rintro x w4 ⟨rfl,hA2,hK4⟩;obtain ⟨KE1,HE2⟩ := HE1.out w4 hA2 hK4;have KE2 := Lib.hid KE1;have HE3 := Lib.hid HE2;clear HE1 hA2 hK4 KP KE1 HE2;go_wp2_with fail;refine KE2.out.mono ?_;rintro x w5 ⟨rfl,hK5⟩;have HE := Lib.hid (HE3.out w5 hK5);clear HE3 hK5 KE2;unfold Dr.dead at *;go_wp2_with fail;exact ⟨rfl,HE.out⟩
             | some x3 =>
               obtain ⟨d,r3⟩ := x3;rw [hE] at hsy1;have HSY := Lib.hid (show Dr.sym1 _ l' = some (Lib.encodeRune d,r3) from hsy1);have hokd := Dr.esc_ok hE;have KE := Lib.hid (fun (w4 : World) (hA2 : Dr.At b S r2 false w4) (hT3 : Dr.Tabs w4) => show Calls Tryz.prog 68 #[.pointer (some ⟨b,0,none⟩)] w4 (fun e w' => Dr.PostE b S false w4 (some (d,r3)) e w') from hE ▸ Dr.escape_any b S false r2 w4 hA2 hsz hT3);have HE0 := Lib.hid (fun (w3 W : World) (hA1 : Dr.At b S r3 false w3) (hK2 : Dr.Kept b w1 w3) (hb : Below (b + 1) w3 W) (hBW : Dr.Bu (b + 1) (b + 1) (bs ++ Lib.encodeRune d) W) => HG.out _ _ HSY.out (Ru.encode_length d).2 W (hA1.belowB hb hbB) (HBL.out w3 W hK2 hb) hBW);clear hsy1 HG HX1 HSY HBL hE hn2;go_wp2_with fail;refine KN.mono ?_;rintro x w3 ⟨rfl,hA1,hK1⟩;obtain ⟨hK2,hB2,hT2⟩ := HW1.out r w3 hA1 hK1;have KP := Lib.hid (KN2.out w3 hA1 hT2);have HE1 := Lib.hid (fun (w4 : World) (hA2 : Dr.At b S r2 false w4) (hK4 : Dr.Kept b w3 w4) => And.intro (KE.out w4 hA2 (Dr.tabs_kept HNE.out.1 HNE.out.2.1 HNE.out.2.2 (hK2.trans hK4))) (fun (w5 : World) (hA5 : Dr.At b S r3 false w5) (hK5 : Dr.Kept b w4 w5) => And.intro ((hB2.kept hK4 hbB).kept hK5 hbB) (fun W => HE0.out w5 W hA5 ((hK2.trans hK4).trans hK5))));clear hA1 hK1 hK2 hB2 hT2 HE0 HW1 KE KN2;go_wp2_with fail;refine KP.out.mono ?_;rintro x w4 ⟨rfl,hA2,hK4⟩;obtain ⟨KE1,HE2⟩ := HE1.out w4 hA2 hK4;have KE2 := Lib.hid KE1;have HE3 := Lib.hid HE2;clear HE1 hA2 hK4 KP KE1 HE2;go_wp2_with fail
               refine KE2.out.mono ?_;rintro x w5 ⟨rfl,hA5,hK5⟩;obtain ⟨hB5,HE4⟩ := HE3.out w5 hA5 hK5;have HE5 := Lib.hid HE4;have KW := Lib.hid (hB5.rune d hokd hb41);clear HE3 hA5 hK5 KE2 hB5 HE4;go_wp2_with fail;refine KW.out.mono ?_;rintro x w6 ⟨n,rfl,hB6,hb6⟩;have HE := Lib.hid (HE5.out w6 hb6 hB6);clear HE5 hB6 hb6 KW;go_wp2_with fail;exact HE.out
           · rw [if_neg h120] at hsy1;have e120 : (c2 != 120) = true := bne_iff_ne.2 h120;have HSY := Lib.hid hsy1;have HE0 := Lib.hid (fun (W : World) (hK2 : Dr.Kept b w1 W) => HX1.out HSY.out W hK2);clear hsy1 HG HX1 HSY HBL hn2 h120;go_wp2_with fail;refine KN.mono ?_;rintro x w3 ⟨rfl,hA1,hK1⟩;obtain ⟨hK2,hB2,hT2⟩ := HW1.out r w3 hA1 hK1;have KP := Lib.hid (KN2.out w3 hA1 hT2);have HE1 := Lib.hid (fun (w4 : World) (hK4 : Dr.Kept b w3 w4) => HE0.out w4 (hK2.trans hK4));clear hA1 hK1 hK2 hB2 hT2 HE0 HW1 KN2;go_wp2_with fail;refine KP.out.mono ?_;rintro x w4 ⟨rfl,hA2,hK4⟩;have HE := Lib.hid (HE1.out w4 hK4);clear HE1 hA2 hK4 KP;go_wp2_with fail;refine (Dr.stop_any _ _).mono ?_;rintro x w6 ⟨rfl,hw6⟩;subst hw6;unfold Dr.dead at *;go_wp2_with fail;exact ⟨rfl,HE.out⟩
       have e92 : (c == 92) = false := beq_eq_false_iff_ne.2 h92;rw [if_neg h92] at hsy;have KR := fun w' => Wt.Rest_any c hok w';have KQ := fun w' => Wt.First_any c hok w';cases hr : Wt.restB c;all_goals
        cases hf : Wt.firstB c;all_goals
         rw [hr] at KR;rw [hf] at KQ;have HSY := Lib.hid hsy;rw [hr,hf] at HSY;have KR1 := Lib.hid KR;have KQ1 := Lib.hid KQ;clear KR KQ;simp only [Bool.true_and,Bool.false_and,Bool.not_true,Bool.not_false,Bool.or_true,Bool.or_false,Bool.true_or,Bool.false_or,if_true,if_false,Bool.false_eq_true] at HSY;clear hsy hr hf;first
          | (have HE0 := Lib.hid (fun (W : World) (hK2 : Dr.Kept b w1 W) => HX1.out HSY.out W hK2)
             clear HG HX1 HSY HBL
             go_wp2_with fail
             refine KN.mono ?_
             rintro x w3 ⟨rfl,hA1,hK1⟩
             obtain ⟨hK2,hB2,hT2⟩ := HW1.out r w3 hA1 hK1
             have HK2 := Lib.hid hK2
             clear hA1 hK1 hB2 hT2 HW1 hK2
             go_wp2_with fail
             first
              | (refine (KQ1.out _).mono ?_
                 rintro x w4 ⟨rfl,hb4⟩
                 have HK3 := Lib.hid (HK2.out.trans (Dr.Kept.of_below hb4))
                 clear hb4 HK2
                 go_wp2_with fail
                 first
                  | (refine (KR1.out _).mono ?_
                     rintro x w5 ⟨rfl,hb5⟩
                     have HE := Lib.hid (HE0.out w5 (HK3.out.trans (Dr.Kept.of_below hb5)))
                     clear hb5 HE0
                     go_wp2_with fail
                     refine (Dr.stop_any _ _).mono ?_
                     rintro x w6 ⟨rfl,hw6⟩
                     subst hw6
                     unfold Dr.dead at *
                     go_wp2_with fail
                     exact ⟨rfl,HE.out⟩)
                  | (have HE := Lib.hid (HE0.out w4 HK3.out)
                     clear HE0
                     refine (Dr.stop_any _ _).mono ?_
                     rintro x w6 ⟨rfl,hw6⟩
                     subst hw6
                     unfold Dr.dead at *
                     go_wp2_with fail
                     exact ⟨rfl,HE.out⟩))
              | (refine (KR1.out _).mono ?_
                 rintro x w5 ⟨rfl,hb5⟩
                 have HE := Lib.hid (HE0.out w5 (HK2.out.trans (Dr.Kept.of_below hb5)))
                 clear hb5 HE0
                 go_wp2_with fail
                 refine (Dr.stop_any _ _).mono ?_
                 rintro x w6 ⟨rfl,hw6⟩
                 subst hw6
                 unfold Dr.dead at *
                 go_wp2_with fail
                 exact ⟨rfl,HE.out⟩))
          | (have HE0 := Lib.hid (fun (w3 W : World) (hA1 : Dr.At b S r false w3) (hK2 : Dr.Kept b w1 w3) (hb : Below (b + 1) w3 W) (hBW : Dr.Bu (b + 1) (b + 1) (bs ++ Lib.encodeRune c) W) => HG.out _ _ HSY.out (Ru.encode_length c).2 W (hA1.belowB hb hbB) (HBL.out w3 W hK2 hb) hBW)
             clear HG HX1 HSY HBL
             go_wp2_with fail
             refine KN.mono ?_
             rintro x w3 ⟨rfl,hA1,hK1⟩
             obtain ⟨hK2,hB2,hT2⟩ := HW1.out r w3 hA1 hK1
             have HK2 := Lib.hid (show Dr.At b S r false w3 ∧ Dr.Kept b w1 w3 ∧ Dr.Bu (b + 1) (b + 1) bs w3 from ⟨hA1,hK2,hB2⟩)
             clear hA1 hK1 hB2 hT2 HW1 hK2
             go_wp2_with fail
             first
              | (refine (KQ1.out _).mono ?_
                 rintro x w4 ⟨rfl,hb4⟩
                 have HK3 := Lib.hid (show Dr.At b S r false w4 ∧ Dr.Kept b w1 w4 ∧ Dr.Bu (b + 1) (b + 1) bs w4 from ⟨HK2.out.1.below hb4,HK2.out.2.1.trans (Dr.Kept.of_below hb4),HK2.out.2.2.kept (Dr.Kept.of_below (b := b) hb4) hbB⟩)
                 clear hb4 HK2
                 go_wp2_with fail)
              | (have HK3 := HK2; clear HK2)
             refine (KR1.out _).mono ?_
             rintro x w5 ⟨rfl,hb5⟩
             obtain ⟨hA5,hK5,hB5⟩ := HK3.out
             have KW := Lib.hid ((hB5.kept (Dr.Kept.of_below (b := b) hb5) hbB).rune c hok hb41)
             have HE1 := Lib.hid (fun W => HE0.out w5 W (hA5.below hb5) (hK5.trans (Dr.Kept.of_below hb5)))
             clear hb5 HK3 HE0 hA5 hK5 hB5 KR1 KQ1
             go_wp2_with fail
             refine KW.out.mono ?_
             rintro x w6 ⟨n,rfl,hB6,hb6⟩
             have HE := Lib.hid (HE1.out w6 hb6 hB6)
             clear HE1 hB6 hb6 KW
             go_wp2_with fail
             exact HE.out)
 · have HK0 := Lib.hid (show Dr.SyR b S w1 R (.bool true) w2 from
    ⟨true,_,[],rfl,hA2,hK2,hB2,hSt.2 hpre,by simp⟩)
   have KH1 : ∀ w',Calls Tryz.prog 35 #[.string S,.string ⟨#[45,62]⟩] w' fun e w'' => e = .returned (.bool false) ∧ w'' = w' := fun w' => by
    refine (KH.out w').mono ?_;rintro e w'' ⟨rfl,rfl⟩;exact ⟨congrArg (fun x => Ending.returned (Value.bool x)) (decide_eq_false hpre),rfl⟩
   have KH2 := Lib.hid KH1;clear KH1;clear hSt hpre hA1 hA2 hK2 hB2 hal hT1 hbw1 hlen hR KH;go_enter Tryz.func75,Tryz.ntmps75;go_wp2_with (first | (go_at_call 35; refine (KH2.out _).mono ?_; rintro x w' ⟨rfl,hw'⟩; subst hw'));clear KH2;go_loopw [7] (fun v wr => Dr.SyR b S w1 R v wr) (fun _ wr => Dr.left b S wr);case atStart => exact HK0.out
   case round =>
    unfold Dr.SyR at hrel;obtain ⟨first,l',bs,rfl,hA,hK,hBu,hSy,hbl⟩ := hrel;clear HK0;have hTr : Dr.Tabs wr := Dr.tabs_kept HNE.out.1 HNE.out.2.1 HNE.out.2.2 hK;have hAle := hA.le;have hb41 : bs.length ≤ 4194304 := by omega
    obtain ⟨c0,c1,c2⟩ := hA.cells;obtain ⟨q,hq⟩ : ∃ z,S.size - l'.length = z := ⟨_,rfl⟩;rw [hq] at c1;have hq0 : 0 ≤ (q : Int) := by omega
    have HG := Lib.hid (fun (bts r3 : List UInt8) (hstep : Dr.sym1 first l' = some (bts,r3)) (hb4 : bts.length ≤ 4) (W : World) (hAt : Dr.At b S r3 false W) (hK2 : Dr.Kept b w1 W) (hB2 : Dr.Bu (b + 1) (b + 1) (bs ++ bts) W) =>
      show Dr.SyR b S w1 R (.bool false) W ∧ Dr.left b S W < Dr.left b S wr from by
       have hlt := Dr.sym1_lt hstep
       exact ⟨⟨false,r3,bs ++ bts,rfl,hAt,hK2,hB2,hSy.step hstep,by rw [List.length_append]; omega⟩,by rw [hAt.left,hA.left]; exact hlt⟩)
    have HX := Lib.hid (fun (hne : ¬ (l' = [] ∧ first = false)) (hno : Dr.sym1 first l' = none) (W : World) (hK2 : Dr.Kept b w1 W) => show Dr.PostS w R Dr.dead W from (HEND.out W hK2).1 (hSy.dead hne hno));have HZ := Lib.hid (fun (hl0 : l' = []) (hf0 : first = false) (W : World) (hK2 : Dr.Kept b w1 W) => show Dr.PostS w R (.returned (.string ⟨bs.toArray⟩)) W from (HEND.out W hK2).2 bs (by subst hl0 hf0; exact hSy.stop));have HBL := Lib.hid (fun (wa W : World) (hK1 : Dr.Kept b w1 wa) (hb : Below (b + 1) wa W) => show Dr.Kept b w1 W from hK1.belowB (by rw [hz1]; exact hb));by_cases hend : l' = [] ∧ first = false
    · obtain ⟨hl0,hf0⟩ := hend;have hqe : q = S.size := by rw [← hq,hl0]; rfl
      have KW := Lib.hid hBu.string;have HE0 := Lib.hid (fun (W : World) (hb : Below (b + 1) wr W) => HZ.out hl0 hf0 W (HBL.out wr W hK hb));subst hf0 hqe;clear hA hK hBu hSy hbl hTr hAle hb41 HG HX HZ HBL hq;go_wp2_with fail;refine KW.out.mono ?_;rintro x w3 ⟨rfl,hb3⟩;have HE := Lib.hid (HE0.out w3 hb3);clear HE0 hb3 KW;go_wp2_with fail;go_ret;exact HE.out
    have hgo : (first = true ∧ decide (q < S.size) = false) ∨ (first = true ∧ decide (q < S.size) = true) ∨ (first = false ∧ decide (q < S.size) = true) := by
     cases hf : first with
     | true => cases decide (q < S.size) <;> simp
     | false =>
       refine .inr (.inr ⟨rfl,decide_eq_true ?_⟩);have : l' ≠ [] := fun e => hend ⟨e,hf⟩;have := List.length_pos_iff.2 this;omega
    have HX1 := Lib.hid (fun hno W hK2 => HX.out hend hno W hK2);have hnoA : Dr.next l' = none → Dr.sym1 first l' = none := fun hn => by unfold Dr.sym1; rw [hn]
    have hsyA : ∀ c r,Dr.next l' = some (c,r) → Dr.sym1 first l' = if c = 92 then
     (match Dr.next r with
     | none => none
     | some (c2,r2) => if c2 = 120 then (match Dr.esc r2 with | none => none | some (d,r3) => some (Lib.encodeRune d,r3)) else none)
     else if ((first && !Wt.firstB c) || !Wt.restB c) = true then none else some (Lib.encodeRune c,r) := fun c r hn => by unfold Dr.sym1; rw [hn]; rfl
    have HNO := Lib.hid hnoA;have HSYA := Lib.hid hsyA;have KF := fun hn => Dr.next_none b S l' false wr hA hn hTr;have KN := fun c r hn => Dr.next_ok b S l' false c r wr hA hsz hn hTr;have HW1 := Lib.hid (fun (r : List UInt8) (w3 : World) (hA1 : Dr.At b S r false w3) (hK1 : Dr.Kept b wr w3) => show Dr.Kept b w1 w3 ∧ Dr.Bu (b + 1) (b + 1) bs w3 ∧ Dr.Tabs w3 from ⟨hK.trans hK1,hBu.kept hK1 hbB,Dr.tabs_kept HNE.out.1 HNE.out.2.1 HNE.out.2.2 (hK.trans hK1)⟩);have HK := Lib.hid hK;clear hA hK hBu hSy hbl hTr hAle HZ hq hend hs HX hnoA hsyA;rcases hgo with ⟨rfl,hg⟩ | ⟨rfl,hg⟩ | ⟨rfl,hg⟩;all_goals
     cases hn : Dr.next l' with
     | none =>
       have KF := KF hn;have HE0 := Lib.hid (fun (w3 : World) (hb1 : Below wr.heap.size wr w3) => HX1.out (HNO.out hn) w3 (HK.out.trans (Dr.Kept.of_below hb1)));clear hn HNO HSYA HG HX1 HBL HW1 KN;go_wp2_with fail;refine KF.mono ?_;rintro x w3 ⟨rfl,hb1⟩;have HE := Lib.hid (HE0.out w3 hb1);clear HE0 hb1;unfold Dr.dead at *;go_wp2_with fail;exact ⟨rfl,HE.out⟩
     | some x =>
       obtain ⟨c,r⟩ := x;have KN := KN c r hn;have hok := Dr.next_ok32 hn;have hsy := HSYA.out c r hn;clear hn KF HNO HSYA;by_cases h92 : c = 92
       · rw [if_pos h92] at hsy;subst h92;cases hn2 : Dr.next r with
         | none =>
           rw [hn2] at hsy;have HSY := Lib.hid (show Dr.sym1 _ l' = none from hsy);have HE0 := Lib.hid (fun (W : World) (hK2 : Dr.Kept b w1 W) => HX1.out HSY.out W hK2);clear hsy HG HX1 HSY HBL;go_wp2_with fail;refine KN.mono ?_;rintro x w3 ⟨rfl,hA1,hK1⟩;obtain ⟨hK2,hB2,hT2⟩ := HW1.out r w3 hA1 hK1;have KP := Lib.hid (Dr.next_none b S r false w3 hA1 hn2 hT2);have HE1 := Lib.hid (fun (w4 : World) (hb4 : Below w3.heap.size w3 w4) => HE0.out w4 (hK2.trans (Dr.Kept.of_below hb4)));clear hA1 hK1 hK2 hB2 hT2 HE0 HW1 hn2;go_wp2_with fail;refine KP.out.mono ?_;rintro x w4 ⟨rfl,hb4⟩;have HE := Lib.hid (HE1.out w4 hb4);clear HE1 hb4 KP;unfold Dr.dead at *;go_wp2_with fail;exact ⟨rfl,HE.out⟩
         | some x2 =>
           obtain ⟨c2,r2⟩ := x2;rw [hn2] at hsy;have hsy1 : Dr.sym1 _ l' = if c2 = 120 then (match Dr.esc r2 with | none => none | some (d,r3) => some (Lib.encodeRune d,r3)) else none := hsy;clear hsy;have KN2 := Lib.hid (fun (w3 : World) (hA1 : Dr.At b S r false w3) (hT2 : Dr.Tabs w3) => Dr.next_ok b S r false c2 r2 w3 hA1 hsz hn2 hT2);by_cases h120 : c2 = 120
           · rw [if_pos h120] at hsy1;subst h120;cases hE : Dr.esc r2 with
             | none =>
               rw [hE] at hsy1;have HSY := Lib.hid (show Dr.sym1 _ l' = none from hsy1);have KE := Lib.hid (fun (w4 : World) (hA2 : Dr.At b S r2 false w4) (hT3 : Dr.Tabs w4) => show Calls Tryz.prog 68 #[.pointer (some ⟨b,0,none⟩)] w4 (fun e w' => Dr.PostE b S false w4 none e w') from hE ▸ Dr.escape_any b S false r2 w4 hA2 hsz hT3);have HE0 := Lib.hid (fun (W : World) (hK2 : Dr.Kept b w1 W) => HX1.out HSY.out W hK2);clear hsy1 HG HX1 HSY HBL hE hn2;go_wp2_with fail;refine KN.mono ?_;rintro x w3 ⟨rfl,hA1,hK1⟩;obtain ⟨hK2,hB2,hT2⟩ := HW1.out r w3 hA1 hK1;have KP := Lib.hid (KN2.out w3 hA1 hT2);have HE1 := Lib.hid (fun (w4 : World) (hA2 : Dr.At b S r2 false w4) (hK4 : Dr.Kept b w3 w4) => And.intro (KE.out w4 hA2 (Dr.tabs_kept HNE.out.1 HNE.out.2.1 HNE.out.2.2 (hK2.trans hK4))) (fun (w5 : World) (hK5 : Dr.Kept b w4 w5) => HE0.out w5 ((hK2.trans hK4).trans hK5)));clear hA1 hK1 hK2 hB2 hT2 HE0 HW1 KE KN2;go_wp2_with fail;refine KP.out.mono ?_;rintro x w4 ⟨rfl,hA2,hK4⟩;obtain ⟨KE1,HE2⟩ := HE1.out w4 hA2 hK4;have KE2 := Lib.hid KE1;have HE3 := Lib.hid HE2;clear HE1 hA2 hK4 KP KE1 HE2;go_wp2_with fail;refine KE2.out.mono ?_;rintro x w5 ⟨rfl,hK5⟩;have HE := Lib.hid (HE3.out w5 hK5);clear HE3 hK5 KE2;unfold Dr.dead at *;go_wp2_with fail;exact ⟨rfl,HE.out⟩
             | some x3 =>
               obtain ⟨d,r3⟩ := x3;rw [hE] at hsy1;have HSY := Lib.hid (show Dr.sym1 _ l' = some (Lib.encodeRune d,r3) from hsy1);have hokd := Dr.esc_ok hE;have KE := Lib.hid (fun (w4 : World) (hA2 : Dr.At b S r2 false w4) (hT3 : Dr.Tabs w4) => show Calls Tryz.prog 68 #[.pointer (some ⟨b,0,none⟩)] w4 (fun e w' => Dr.PostE b S false w4 (some (d,r3)) e w') from hE ▸ Dr.escape_any b S false r2 w4 hA2 hsz hT3);have HE0 := Lib.hid (fun (w3 W : World) (hA1 : Dr.At b S r3 false w3) (hK2 : Dr.Kept b w1 w3) (hb : Below (b + 1) w3 W) (hBW : Dr.Bu (b + 1) (b + 1) (bs ++ Lib.encodeRune d) W) => HG.out _ _ HSY.out (Ru.encode_length d).2 W (hA1.belowB hb hbB) (HBL.out w3 W hK2 hb) hBW);clear hsy1 HG HX1 HSY HBL hE hn2;go_wp2_with fail;refine KN.mono ?_;rintro x w3 ⟨rfl,hA1,hK1⟩;obtain ⟨hK2,hB2,hT2⟩ := HW1.out r w3 hA1 hK1;have KP := Lib.hid (KN2.out w3 hA1 hT2);have HE1 := Lib.hid (fun (w4 : World) (hA2 : Dr.At b S r2 false w4) (hK4 : Dr.Kept b w3 w4) => And.intro (KE.out w4 hA2 (Dr.tabs_kept HNE.out.1 HNE.out.2.1 HNE.out.2.2 (hK2.trans hK4))) (fun (w5 : World) (hA5 : Dr.At b S r3 false w5) (hK5 : Dr.Kept b w4 w5) => And.intro ((hB2.kept hK4 hbB).kept hK5 hbB) (fun W => HE0.out w5 W hA5 ((hK2.trans hK4).trans hK5))));clear hA1 hK1 hK2 hB2 hT2 HE0 HW1 KE KN2;go_wp2_with fail;refine KP.out.mono ?_;rintro x w4 ⟨rfl,hA2,hK4⟩;obtain ⟨KE1,HE2⟩ := HE1.out w4 hA2 hK4;have KE2 := Lib.hid KE1;have HE3 := Lib.hid HE2;clear HE1 hA2 hK4 KP KE1 HE2;go_wp2_with fail
               refine KE2.out.mono ?_;rintro x w5 ⟨rfl,hA5,hK5⟩;obtain ⟨hB5,HE4⟩ := HE3.out w5 hA5 hK5;have HE5 := Lib.hid HE4;have KW := Lib.hid (hB5.rune d hokd hb41);clear HE3 hA5 hK5 KE2 hB5 HE4;go_wp2_with fail;refine KW.out.mono ?_;rintro x w6 ⟨n,rfl,hB6,hb6⟩;have HE := Lib.hid (HE5.out w6 hb6 hB6);clear HE5 hB6 hb6 KW;go_wp2_with fail;exact HE.out
           · rw [if_neg h120] at hsy1;have e120 : (c2 != 120) = true := bne_iff_ne.2 h120;have HSY := Lib.hid hsy1;have HE0 := Lib.hid (fun (W : World) (hK2 : Dr.Kept b w1 W) => HX1.out HSY.out W hK2);clear hsy1 HG HX1 HSY HBL hn2 h120;go_wp2_with fail;refine KN.mono ?_;rintro x w3 ⟨rfl,hA1,hK1⟩;obtain ⟨hK2,hB2,hT2⟩ := HW1.out r w3 hA1 hK1;have KP := Lib.hid (KN2.out w3 hA1 hT2);have HE1 := Lib.hid (fun (w4 : World) (hK4 : Dr.Kept b w3 w4) => HE0.out w4 (hK2.trans hK4));clear hA1 hK1 hK2 hB2 hT2 HE0 HW1 KN2;go_wp2_with fail;refine KP.out.mono ?_;rintro x w4 ⟨rfl,hA2,hK4⟩;have HE := Lib.hid (HE1.out w4 hK4);clear HE1 hA2 hK4 KP;go_wp2_with fail;refine (Dr.stop_any _ _).mono ?_;rintro x w6 ⟨rfl,hw6⟩;subst hw6;unfold Dr.dead at *;go_wp2_with fail;exact ⟨rfl,HE.out⟩
       have e92 : (c == 92) = false := beq_eq_false_iff_ne.2 h92;rw [if_neg h92] at hsy;have KR := fun w' => Wt.Rest_any c hok w';have KQ := fun w' => Wt.First_any c hok w';cases hr : Wt.restB c;all_goals
        cases hf : Wt.firstB c;all_goals
         rw [hr] at KR;rw [hf] at KQ;have HSY := Lib.hid hsy;rw [hr,hf] at HSY;have KR1 := Lib.hid KR;have KQ1 := Lib.hid KQ;clear KR KQ;simp only [Bool.true_and,Bool.false_and,Bool.not_true,Bool.not_false,Bool.or_true,Bool.or_false,Bool.true_or,Bool.false_or,if_true,if_false,Bool.false_eq_true] at HSY;clear hsy hr hf;first
          | (have HE0 := Lib.hid (fun (W : World) (hK2 : Dr.Kept b w1 W) => HX1.out HSY.out W hK2)
             clear HG HX1 HSY HBL
             go_wp2_with fail
             refine KN.mono ?_
             rintro x w3 ⟨rfl,hA1,hK1⟩
             obtain ⟨hK2,hB2,hT2⟩ := HW1.out r w3 hA1 hK1
             have HK2 := Lib.hid hK2
             clear hA1 hK1 hB2 hT2 HW1 hK2
             go_wp2_with fail
             first
              | (refine (KQ1.out _).mono ?_
                 rintro x w4 ⟨rfl,hb4⟩
                 have HK3 := Lib.hid (HK2.out.trans (Dr.Kept.of_below hb4))
                 clear hb4 HK2
                 go_wp2_with fail
                 first
                  | (refine (KR1.out _).mono ?_
                     rintro x w5 ⟨rfl,hb5⟩
                     have HE := Lib.hid (HE0.out w5 (HK3.out.trans (Dr.Kept.of_below hb5)))
                     clear hb5 HE0
                     go_wp2_with fail
                     refine (Dr.stop_any _ _).mono ?_
                     rintro x w6 ⟨rfl,hw6⟩
                     subst hw6
                     unfold Dr.dead at *
                     go_wp2_with fail
                     exact ⟨rfl,HE.out⟩)
                  | (have HE := Lib.hid (HE0.out w4 HK3.out)
                     clear HE0
                     refine (Dr.stop_any _ _).mono ?_
                     rintro x w6 ⟨rfl,hw6⟩
                     subst hw6
                     unfold Dr.dead at *
                     go_wp2_with fail
                     exact ⟨rfl,HE.out⟩))
              | (refine (KR1.out _).mono ?_
                 rintro x w5 ⟨rfl,hb5⟩
                 have HE := Lib.hid (HE0.out w5 (HK2.out.trans (Dr.Kept.of_below hb5)))
                 clear hb5 HE0
                 go_wp2_with fail
                 refine (Dr.stop_any _ _).mono ?_
                 rintro x w6 ⟨rfl,hw6⟩
                 subst hw6
                 unfold Dr.dead at *
                 go_wp2_with fail
                 exact ⟨rfl,HE.out⟩))
          | (have HE0 := Lib.hid (fun (w3 W : World) (hA1 : Dr.At b S r false w3) (hK2 : Dr.Kept b w1 w3) (hb : Below (b + 1) w3 W) (hBW : Dr.Bu (b + 1) (b + 1) (bs ++ Lib.encodeRune c) W) => HG.out _ _ HSY.out (Ru.encode_length c).2 W (hA1.belowB hb hbB) (HBL.out w3 W hK2 hb) hBW)
             clear HG HX1 HSY HBL
             go_wp2_with fail
             refine KN.mono ?_
             rintro x w3 ⟨rfl,hA1,hK1⟩
             obtain ⟨hK2,hB2,hT2⟩ := HW1.out r w3 hA1 hK1
             have HK2 := Lib.hid (show Dr.At b S r false w3 ∧ Dr.Kept b w1 w3 ∧ Dr.Bu (b + 1) (b + 1) bs w3 from ⟨hA1,hK2,hB2⟩)
             clear hA1 hK1 hB2 hT2 HW1 hK2
             go_wp2_with fail
             first
              | (refine (KQ1.out _).mono ?_
                 rintro x w4 ⟨rfl,hb4⟩
                 have HK3 := Lib.hid (show Dr.At b S r false w4 ∧ Dr.Kept b w1 w4 ∧ Dr.Bu (b + 1) (b + 1) bs w4 from ⟨HK2.out.1.below hb4,HK2.out.2.1.trans (Dr.Kept.of_below hb4),HK2.out.2.2.kept (Dr.Kept.of_below (b := b) hb4) hbB⟩)
                 clear hb4 HK2
                 go_wp2_with fail)
              | (have HK3 := HK2; clear HK2)
             refine (KR1.out _).mono ?_
             rintro x w5 ⟨rfl,hb5⟩
             obtain ⟨hA5,hK5,hB5⟩ := HK3.out
             have KW := Lib.hid ((hB5.kept (Dr.Kept.of_below (b := b) hb5) hbB).rune c hok hb41)
             have HE1 := Lib.hid (fun W => HE0.out w5 W (hA5.below hb5) (hK5.trans (Dr.Kept.of_below hb5)))
             clear hb5 HK3 HE0 hA5 hK5 hB5 KR1 KQ1
             go_wp2_with fail
             refine KW.out.mono ?_
             rintro x w6 ⟨n,rfl,hB6,hb6⟩
             have HE := Lib.hid (HE1.out w6 hb6 hB6)
             clear HE1 hB6 hb6 KW
             go_wp2_with fail
             exact HE.out)
theorem Tr.On.top {w : World} {S : Nat → Prop} {v : Value} {ws : List Nat} (i : Nt.In w v ws) (o : Tr.On S v ws.length) : Tr.On (fun q => S q ∧ q < w.heap.size) v ws.length := by
 rcases i with ⟨_,e⟩ | ⟨_,_,_,e⟩ | ⟨h0,b,off,cap,hv,_,hl,_⟩
 · rw [e]; exact fun h => absurd h (Nat.lt_irrefl 0)
 · rw [e]; exact fun h => absurd h (Nat.lt_irrefl 0)
 · intro _ b' off' l' c' e;rw [hv] at e;cases e;exact ⟨o h0 _ _ _ _ hv,hl⟩
theorem Tr.On.topB {w : World} {S : Nat → Prop} {v : Value} {s : ByteArray} (i : By.In w v s) (o : Tr.On S v s.size) : Tr.On (fun q => S q ∧ q < w.heap.size) v s.size := by
 rcases i with ⟨_,e⟩ | ⟨_,_,_,e⟩ | ⟨h0,b,off,cap,hv,_,hl,_⟩
 · rw [e]; exact fun h => absurd h (Nat.lt_irrefl 0)
 · rw [e]; exact fun h => absurd h (Nat.lt_irrefl 0)
 · intro _ b' off' l' c' e;rw [hv] at e;cases e;exact ⟨o h0 _ _ _ _ hv,hl⟩
theorem Tr.Hd.In.top {w : World} {S : Nat → Prop} {h : Tr.Hd} {v3 v4 v6 v7 v9 : Value} (i : Tr.Hd.In w S h v3 v4 v6 v7 v9) : Tr.Hd.In w (fun q => S q ∧ q < w.heap.size) h v3 v4 v6 v7 v9 :=
 ⟨i.ok,i.i3,i.i4,i.i6,i.i7,i.i9,Tr.On.top i.i3 i.o3,Tr.On.top i.i4 i.o4,Tr.On.top i.i6 i.o6,Tr.On.top i.i7 i.o7,Tr.On.topB i.i9 i.o9⟩
mutual
theorem Tr.In.top {w : World} {S : Nat → Prop} : ∀ (t : Tr) (v : Value),Tr.In w S t v → Tr.In w (fun q => S q ∧ q < w.heap.size) t v
 | .mk h l,v,hI => by
   rw [Tr.In_mk] at hI ⊢;obtain ⟨v3,v4,v6,v7,v9,v10,e,hH,hL⟩ := hI;refine ⟨v3,v4,v6,v7,v9,v10,e,hH.top,?_⟩;rcases hL with h0 | h0 | ⟨h0,b,off,cap,hv,h1,h2,h3,h4,h5⟩
   · exact .inl h0
   · exact .inr (.inl h0)
   · exact .inr (.inr ⟨h0,b,off,cap,hv,h1,h2,h3,⟨h4,h3⟩,Tr.All.top l b off h5⟩)
theorem Tr.All.top {w : World} {S : Nat → Prop} : ∀ (l : List Tr) (b off : Nat),Tr.All w S l b off → Tr.All w (fun q => S q ∧ q < w.heap.size) l b off
 | [],_,_,_ => Tr.All_nil
 | t :: ts,b,off,h => by
   rw [Tr.All_cons] at h ⊢;obtain ⟨⟨C,hI,hM⟩,hr⟩ := h;exact ⟨⟨C,Tr.In.top t _ hI,hM⟩,Tr.All.top ts b (off + 11) hr⟩
end
def Tr.Row (B : Nat) (w : World) (v : Value) (l : List Tr) (xs : List Value) : Prop :=
 w.ownsRow B 30 11 v l.length xs ∧ ∀ k t,l[k]? = some t → ∃ C : Array Value,Tr.In w (fun q => B ≤ q ∧ v.ownBlock ≠ some q) t (.agg C) ∧ ∀ j,j < 11 → xs[11 * k + j]? = C[j]?
theorem Tr.Row.nil (B : Nat) (w : World) : Tr.Row B w (.slice none 0 0) [] [] := ⟨World.ownsRow_nil w B _ _,fun k t h => by simp at h⟩
theorem Tr.In.size11 {w : World} {S : Nat → Prop} {t : Tr} {C : Array Value} (h : Tr.In w S t (.agg C)) : C.size = 11 := by
 obtain ⟨_,_,_,_,_,_,_,_,e⟩ := Tr.In.form h;rw [e]; rfl
theorem Tr.Row.lin {B : Nat} {w : World} {v : Value} {l : List Tr} {xs : List Value} (h : Tr.Row B w v l xs) : Tr.LIn w (fun q => B ≤ q) l v := by
 obtain ⟨ho,hall⟩ := h;have hcell := @World.ownsRow.cells w B _ 11 v l.length xs ho;rcases ho.2 with ⟨rfl,h0⟩ | ⟨g,cap,cur,rfl,hbg,hgc,hnc,hcm,hcs,htake⟩
 · exact .inl ⟨rfl,h0⟩
 · rcases Nat.eq_zero_or_pos l.length with h0 | h0
   · exact .inr (.inl ⟨_,_,by rw [h0],h0⟩)
   · refine .inr (.inr ⟨h0,g,0,cap,rfl,hnc,by simp only [maxLen] at hcm; omega,(Array.getElem?_eq_some_iff.1 hgc).1,hbg,Tr.All.of l g 0 (fun k t hk => ?_)⟩);obtain ⟨C,hI,hx⟩ := hall k t hk;refine ⟨C,Tr.In.mono (fun q hq => hq.1) _ _ hI,fun j hj => ?_⟩;have hs := hI.size11;have hu : C[j]? = some C[j] := Array.getElem?_eq_getElem (by omega);refine ⟨C[j],hu,?_⟩;have := hcell (g := g) rfl (11 * k + j) C[j] ((hx j hj).trans hu);have hadd : (⟨g,0,none⟩ : Addr).add (11 * k + j) = ⟨g,11 * k + j,none⟩ := by unfold Addr.add; split <;> simp_all
     rw [hadd] at this;rw [Nat.zero_add];exact this
def Dr.zeroV : Value := .agg #[.int .i64 0,.int .i64 0,.bool false,.slice none 0 0,.slice none 0 0,.bool false,.slice none 0 0,.slice none 0 0,.string ⟨#[]⟩,.slice none 0 0,.slice none 0 0]
theorem Dr.infoD : (Tryz.prog.info? 30).map (fun i => (i.zero,i.size,i.bytes)) = some (some Dr.zeroV,11,192) := by kernel_rfl
theorem Dr.own_slice {w : World} {B sz : Nat} {t : TypeId} {v : Value} {n : Nat} {xs : List Value} (h : w.ownsRow B t sz v n xs) : ∃ a c,v = .slice a n c := by
 rcases h.2 with ⟨rfl,rfl⟩ | ⟨g,cap,cur,hv,_⟩
 · exact ⟨_,_,rfl⟩
 · exact ⟨_,_,hv⟩
theorem Dr.own_kept {w w' : World} {B sz : Nat} {t : TypeId} {v : Value} {n : Nat} {xs : List Value} (h : w.ownsRow B t sz v n xs) (hk : ∀ q,B ≤ q → q < w.heap.size → w'.heap[q]? = w.heap[q]?) : w'.ownsRow B t sz v n xs := by
 refine ⟨h.1,?_⟩;rcases h.2 with hv | ⟨g,cap,cur,hv,hB',hg,rest⟩
 · exact .inl hv
 · have hlt := (Array.getElem?_eq_some_iff.1 hg).1;exact .inr ⟨g,cap,cur,hv,hB',(hk g hB' hlt).trans hg,rest⟩
theorem Dr.row_kept {w w' : World} {B : Nat} {v : Value} {l : List Tr} {xs : List Value} (h : Tr.Row B w v l xs) (hz : w.heap.size ≤ w'.heap.size) (hk : ∀ q,B ≤ q → q < w.heap.size → w'.heap[q]? = w.heap[q]?) : Tr.Row B w' v l xs := by
 refine ⟨Dr.own_kept h.1 hk,fun k t ht => ?_⟩;obtain ⟨C,hI,hx⟩ := h.2 k t ht;exact ⟨C,Tr.In.kept ⟨hz,fun q hq hl => hk q hq.1 hl⟩ _ _ hI,hx⟩
theorem Dr.row_push {B : Nat} {w w1 w2 : World} {v v' : Value} {l : List Tr} {xs : List Value} {t : Tr} {C : Array Value} (h : Tr.Row B w v l xs) (hz : w.heap.size ≤ w1.heap.size) (hk : ∀ q,B ≤ q → q < w.heap.size → w1.heap[q]? = w.heap[q]?) (hB : B ≤ w.heap.size)
 (hI : Tr.In w1 (fun q => w.heap.size ≤ q) t (.agg C)) (ho : w2.ownsRow B 30 11 v' (l.length + 1) (xs ++ C.toList)) (hg : w1.grownBy w2 v.ownBlock) (hf : Ls.Fresh w1 v v') : Tr.Row B w2 v' (l ++ [t]) (xs ++ C.toList) := by
 refine ⟨by rw [List.length_append]; exact ho,fun k u hku => ?_⟩
 have hlt := h.1.lt
 rcases Nat.lt_or_ge k l.length with h1 | h1
 · rw [List.getElem?_append_left h1] at hku;obtain ⟨C',hI',hx⟩ := h.2 k u hku;have h5 := Tr.In.kept (S := fun q => (B ≤ q ∧ v.ownBlock ≠ some q) ∧ q < w.heap.size) (w' := w2) ⟨Nat.le_trans hz hg.size,fun q hq hl => (hg.block q (Nat.lt_of_lt_of_le hl hz) (fun e => hq.1.2 e.symm)).trans (hk q hq.1.1 hl)⟩ _ _ (Tr.In.top _ _ hI');have h6 : ∀ q,((B ≤ q ∧ v.ownBlock ≠ some q) ∧ q < w.heap.size) → (B ≤ q ∧ v'.ownBlock ≠ some q) := by
    intro q hq;refine ⟨hq.1.1,fun he => ?_⟩;rcases hf q he with h2 | h2
    · exact hq.1.2 h2
    · have := hq.2;omega
   refine ⟨C',Tr.In.mono h6 _ _ h5,fun j hj => ?_⟩;rw [List.getElem?_append_left (by rw [h.1.1]; omega)];exact hx j hj
 · have hkl : k = l.length := by
    have := (List.getElem?_eq_some_iff.1 hku).1;simp at this;omega
   subst hkl;rw [List.getElem?_append_right (Nat.le_refl _),Nat.sub_self] at hku;simp only [List.getElem?_cons_zero,Option.some.injEq] at hku;subst hku;have h5 := Tr.In.kept (S := fun q => w.heap.size ≤ q ∧ q < w1.heap.size) (w' := w2) ⟨hg.size,fun q hq hl => hg.block q hl (fun e => by have := (hlt q e.symm).2; have := hq.1; omega)⟩ _ _ (Tr.In.top _ _ hI);have h6 : ∀ q,(w.heap.size ≤ q ∧ q < w1.heap.size) → (B ≤ q ∧ v'.ownBlock ≠ some q) := by
    intro q hq;refine ⟨Nat.le_trans hB hq.1,fun he => ?_⟩;rcases hf q he with h2 | h2
    · have := (hlt q h2).2;have := hq.1;omega
    · have := hq.2;omega
   refine ⟨C,Tr.In.mono h6 _ _ h5,fun j hj => ?_⟩;rw [List.getElem?_append_right (by rw [h.1.1]; omega),show 11 * l.length + j - xs.length = j by rw [h.1.1]; omega,Array.getElem?_toList]
structure Dr.ItSt (b : Nat) (S : ByteArray) (w0 : World) (l : List UInt8) (g : Bool) (w : World) (v : Value) (ts : List Tr) (xs : List Value) : Prop where
 rd : Dr.At b S l g w
 kept : Dr.Kept b w0 w
 row : Tr.Row w0.heap.size w v ts xs
 lt : b < w0.heap.size
theorem Dr.ItSt.start {b : Nat} {S : ByteArray} {w : World} {l : List UInt8} {g : Bool} (h : Dr.At b S l g w) : Dr.ItSt b S w l g w (.slice none 0 0) [] [] := ⟨h,Dr.Kept.refl _ _,Tr.Row.nil _ _,h.lt⟩
theorem Dr.ItSt.move {b : Nat} {S : ByteArray} {w0 w w' : World} {l l' : List UInt8} {g g' : Bool} {v : Value} {ts : List Tr} {xs : List Value} (h : Dr.ItSt b S w0 l g w v ts xs) (hA : Dr.At b S l' g' w') (hk : Dr.Kept b w w') : Dr.ItSt b S w0 l' g' w' v ts xs :=
 ⟨hA,h.kept.trans hk,Dr.row_kept h.row hk.size (fun q hq hl => hk.block q hl (by have := h.lt; omega)),h.lt⟩
theorem Dr.grown_alloc {w w' : World} {o : Obj} {r : Option Nat} (h : (w.alloc o).grownBy w' r) : w.grownBy w' r := by
 have hb : Below w.heap.size w (w.alloc o) := (Below.refl _ _).alloc (Nat.le_refl _) o;exact ⟨h.os.trans hb.os,h.tape.trans hb.tape,h.output.trans hb.output,Nat.le_trans hb.size h.size,fun q hq hne => (h.block q (Nat.lt_of_lt_of_le hq hb.size) hne).trans (hb.block q hq)⟩
theorem Dr.fresh_alloc {w : World} {o : Obj} {v v' : Value} (h : Ls.Fresh (w.alloc o) v v') : Ls.Fresh w v v' := fun q hq => by
 rcases h q hq with h1 | h1
 · exact .inl h1
 · have hz : (w.alloc o).heap.size = w.heap.size + 1 := by simp
   exact .inr (by omega)
theorem Dr.ItSt.next {b : Nat} {S : ByteArray} {w0 w w1 w2 : World} {l l' : List UInt8} {g g' : Bool} {v v' : Value} {ts : List Tr} {xs : List Value} {t : Tr} {C : Array Value} {o : Obj} (h : Dr.ItSt b S w0 l g w v ts xs)
 (hI : Tr.In w1 (fun q => w.heap.size ≤ q) t (.agg C)) (hA : Dr.At b S l' g' w1) (hk : Dr.Kept b w w1) (ho : w2.ownsRow w0.heap.size 30 11 v' (ts.length + 1) (xs ++ C.toList)) (hg : (w1.alloc o).grownBy w2 v.ownBlock) (hf : Ls.Fresh (w1.alloc o) v v') : Dr.ItSt b S w0 l' g' w2 v' (ts ++ [t]) (xs ++ C.toList) := by
 have hg := Dr.grown_alloc hg
 have hf := Dr.fresh_alloc hf
 have hlt := h.row.1.lt
 have hb := h.lt
 have hz := h.kept.size
 have hkb : w2.heap[b]? = w1.heap[b]? := hg.block b hA.lt (fun e => by have := (hlt b e.symm).1; omega)
 refine ⟨⟨hkb.trans hA.blk,hA.suf,hA.le⟩,⟨hg.os.trans ((hk.os).trans h.kept.os),hg.tape.trans (hk.tape.trans h.kept.tape),hg.output.trans (hk.output.trans h.kept.output),Nat.le_trans hz (Nat.le_trans hk.size hg.size),fun q hq hne => ?_⟩,?_,hb⟩
 · have hq1 : q < w1.heap.size := Nat.lt_of_lt_of_le hq (Nat.le_trans hz hk.size);exact (hg.block q hq1 (fun e => by have := (hlt q e.symm).1; omega)).trans ((hk.block q (Nat.lt_of_lt_of_le hq hz) hne).trans (h.kept.block q hq hne))
 · exact Dr.row_push h.row hk.size (fun q hq hl => hk.block q hl (by omega)) hz hI ho hg hf
def Dr.joinR (ts : List Tr) (acc : Bool) : Dr.Res → Dr.Res
 | .list ts' r big => .list (ts ++ ts') r (acc || big)
 | .lst ts' last r big => .lst (ts ++ ts') last r (acc || big)
 | x => x
theorem Dr.joinR_nil (R : Dr.Res) : Dr.joinR [] false R = R := by cases R <;> simp [Dr.joinR]
theorem Dr.joinR_snoc (ts : List Tr) (t : Tr) (acc big : Bool) (R : Dr.Res) : Dr.joinR ts acc (Dr.joinR [t] big R) = Dr.joinR (ts ++ [t]) (acc || big) R := by
 cases R <;> simp [Dr.joinR,Bool.or_assoc]
theorem Dr.it_inv_fault {e : Int} {l : List UInt8} {R : Dr.Res} (h : Dr.Rel (.blanks l) .fault) (k : Dr.Rel (.items e l) R) : R = .fault := k.det (.iFault1 h)
theorem Dr.it_inv {e : Int} {l r : List UInt8} {R : Dr.Res} (h : Dr.Rel (.blanks l) (.skip r)) (hp : Dr.pk e true r = .item) (k : Dr.Rel (.items e l) R) :
 (Dr.Rel (.datum r) .fault ∧ R = .fault) ∨ ∃ t r2 big R3,Dr.Rel (.datum r) (.got t r2 big) ∧ r2.length < r.length ∧ Dr.Rel (.items e r2) R3 ∧ R = Dr.joinR [t] big R3 := by
 obtain ⟨R2,h2⟩ := Dr.total (.datum r)
 rcases Dr.gots h2 with rfl | ⟨t,r2,b,rfl,hl⟩
 · exact .inl ⟨h2,k.det (.iItem1 h hp h2)⟩
 · obtain ⟨R3,h3⟩ := Dr.total (.items e r2);refine .inr ⟨t,r2,b,R3,h2,hl,h3,?_⟩;have hless := h3.less;cases R3 with
   | fault => exact k.det (.iItem2 h hp h2 h3)
   | list ts r3 b2 => exact k.det (.iItem3 h hp h2 h3)
   | skip => exact absurd hless id
   | got => exact absurd hless id
   | lst => exact absurd hless id
theorem Dr.pr_inv_fault {e : Int} {f : Bool} {l : List UInt8} {R : Dr.Res} (h : Dr.Rel (.blanks l) .fault) (k : Dr.Rel (.pairs e f l) R) : R = .fault := k.det (.pFault1 h)
theorem Dr.pr_inv {e : Int} {f : Bool} {l r : List UInt8} {R : Dr.Res} (h : Dr.Rel (.blanks l) (.skip r)) (hp : Dr.pk e f r = .item) (k : Dr.Rel (.pairs e f l) R) :
 (Dr.Rel (.datum r) .fault ∧ R = .fault) ∨ ∃ t r2 big R3,Dr.Rel (.datum r) (.got t r2 big) ∧ r2.length < r.length ∧ Dr.Rel (.pairs e false r2) R3 ∧ R = Dr.joinR [t] big R3 := by
 obtain ⟨R2,h2⟩ := Dr.total (.datum r)
 rcases Dr.gots h2 with rfl | ⟨t,r2,b,rfl,hl⟩
 · exact .inl ⟨h2,k.det (.pItem1 h hp h2)⟩
 · obtain ⟨R3,h3⟩ := Dr.total (.pairs e false r2);refine .inr ⟨t,r2,b,R3,h2,hl,h3,?_⟩;have hless := h3.less;cases R3 with
   | fault => exact k.det (.pItem2 h hp h2 h3)
   | lst ts last r3 b2 => exact k.det (.pItem3 h hp h2 h3)
   | skip => exact absurd hless id
   | got => exact absurd hless id
   | list => exact absurd hless id
theorem Dr.pk_bad {e : Int} {f : Bool} {r : List UInt8} (h : r ≠ []) (hb : Dr.bad r = true) : Dr.pk e f r = .fault := by rw [Dr.pk,if_neg h,if_pos hb]
theorem Dr.pk_stop {e : Int} {f : Bool} {r : List UInt8} (h : r ≠ []) (hb : Dr.bad r = false) (hc : Dr.cp r = e) : Dr.pk e f r = .stop (r.drop (Dr.wd r)) := by rw [Dr.pk,if_neg h,if_neg (by rw [hb]; simp),if_pos hc]
theorem Dr.pk_true {e : Int} {r : List UInt8} (h : r = [] ∨ (Dr.bad r = false ∧ ¬ Dr.cp r = e)) : Dr.pk e true r = .item := by
 rcases h with rfl | ⟨hb,hc⟩
 · rw [Dr.pk,if_pos rfl]
 · by_cases h0 : r = []
   · rw [Dr.pk,if_pos h0]
   · rw [Dr.pk,if_neg h0,if_neg (by rw [hb]; simp),if_neg hc,if_neg (by simp)]
theorem Dr.peek_not (b : Nat) (S : ByteArray) (r : List UInt8) (g : Bool) (e : Int) (w : World) (h : Dr.At b S r g w) (hp : r = [] ∨ (Dr.bad r = false ∧ ¬ Dr.cp r = e)) (hT : Dr.Tabs w) : ∃ c n : Int,(n = 0 ∨ (0 < n ∧ (c == e) = false)) ∧ c = Dr.pc r ∧
 Calls Tryz.prog 32 #[.pointer (some ⟨b,0,none⟩)] w fun x w' => x = .returned (.tuple #[.int .i32 c,.int .i64 n]) ∧ Below w.heap.size w w' := by
 refine ⟨Dr.pc r,Dr.pn r,?_,rfl,Dr.peek_pc b S r g w h (hp.imp_right And.left) hT⟩
 by_cases h0 : r = []
 · subst h0;exact .inl rfl
 · obtain ⟨e1,e2⟩ := Dr.pc_cons h0;have := Dr.wd_pos h0;rw [e1,e2];exact .inr ⟨by omega,beq_eq_false_iff_ne.2 ((hp.resolve_left h0).2)⟩
theorem Dr.its {e : Int} {l : List UInt8} {R : Dr.Res} (h : Dr.Rel (.items e l) R) : R = .fault ∨ ∃ ts r big,R = .list ts r big := by
 have hless := h.less;cases R with
 | fault => exact .inl rfl
 | list ts r2 big => exact .inr ⟨ts,r2,big,rfl⟩
 | skip => exact absurd hless id
 | got => exact absurd hless id
 | lst => exact absurd hless id
theorem Dr.in_agg {w : World} {S : Nat → Prop} {t : Tr} {v : Value} (h : Tr.In w S t v) : ∃ C,v = .agg C := by
 cases t with
 | mk hd l =>
   rw [Tr.In_mk] at h;obtain ⟨_,_,_,_,_,_,e,_⟩ := h;exact ⟨_,e⟩
end Go.Proofs.YteklhapffplohaaGreatDoor
