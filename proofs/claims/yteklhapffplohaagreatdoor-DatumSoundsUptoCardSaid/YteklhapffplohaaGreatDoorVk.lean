/-
  The reader's symbol. The datum that a text begins with; blanks and remarks ahead of it change nothing but where it ends. The reader's jobs: what each of its functions that call one another comes to.
-/
import Derived.Test.YteklhapffplohaaGreatDoorProg
import Derived.Below
import Derived.Test.YteklhapffplohaaGreatDoorVj
import Derived.Test.YteklhapffplohaaGreatDoorVd
import Derived.Test.YteklhapffplohaaGreatDoorVg
import Derived.Test.YteklhapffplohaaGreatDoorVa
set_option linter.unusedVariables false
set_option linter.unusedSimpArgs false
namespace Go.Proofs.YteklhapffplohaaGreatDoor
open Go.RowKit
theorem Dr.syms_eq (first : Bool) (l : List UInt8) (h : ¬ (l = [] ∧ first = false)) : Dr.syms first l = match Dr.sym1 first l with | none => none | some x => (Dr.syms false x.2).map fun y => x.1 ++ y := by
 rw [Dr.syms,if_neg h];split <;> (rename_i e; rw [e])
theorem Dr.syms_nil : Dr.syms false [] = some [] := by rw [Dr.syms,if_pos ⟨rfl,rfl⟩]
def Dr.Sy (R : Option (List UInt8)) (bs : List UInt8) (first : Bool) (l' : List UInt8) : Prop := R = (Dr.syms first l').map fun y => bs ++ y
theorem Dr.Sy.start (t : List UInt8) : (t.take 2 = [45,62] → Dr.Sy (Dr.symbol t) [45,62] false (t.drop 2)) ∧ (¬ t.take 2 = [45,62] → Dr.Sy (Dr.symbol t) [] true t) := by
 refine ⟨fun h => ?_,fun h => ?_⟩
 · unfold Dr.Sy Dr.symbol;rw [if_pos h]
 · unfold Dr.Sy Dr.symbol;rw [if_neg h];cases Dr.syms true t <;> simp
theorem Dr.Sy.step {R : Option (List UInt8)} {bs l' b r : List UInt8} {first : Bool} (h : Dr.Sy R bs first l') (hn : Dr.sym1 first l' = some (b,r)) : Dr.Sy R (bs ++ b) false r := by
 unfold Dr.Sy at *;have hne : ¬ (l' = [] ∧ first = false) := by
  rintro ⟨rfl,_⟩;simp [Dr.sym1,Dr.next] at hn
 rw [h,Dr.syms_eq first l' hne,hn];show Option.map _ (Option.map _ (Dr.syms false r)) = Option.map _ (Dr.syms false r);rw [Option.map_map];congr 1;funext x;simp
theorem Dr.Sy.stop {R : Option (List UInt8)} {bs : List UInt8} (h : Dr.Sy R bs false []) : R = some bs := by
 unfold Dr.Sy at h;rw [h,Dr.syms_nil];simp
theorem Dr.Sy.dead {R : Option (List UInt8)} {bs l' : List UInt8} {first : Bool} (h : Dr.Sy R bs first l') (hne : ¬ (l' = [] ∧ first = false)) (hn : Dr.sym1 first l' = none) : R = none := by
 unfold Dr.Sy at h;rw [h,Dr.syms_eq first l' hne,hn];rfl
def Dr.PostS (w : World) (R : Option (List UInt8)) (e : Ending) (w' : World) : Prop :=
 match R with
 | none => e = Dr.dead ∧ Below w.heap.size w w'
 | some x => e = .returned (.string ⟨x.toArray⟩) ∧ Below w.heap.size w w'
theorem Dr.Kept.toBelow {w w1 w' : World} (h0 : Below w.heap.size w w1) (h : Dr.Kept w.heap.size w1 w') : Below w.heap.size w w' :=
 ⟨h.os.trans h0.os,h.tape.trans h0.tape,h.output.trans h0.output,Nat.le_trans h0.size h.size,fun q hq => (h.block q (Nat.lt_of_lt_of_le hq h0.size) (by omega)).trans (h0.block q hq)⟩
def Dr.SyR (b : Nat) (S : ByteArray) (w1 : World) (R : Option (List UInt8)) (v : Value) (W : World) : Prop :=
 ∃ (first : Bool) (l' bs : List UInt8),v = .bool first ∧ Dr.At b S l' false W ∧ Dr.Kept b w1 W ∧ Dr.Bu (b + 1) (b + 1) bs W ∧ Dr.Sy R bs first l' ∧ bs.length + 4 * l'.length ≤ 4 * S.size
theorem Dr.At.fresh (S : ByteArray) (w : World) : Dr.At w.heap.size S S.data.toList false (w.alloc (.cells #[.string S,.int .i64 0,.bool false] 49)) := by
 have e : S.data.toList.length = S.size := by simp
 refine ⟨?_,by rw [e,Nat.sub_self]; rfl,by rw [e]; exact Nat.le_refl _⟩;rw [e,Nat.sub_self];exact heap_alloc_new w _
set_option maxHeartbeats 16000000
set_option maxRecDepth 1000000
theorem Dr.symbol_any (p : Value) (S : ByteArray) (w : World) (hs : S.size ≤ 1048576) (hT : Dr.Tabs w) :
 Calls Tryz.prog 75 #[p,.string S] w fun e w' => Dr.PostS w (Dr.symbol S.data.toList) e w' := by
 obtain ⟨R,hR⟩ : ∃ z,Dr.symbol S.data.toList = z := ⟨_,rfl⟩
 have hSt := Dr.Sy.start S.data.toList
 rw [hR] at hSt ⊢
 have hlen : S.data.toList.length = S.size := by simp
 obtain ⟨b,hb⟩ : ∃ z,w.heap.size = z := ⟨_,rfl⟩
 have hbw1 : Below w.heap.size w (w.alloc (.cells #[.string S,.int .i64 0,.bool false] 49)) := (Below.refl _ _).alloc (Nat.le_refl _) _
 have hA1 := Dr.At.fresh S w
 have hT1 : Dr.Tabs (w.alloc (.cells #[.string S,.int .i64 0,.bool false] 49)) := Utf8Tabs_below hT hbw1
 obtain ⟨w1,hw1⟩ : ∃ z,w.alloc (.cells #[.string S,.int .i64 0,.bool false] 49) = z := ⟨_,rfl⟩
 rw [hw1,hb] at hA1 hbw1
 rw [hw1] at hT1
 have hz1 : w1.heap.size = b + 1 := by rw [← hw1]; simp [hb]
 have HNE := Lib.hid (And.intro hT1 (hA1.tabs_ne hT1))
 have HEND := Lib.hid (fun (W : World) (hK : Dr.Kept b w1 W) => show (R = none → Dr.PostS w R Dr.dead W) ∧ ∀ x,R = some x → Dr.PostS w R (.returned (.string ⟨x.toArray⟩)) W from by
   have hbel : Below w.heap.size w W := Dr.Kept.toBelow (w1 := w1) (by rw [hb]; exact hbw1) (by rw [hb]; exact hK)
   exact ⟨fun e => by rw [e]; exact ⟨rfl,hbel⟩,fun x e => by rw [e]; exact ⟨rfl,hbel⟩⟩)
 have hal : Below w1.heap.size w1 (w1.alloc (.cells #[.pointer none,.slice none 0 0] 63)) := (Below.refl _ _).alloc (Nat.le_refl _) _
 have hA2 := hA1.below hal
 have hK2 := Dr.Kept.of_below (b := b) hal
 have hB2 := Dr.Bu.fresh w1
 obtain ⟨w2,hw2⟩ : ∃ z,w1.alloc (.cells #[.pointer none,.slice none 0 0] 63) = z := ⟨_,rfl⟩
 rw [hw2] at hA2 hK2 hB2
 rw [hz1] at hB2
 have KH0 := fun w' => Tryz.strings_HasPrefix S ⟨#[45,62]⟩ w'
 simp only [Dr.hasP] at KH0
 have KH := Lib.hid KH0
 clear KH0
 have hsz : S.size ≤ 9223372036854775807 := by omega
 have hbB : b < b + 1 := Nat.lt_succ_self b
 by_cases hpre : S.data.toList.take 2 = [45,62]
 · have hl2 := Dr.take_two hpre;have KH1 : ∀ w',Calls Tryz.prog 35 #[.string S,.string ⟨#[45,62]⟩] w' fun e w'' => e = .returned (.bool true) ∧ w'' = w' := fun w' => by
    refine (KH.out w').mono ?_;rintro e w'' ⟨rfl,rfl⟩;exact ⟨congrArg (fun x => Ending.returned (Value.bool x)) (decide_eq_true hpre),rfl⟩
   have KH2 := Lib.hid KH1;clear KH1;have KW0 : Calls Tryz.prog 56 #[.pointer (some ⟨b + 1,0,none⟩),.string ⟨#[45,62]⟩] w2 _ := hB2.str [45,62] (by simp);have KW := Lib.hid KW0;clear KW0;have HK1 := Lib.hid (fun (w3 : World) (hB3 : Dr.Bu (b + 1) (b + 1) ([] ++ [45,62]) w3) (hb3 : Below (b + 1) w2 w3) => show ∃ W,w3.setCell ⟨b,1,none⟩ (.int .i64 2) = W ∧ w3.frozen? ⟨b,1,none⟩ = false ∧ (∃ u,w3.cell? ⟨b,1,none⟩ = some u) ∧ Dr.SyR b S w1 R (.bool false) W from by
     have hA3 := hA2.belowB hb3 hbB;obtain ⟨W,hW,hfz,hAt,hKW,hz⟩ := Dr.setAt hA3 (p := 0) (by rw [hlen]; omega) hl2 2 rfl
     exact ⟨W,hW,hfz,⟨_,hA3.cells.2.1⟩,false,_,[45,62],rfl,hAt,(hK2.belowB (by rw [hz1]; exact hb3)).trans hKW,hB3.kept hKW hbB,hSt.1 hpre,by rw [List.length_drop,hlen]; simp; omega⟩)
   clear hSt hpre hA1 hA2 hK2 hB2 hal hT1 hbw1 hlen hR KH hl2;go_enter Tryz.func75,Tryz.ntmps75;go_wp2_with (first | (go_at_call 35; refine (KH2.out _).mono ?_; rintro x w' ⟨rfl,hw'⟩; subst hw'));refine KW.out.mono ?_;rintro x w3 ⟨n,rfl,hB3,hb3⟩;obtain ⟨W,hW,hfz,⟨u,hc1⟩,HK01⟩ := HK1.out w3 hB3 hb3;have HK0 := Lib.hid HK01;clear hB3 hb3 HK1 KW KH2 HK01;go_wp2_with fail;clear hW hfz hc1;go_loopw [7] (fun v wr => Dr.SyR b S w1 R v wr) (fun _ wr => Dr.left b S wr);case atStart => exact HK0.out
   case round =>
    unfold Dr.SyR at hrel;obtain ⟨first,l',bs,rfl,hA,hK,hBu,hSy,hbl⟩ := hrel;clear HK0;have hTr : Dr.Tabs wr := Dr.tabs_kept HNE.out.1 HNE.out.2.1 HNE.out.2.2 hK;have hAle := hA.le;have hb41 : bs.length ≤ 4194304 := by omega
    obtain ⟨c0,c1,c2⟩ := hA.cells;obtain ⟨q,hq⟩ : ∃ z,S.size - l'.length = z := ⟨_,rfl⟩;rw [hq] at c1;have hq0 : 0 ≤ (q : Int) := by omega
    have HG := Lib.hid (fun (bts r3 : List UInt8) (hstep : Dr.sym1 first l' = some (bts,r3)) (hb4 : bts.length ≤ 4) (W : World) (hAt : Dr.At b S r3 false W) (hK2 : Dr.Kept b w1 W) (hB2 : Dr.Bu (b + 1) (b + 1) (bs ++ bts) W) =>
      show Dr.SyR b S w1 R (.bool false) W ∧ Dr.left b S W < Dr.left b S wr from by
       have hlt := Dr.sym1_lt hstep
       exact ⟨⟨false,r3,bs ++ bts,rfl,hAt,hK2,hB2,hSy.step hstep,by rw [List.length_append]; omega⟩,by rw [hAt.left,hA.left]; exact hlt⟩)
    have HX := Lib.hid (fun (hne : ¬ (l' = [] ∧ first = false)) (hno : Dr.sym1 first l' = none) (W : World) (hK2 : Dr.Kept b w1 W) => show Dr.PostS w R Dr.dead W from (HEND.out W hK2).1 (hSy.dead hne hno));have HZ := Lib.hid (fun (hl0 : l' = []) (hf0 : first = false) (W : World) (hK2 : Dr.Kept b w1 W) => show Dr.PostS w R (.returned (.string ⟨bs.toArray⟩)) W from (HEND.out W hK2).2 bs (by subst hl0 hf0; exact hSy.stop));have HBL := Lib.hid (fun (wa W : World) (hK1 : Dr.Kept b w1 wa) (hb : Below (b + 1) wa W) => show Dr.Kept b w1 W from hK1.belowB (by rw [hz1]; exact hb));by_cases hend : l' = [] ∧ first = false
    · obtain ⟨hl0,hf0⟩ := hend;have hqe : q = S.size := by rw [← hq,hl0]; rfl
      have KW := Lib.hid hBu.string;have HE0 := Lib.hid (fun (W : World) (hb : Below (b + 1) wr W) => HZ.out hl0 hf0 W (HBL.out wr W hK hb));subst hf0 hqe;clear hA hK hBu hSy hbl hTr hAle hb41 HG HX HZ HBL hq;go_wp2_with fail;refine KW.out.mono ?_;rintro x w3 ⟨rfl,hb3⟩;have HE := Lib.hid (HE0.out w3 hb3);clear HE0 hb3 KW;go_wp2_with fail;go_ret;exact HE.out
    have hgo : (first = true ∧ decide (q < S.size) = false) ∨ (first = true ∧ decide (q < S.size) = true) ∨ (first = false ∧ decide (q < S.size) = true) := by
     cases hf : first with
     | true => cases decide (q < S.size) <;> simp
     | false =>
       refine .inr (.inr ⟨rfl,decide_eq_true ?_⟩);have : l' ≠ [] := fun e => hend ⟨e,hf⟩;have := List.length_pos_iff.2 this;omega
    have HX1 := Lib.hid (fun hno W hK2 => HX.out hend hno W hK2);have hnoA : Dr.next l' = none → Dr.sym1 first l' = none := fun hn => by unfold Dr.sym1; rw [hn]
    have hsyA : ∀ c r,Dr.next l' = some (c,r) → Dr.sym1 first l' = if c = 92 then
     (match Dr.next r with
     | none => none
     | some (c2,r2) => if c2 = 120 then (match Dr.esc r2 with | none => none | some (d,r3) => some (Lib.encodeRune d,r3)) else none)
     else if ((first && !Wt.firstB c) || !Wt.restB c) = true then none else some (Lib.encodeRune c,r) := fun c r hn => by unfold Dr.sym1; rw [hn]; rfl
    have HNO := Lib.hid hnoA;have HSYA := Lib.hid hsyA;have KF := fun hn => Dr.next_none b S l' false wr hA hn hTr;have KN := fun c r hn => Dr.next_ok b S l' false c r wr hA hsz hn hTr;have HW1 := Lib.hid (fun (r : List UInt8) (w3 : World) (hA1 : Dr.At b S r false w3) (hK1 : Dr.Kept b wr w3) => show Dr.Kept b w1 w3 ∧ Dr.Bu (b + 1) (b + 1) bs w3 ∧ Dr.Tabs w3 from ⟨hK.trans hK1,hBu.kept hK1 hbB,Dr.tabs_kept HNE.out.1 HNE.out.2.1 HNE.out.2.2 (hK.trans hK1)⟩);have HK := Lib.hid hK;clear hA hK hBu hSy hbl hTr hAle HZ hq hend hs HX hnoA hsyA;rcases hgo with ⟨rfl,hg⟩ | ⟨rfl,hg⟩ | ⟨rfl,hg⟩;all_goals
     cases hn : Dr.next l' with
     | none =>
       have KF := KF hn;have HE0 := Lib.hid (fun (w3 : World) (hb1 : Below wr.heap.size wr w3) => HX1.out (HNO.out hn) w3 (HK.out.trans (Dr.Kept.of_below hb1)));clear hn HNO HSYA HG HX1 HBL HW1 KN;go_wp2_with fail;refine KF.mono ?_;rintro x w3 ⟨rfl,hb1⟩;have HE := Lib.hid (HE0.out w3 hb1);clear HE0 hb1;unfold Dr.dead at *;go_wp2_with fail;exact ⟨rfl,HE.out⟩
     | some x =>
       obtain ⟨c,r⟩ := x;have KN := KN c r hn;have hok := Dr.next_ok32 hn;have hsy := HSYA.out c r hn;clear hn KF HNO HSYA;by_cases h92 : c = 92
       · rw [if_pos h92] at hsy;subst h92;cases hn2 : Dr.next r with
         | none =>
           rw [hn2] at hsy;have HSY := Lib.hid (show Dr.sym1 _ l' = none from hsy);have HE0 := Lib.hid (fun (W : World) (hK2 : Dr.Kept b w1 W) => HX1.out HSY.out W hK2);clear hsy HG HX1 HSY HBL;go_wp2_with fail;refine KN.mono ?_;rintro x w3 ⟨rfl,hA1,hK1⟩;obtain ⟨hK2,hB2,hT2⟩ := HW1.out r w3 hA1 hK1;have KP := Lib.hid (Dr.next_none b S r false w3 hA1 hn2 hT2);have HE1 := Lib.hid (fun (w4 : World) (hb4 : Below w3.heap.size w3 w4) => HE0.out w4 (hK2.trans (Dr.Kept.of_below hb4)));clear hA1 hK1 hK2 hB2 hT2 HE0 HW1 hn2;go_wp2_with fail;refine KP.out.mono ?_;rintro x w4 ⟨rfl,hb4⟩;have HE := Lib.hid (HE1.out w4 hb4);clear HE1 hb4 KP;unfold Dr.dead at *;go_wp2_with fail;exact ⟨rfl,HE.out⟩
         | some x2 =>
           obtain ⟨c2,r2⟩ := x2;rw [hn2] at hsy;have hsy1 : Dr.sym1 _ l' = if c2 = 120 then (match Dr.esc r2 with | none => none | some (d,r3) => some (Lib.encodeRune d,r3)) else none := hsy;clear hsy;have KN2 := Lib.hid (fun (w3 : World) (hA1 : Dr.At b S r false w3) (hT2 : Dr.Tabs w3) => Dr.next_ok b S r false c2 r2 w3 hA1 hsz hn2 hT2);by_cases h120 : c2 = 120
           · rw [if_pos h120] at hsy1;subst h120;cases hE : Dr.esc r2 with
             | none =>
               rw [hE] at hsy1;have HSY := Lib.hid (show Dr.sym1 _ l' = none from hsy1);have KE := Lib.hid (fun (w4 : World) (hA2 : Dr.At b S r2 false w4) (hT3 : Dr.Tabs w4) => show Calls Tryz.prog 68 #[.pointer (some ⟨b,0,none⟩)] w4 (fun e w' => Dr.PostE b S false w4 none e w') from hE ▸ Dr.escape_any b S false r2 w4 hA2 hsz hT3);have HE0 := Lib.hid (fun (W : World) (hK2 : Dr.Kept b w1 W) => HX1.out HSY.out W hK2);clear hsy1 HG HX1 HSY HBL hE hn2;go_wp2_with fail;refine KN.mono ?_;rintro x w3 ⟨rfl,hA1,hK1⟩;obtain ⟨hK2,hB2,hT2⟩ := HW1.out r w3 hA1 hK1;have KP := Lib.hid (KN2.out w3 hA1 hT2);have HE1 := Lib.hid (fun (w4 : World) (hA2 : Dr.At b S r2 false w4) (hK4 : Dr.Kept b w3 w4) => And.intro (KE.out w4 hA2 (Dr.tabs_kept HNE.out.1 HNE.out.2.1 HNE.out.2.2 (hK2.trans hK4))) (fun (w5 : World) (hK5 : Dr.Kept b w4 w5) => HE0.out w5 ((hK2.trans hK4).trans hK5)));clear hA1 hK1 hK2 hB2 hT2 HE0 HW1 KE KN2;go_wp2_with fail;refine KP.out.mono ?_;rintro x w4 ⟨rfl,hA2,hK4⟩;obtain ⟨KE1,HE2⟩ := HE1.out w4 hA2 hK4;have KE2 := Lib.hid KE1;have HE3 := Lib.hid HE2;clear HE1 hA2 hK4 KP KE1 HE2;go_wp2_with fail;refine KE2.out.mono ?_;rintro x w5 ⟨rfl,hK5⟩;have HE := Lib.hid (HE3.out w5 hK5);clear HE3 hK5 KE2;unfold Dr.dead at *;go_wp2_with fail;exact ⟨rfl,HE.out⟩
             | some x3 =>
               obtain ⟨d,r3⟩ := x3;rw [hE] at hsy1;have HSY := Lib.hid (show Dr.sym1 _ l' = some (Lib.encodeRune d,r3) from hsy1);have hokd := Dr.esc_ok hE;have KE := Lib.hid (fun (w4 : World) (hA2 : Dr.At b S r2 false w4) (hT3 : Dr.Tabs w4) => show Calls Tryz.prog 68 #[.pointer (some ⟨b,0,none⟩)] w4 (fun e w' => Dr.PostE b S false w4 (some (d,r3)) e w') from hE ▸ Dr.escape_any b S false r2 w4 hA2 hsz hT3);have HE0 := Lib.hid (fun (w3 W : World) (hA1 : Dr.At b S r3 false w3) (hK2 : Dr.Kept b w1 w3) (hb : Below (b + 1) w3 W) (hBW : Dr.Bu (b + 1) (b + 1) (bs ++ Lib.encodeRune d) W) => HG.out _ _ HSY.out (Ru.encode_length d).2 W (hA1.belowB hb hbB) (HBL.out w3 W hK2 hb) hBW);clear hsy1 HG HX1 HSY HBL hE hn2;go_wp2_with fail;refine KN.mono ?_;rintro x w3 ⟨rfl,hA1,hK1⟩;obtain ⟨hK2,hB2,hT2⟩ := HW1.out r w3 hA1 hK1;have KP := Lib.hid (KN2.out w3 hA1 hT2);have HE1 := Lib.hid (fun (w4 : World) (hA2 : Dr.At b S r2 false w4) (hK4 : Dr.Kept b w3 w4) => And.intro (KE.out w4 hA2 (Dr.tabs_kept HNE.out.1 HNE.out.2.1 HNE.out.2.2 (hK2.trans hK4))) (fun (w5 : World) (hA5 : Dr.At b S r3 false w5) (hK5 : Dr.Kept b w4 w5) => And.intro ((hB2.kept hK4 hbB).kept hK5 hbB) (fun W => HE0.out w5 W hA5 ((hK2.trans hK4).trans hK5))));clear hA1 hK1 hK2 hB2 hT2 HE0 HW1 KE KN2;go_wp2_with fail;refine KP.out.mono ?_;rintro x w4 ⟨rfl,hA2,hK4⟩;obtain ⟨KE1,HE2⟩ := HE1.out w4 hA2 hK4;have KE2 := Lib.hid KE1;have HE3 := Lib.hid HE2;clear HE1 hA2 hK4 KP KE1 HE2;go_wp2_with fail
               refine KE2.out.mono ?_;rintro x w5 ⟨rfl,hA5,hK5⟩;obtain ⟨hB5,HE4⟩ := HE3.out w5 hA5 hK5;have HE5 := Lib.hid HE4;have KW := Lib.hid (hB5.rune d hokd hb41);clear HE3 hA5 hK5 KE2 hB5 HE4;go_wp2_with fail;refine KW.out.mono ?_;rintro x w6 ⟨n,rfl,hB6,hb6⟩;have HE := Lib.hid (HE5.out w6 hb6 hB6);clear HE5 hB6 hb6 KW;go_wp2_with fail;exact HE.out
           · rw [if_neg h120] at hsy1;have e120 : (c2 != 120) = true := bne_iff_ne.2 h120;have HSY := Lib.hid hsy1;have HE0 := Lib.hid (fun (W : World) (hK2 : Dr.Kept b w1 W) => HX1.out HSY.out W hK2);clear hsy1 HG HX1 HSY HBL hn2 h120;go_wp2_with fail;refine KN.mono ?_;rintro x w3 ⟨rfl,hA1,hK1⟩;obtain ⟨hK2,hB2,hT2⟩ := HW1.out r w3 hA1 hK1;have KP := Lib.hid (KN2.out w3 hA1 hT2);have HE1 := Lib.hid (fun (w4 : World) (hK4 : Dr.Kept b w3 w4) => HE0.out w4 (hK2.trans hK4));clear hA1 hK1 hK2 hB2 hT2 HE0 HW1 KN2;go_wp2_with fail;refine KP.out.mono ?_;rintro x w4 ⟨rfl,hA2,hK4⟩;have HE := Lib.hid (HE1.out w4 hK4);clear HE1 hA2 hK4 KP;go_wp2_with fail;refine (Dr.stop_any _ _).mono ?_;rintro x w6 ⟨rfl,hw6⟩;subst hw6;unfold Dr.dead at *;go_wp2_with fail;exact ⟨rfl,HE.out⟩
       have e92 : (c == 92) = false := beq_eq_false_iff_ne.2 h92;rw [if_neg h92] at hsy;have KR := fun w' => Wt.Rest_any c hok w';have KQ := fun w' => Wt.First_any c hok w';cases hr : Wt.restB c;all_goals
        cases hf : Wt.firstB c;all_goals
         rw [hr] at KR;rw [hf] at KQ;have HSY := Lib.hid hsy;rw [hr,hf] at HSY;have KR1 := Lib.hid KR;have KQ1 := Lib.hid KQ;clear KR KQ;simp only [Bool.true_and,Bool.false_and,Bool.not_true,Bool.not_false,Bool.or_true,Bool.or_false,Bool.true_or,Bool.false_or,if_true,if_false,Bool.false_eq_true] at HSY;clear hsy hr hf;first
          | (have HE0 := Lib.hid (fun (W : World) (hK2 : Dr.Kept b w1 W) => HX1.out HSY.out W hK2)
             clear HG HX1 HSY HBL
             go_wp2_with fail
             refine KN.mono ?_
             rintro x w3 ⟨rfl,hA1,hK1⟩
             obtain ⟨hK2,hB2,hT2⟩ := HW1.out r w3 hA1 hK1
             have HK2 := Lib.hid hK2
             clear hA1 hK1 hB2 hT2 HW1 hK2
             go_wp2_with fail
             first
              | (refine (KQ1.out _).mono ?_
                 rintro x w4 ⟨rfl,hb4⟩
                 have HK3 := Lib.hid (HK2.out.trans (Dr.Kept.of_below hb4))
                 clear hb4 HK2
                 go_wp2_with fail
                 first
                  | (refine (KR1.out _).mono ?_
                     rintro x w5 ⟨rfl,hb5⟩
                     have HE := Lib.hid (HE0.out w5 (HK3.out.trans (Dr.Kept.of_below hb5)))
                     clear hb5 HE0
                     go_wp2_with fail
                     refine (Dr.stop_any _ _).mono ?_
                     rintro x w6 ⟨rfl,hw6⟩
                     subst hw6
                     unfold Dr.dead at *
                     go_wp2_with fail
                     exact ⟨rfl,HE.out⟩)
                  | (have HE := Lib.hid (HE0.out w4 HK3.out)
                     clear HE0
                     refine (Dr.stop_any _ _).mono ?_
                     rintro x w6 ⟨rfl,hw6⟩
                     subst hw6
                     unfold Dr.dead at *
                     go_wp2_with fail
                     exact ⟨rfl,HE.out⟩))
              | (refine (KR1.out _).mono ?_
                 rintro x w5 ⟨rfl,hb5⟩
                 have HE := Lib.hid (HE0.out w5 (HK2.out.trans (Dr.Kept.of_below hb5)))
                 clear hb5 HE0
                 go_wp2_with fail
                 refine (Dr.stop_any _ _).mono ?_
                 rintro x w6 ⟨rfl,hw6⟩
                 subst hw6
                 unfold Dr.dead at *
                 go_wp2_with fail
                 exact ⟨rfl,HE.out⟩))
          | (have HE0 := Lib.hid (fun (w3 W : World) (hA1 : Dr.At b S r false w3) (hK2 : Dr.Kept b w1 w3) (hb : Below (b + 1) w3 W) (hBW : Dr.Bu (b + 1) (b + 1) (bs ++ Lib.encodeRune c) W) => HG.out _ _ HSY.out (Ru.encode_length c).2 W (hA1.belowB hb hbB) (HBL.out w3 W hK2 hb) hBW)
             clear HG HX1 HSY HBL
             go_wp2_with fail
             refine KN.mono ?_
             rintro x w3 ⟨rfl,hA1,hK1⟩
             obtain ⟨hK2,hB2,hT2⟩ := HW1.out r w3 hA1 hK1
             have HK2 := Lib.hid (show Dr.At b S r false w3 ∧ Dr.Kept b w1 w3 ∧ Dr.Bu (b + 1) (b + 1) bs w3 from ⟨hA1,hK2,hB2⟩)
             clear hA1 hK1 hB2 hT2 HW1 hK2
             go_wp2_with fail
             first
              | (refine (KQ1.out _).mono ?_
                 rintro x w4 ⟨rfl,hb4⟩
                 have HK3 := Lib.hid (show Dr.At b S r false w4 ∧ Dr.Kept b w1 w4 ∧ Dr.Bu (b + 1) (b + 1) bs w4 from ⟨HK2.out.1.below hb4,HK2.out.2.1.trans (Dr.Kept.of_below hb4),HK2.out.2.2.kept (Dr.Kept.of_below (b := b) hb4) hbB⟩)
                 clear hb4 HK2
                 go_wp2_with fail)
              | (have HK3 := HK2; clear HK2)
             refine (KR1.out _).mono ?_
             rintro x w5 ⟨rfl,hb5⟩
             obtain ⟨hA5,hK5,hB5⟩ := HK3.out
             have KW := Lib.hid ((hB5.kept (Dr.Kept.of_below (b := b) hb5) hbB).rune c hok hb41)
             have HE1 := Lib.hid (fun W => HE0.out w5 W (hA5.below hb5) (hK5.trans (Dr.Kept.of_below hb5)))
             clear hb5 HK3 HE0 hA5 hK5 hB5 KR1 KQ1
             go_wp2_with fail
             refine KW.out.mono ?_
             rintro x w6 ⟨n,rfl,hB6,hb6⟩
             have HE := Lib.hid (HE1.out w6 hb6 hB6)
             clear HE1 hB6 hb6 KW
             go_wp2_with fail
             exact HE.out)
 · have HK0 := Lib.hid (show Dr.SyR b S w1 R (.bool true) w2 from
    ⟨true,_,[],rfl,hA2,hK2,hB2,hSt.2 hpre,by simp⟩)
   have KH1 : ∀ w',Calls Tryz.prog 35 #[.string S,.string ⟨#[45,62]⟩] w' fun e w'' => e = .returned (.bool false) ∧ w'' = w' := fun w' => by
    refine (KH.out w').mono ?_;rintro e w'' ⟨rfl,rfl⟩;exact ⟨congrArg (fun x => Ending.returned (Value.bool x)) (decide_eq_false hpre),rfl⟩
   have KH2 := Lib.hid KH1;clear KH1;clear hSt hpre hA1 hA2 hK2 hB2 hal hT1 hbw1 hlen hR KH;go_enter Tryz.func75,Tryz.ntmps75;go_wp2_with (first | (go_at_call 35; refine (KH2.out _).mono ?_; rintro x w' ⟨rfl,hw'⟩; subst hw'));clear KH2;go_loopw [7] (fun v wr => Dr.SyR b S w1 R v wr) (fun _ wr => Dr.left b S wr);case atStart => exact HK0.out
   case round =>
    unfold Dr.SyR at hrel;obtain ⟨first,l',bs,rfl,hA,hK,hBu,hSy,hbl⟩ := hrel;clear HK0;have hTr : Dr.Tabs wr := Dr.tabs_kept HNE.out.1 HNE.out.2.1 HNE.out.2.2 hK;have hAle := hA.le;have hb41 : bs.length ≤ 4194304 := by omega
    obtain ⟨c0,c1,c2⟩ := hA.cells;obtain ⟨q,hq⟩ : ∃ z,S.size - l'.length = z := ⟨_,rfl⟩;rw [hq] at c1;have hq0 : 0 ≤ (q : Int) := by omega
    have HG := Lib.hid (fun (bts r3 : List UInt8) (hstep : Dr.sym1 first l' = some (bts,r3)) (hb4 : bts.length ≤ 4) (W : World) (hAt : Dr.At b S r3 false W) (hK2 : Dr.Kept b w1 W) (hB2 : Dr.Bu (b + 1) (b + 1) (bs ++ bts) W) =>
      show Dr.SyR b S w1 R (.bool false) W ∧ Dr.left b S W < Dr.left b S wr from by
       have hlt := Dr.sym1_lt hstep
       exact ⟨⟨false,r3,bs ++ bts,rfl,hAt,hK2,hB2,hSy.step hstep,by rw [List.length_append]; omega⟩,by rw [hAt.left,hA.left]; exact hlt⟩)
    have HX := Lib.hid (fun (hne : ¬ (l' = [] ∧ first = false)) (hno : Dr.sym1 first l' = none) (W : World) (hK2 : Dr.Kept b w1 W) => show Dr.PostS w R Dr.dead W from (HEND.out W hK2).1 (hSy.dead hne hno));have HZ := Lib.hid (fun (hl0 : l' = []) (hf0 : first = false) (W : World) (hK2 : Dr.Kept b w1 W) => show Dr.PostS w R (.returned (.string ⟨bs.toArray⟩)) W from (HEND.out W hK2).2 bs (by subst hl0 hf0; exact hSy.stop));have HBL := Lib.hid (fun (wa W : World) (hK1 : Dr.Kept b w1 wa) (hb : Below (b + 1) wa W) => show Dr.Kept b w1 W from hK1.belowB (by rw [hz1]; exact hb));by_cases hend : l' = [] ∧ first = false
    · obtain ⟨hl0,hf0⟩ := hend;have hqe : q = S.size := by rw [← hq,hl0]; rfl
      have KW := Lib.hid hBu.string;have HE0 := Lib.hid (fun (W : World) (hb : Below (b + 1) wr W) => HZ.out hl0 hf0 W (HBL.out wr W hK hb));subst hf0 hqe;clear hA hK hBu hSy hbl hTr hAle hb41 HG HX HZ HBL hq;go_wp2_with fail;refine KW.out.mono ?_;rintro x w3 ⟨rfl,hb3⟩;have HE := Lib.hid (HE0.out w3 hb3);clear HE0 hb3 KW;go_wp2_with fail;go_ret;exact HE.out
    have hgo : (first = true ∧ decide (q < S.size) = false) ∨ (first = true ∧ decide (q < S.size) = true) ∨ (first = false ∧ decide (q < S.size) = true) := by
     cases hf : first with
     | true => cases decide (q < S.size) <;> simp
     | false =>
       refine .inr (.inr ⟨rfl,decide_eq_true ?_⟩);have : l' ≠ [] := fun e => hend ⟨e,hf⟩;have := List.length_pos_iff.2 this;omega
    have HX1 := Lib.hid (fun hno W hK2 => HX.out hend hno W hK2);have hnoA : Dr.next l' = none → Dr.sym1 first l' = none := fun hn => by unfold Dr.sym1; rw [hn]
    have hsyA : ∀ c r,Dr.next l' = some (c,r) → Dr.sym1 first l' = if c = 92 then
     (match Dr.next r with
     | none => none
     | some (c2,r2) => if c2 = 120 then (match Dr.esc r2 with | none => none | some (d,r3) => some (Lib.encodeRune d,r3)) else none)
     else if ((first && !Wt.firstB c) || !Wt.restB c) = true then none else some (Lib.encodeRune c,r) := fun c r hn => by unfold Dr.sym1; rw [hn]; rfl
    have HNO := Lib.hid hnoA;have HSYA := Lib.hid hsyA;have KF := fun hn => Dr.next_none b S l' false wr hA hn hTr;have KN := fun c r hn => Dr.next_ok b S l' false c r wr hA hsz hn hTr;have HW1 := Lib.hid (fun (r : List UInt8) (w3 : World) (hA1 : Dr.At b S r false w3) (hK1 : Dr.Kept b wr w3) => show Dr.Kept b w1 w3 ∧ Dr.Bu (b + 1) (b + 1) bs w3 ∧ Dr.Tabs w3 from ⟨hK.trans hK1,hBu.kept hK1 hbB,Dr.tabs_kept HNE.out.1 HNE.out.2.1 HNE.out.2.2 (hK.trans hK1)⟩);have HK := Lib.hid hK;clear hA hK hBu hSy hbl hTr hAle HZ hq hend hs HX hnoA hsyA;rcases hgo with ⟨rfl,hg⟩ | ⟨rfl,hg⟩ | ⟨rfl,hg⟩;all_goals
     cases hn : Dr.next l' with
     | none =>
       have KF := KF hn;have HE0 := Lib.hid (fun (w3 : World) (hb1 : Below wr.heap.size wr w3) => HX1.out (HNO.out hn) w3 (HK.out.trans (Dr.Kept.of_below hb1)));clear hn HNO HSYA HG HX1 HBL HW1 KN;go_wp2_with fail;refine KF.mono ?_;rintro x w3 ⟨rfl,hb1⟩;have HE := Lib.hid (HE0.out w3 hb1);clear HE0 hb1;unfold Dr.dead at *;go_wp2_with fail;exact ⟨rfl,HE.out⟩
     | some x =>
       obtain ⟨c,r⟩ := x;have KN := KN c r hn;have hok := Dr.next_ok32 hn;have hsy := HSYA.out c r hn;clear hn KF HNO HSYA;by_cases h92 : c = 92
       · rw [if_pos h92] at hsy;subst h92;cases hn2 : Dr.next r with
         | none =>
           rw [hn2] at hsy;have HSY := Lib.hid (show Dr.sym1 _ l' = none from hsy);have HE0 := Lib.hid (fun (W : World) (hK2 : Dr.Kept b w1 W) => HX1.out HSY.out W hK2);clear hsy HG HX1 HSY HBL;go_wp2_with fail;refine KN.mono ?_;rintro x w3 ⟨rfl,hA1,hK1⟩;obtain ⟨hK2,hB2,hT2⟩ := HW1.out r w3 hA1 hK1;have KP := Lib.hid (Dr.next_none b S r false w3 hA1 hn2 hT2);have HE1 := Lib.hid (fun (w4 : World) (hb4 : Below w3.heap.size w3 w4) => HE0.out w4 (hK2.trans (Dr.Kept.of_below hb4)));clear hA1 hK1 hK2 hB2 hT2 HE0 HW1 hn2;go_wp2_with fail;refine KP.out.mono ?_;rintro x w4 ⟨rfl,hb4⟩;have HE := Lib.hid (HE1.out w4 hb4);clear HE1 hb4 KP;unfold Dr.dead at *;go_wp2_with fail;exact ⟨rfl,HE.out⟩
         | some x2 =>
           obtain ⟨c2,r2⟩ := x2;rw [hn2] at hsy;have hsy1 : Dr.sym1 _ l' = if c2 = 120 then (match Dr.esc r2 with | none => none | some (d,r3) => some (Lib.encodeRune d,r3)) else none := hsy;clear hsy;have KN2 := Lib.hid (fun (w3 : World) (hA1 : Dr.At b S r false w3) (hT2 : Dr.Tabs w3) => Dr.next_ok b S r false c2 r2 w3 hA1 hsz hn2 hT2);by_cases h120 : c2 = 120
           · rw [if_pos h120] at hsy1;subst h120;cases hE : Dr.esc r2 with
             | none =>
               rw [hE] at hsy1;have HSY := Lib.hid (show Dr.sym1 _ l' = none from hsy1);have KE := Lib.hid (fun (w4 : World) (hA2 : Dr.At b S r2 false w4) (hT3 : Dr.Tabs w4) => show Calls Tryz.prog 68 #[.pointer (some ⟨b,0,none⟩)] w4 (fun e w' => Dr.PostE b S false w4 none e w') from hE ▸ Dr.escape_any b S false r2 w4 hA2 hsz hT3);have HE0 := Lib.hid (fun (W : World) (hK2 : Dr.Kept b w1 W) => HX1.out HSY.out W hK2);clear hsy1 HG HX1 HSY HBL hE hn2;go_wp2_with fail;refine KN.mono ?_;rintro x w3 ⟨rfl,hA1,hK1⟩;obtain ⟨hK2,hB2,hT2⟩ := HW1.out r w3 hA1 hK1;have KP := Lib.hid (KN2.out w3 hA1 hT2);have HE1 := Lib.hid (fun (w4 : World) (hA2 : Dr.At b S r2 false w4) (hK4 : Dr.Kept b w3 w4) => And.intro (KE.out w4 hA2 (Dr.tabs_kept HNE.out.1 HNE.out.2.1 HNE.out.2.2 (hK2.trans hK4))) (fun (w5 : World) (hK5 : Dr.Kept b w4 w5) => HE0.out w5 ((hK2.trans hK4).trans hK5)));clear hA1 hK1 hK2 hB2 hT2 HE0 HW1 KE KN2;go_wp2_with fail;refine KP.out.mono ?_;rintro x w4 ⟨rfl,hA2,hK4⟩;obtain ⟨KE1,HE2⟩ := HE1.out w4 hA2 hK4;have KE2 := Lib.hid KE1;have HE3 := Lib.hid HE2;clear HE1 hA2 hK4 KP KE1 HE2;go_wp2_with fail;refine KE2.out.mono ?_;rintro x w5 ⟨rfl,hK5⟩;have HE := Lib.hid (HE3.out w5 hK5);clear HE3 hK5 KE2;unfold Dr.dead at *;go_wp2_with fail;exact ⟨rfl,HE.out⟩
             | some x3 =>
               obtain ⟨d,r3⟩ := x3;rw [hE] at hsy1;have HSY := Lib.hid (show Dr.sym1 _ l' = some (Lib.encodeRune d,r3) from hsy1);have hokd := Dr.esc_ok hE;have KE := Lib.hid (fun (w4 : World) (hA2 : Dr.At b S r2 false w4) (hT3 : Dr.Tabs w4) => show Calls Tryz.prog 68 #[.pointer (some ⟨b,0,none⟩)] w4 (fun e w' => Dr.PostE b S false w4 (some (d,r3)) e w') from hE ▸ Dr.escape_any b S false r2 w4 hA2 hsz hT3);have HE0 := Lib.hid (fun (w3 W : World) (hA1 : Dr.At b S r3 false w3) (hK2 : Dr.Kept b w1 w3) (hb : Below (b + 1) w3 W) (hBW : Dr.Bu (b + 1) (b + 1) (bs ++ Lib.encodeRune d) W) => HG.out _ _ HSY.out (Ru.encode_length d).2 W (hA1.belowB hb hbB) (HBL.out w3 W hK2 hb) hBW);clear hsy1 HG HX1 HSY HBL hE hn2;go_wp2_with fail;refine KN.mono ?_;rintro x w3 ⟨rfl,hA1,hK1⟩;obtain ⟨hK2,hB2,hT2⟩ := HW1.out r w3 hA1 hK1;have KP := Lib.hid (KN2.out w3 hA1 hT2);have HE1 := Lib.hid (fun (w4 : World) (hA2 : Dr.At b S r2 false w4) (hK4 : Dr.Kept b w3 w4) => And.intro (KE.out w4 hA2 (Dr.tabs_kept HNE.out.1 HNE.out.2.1 HNE.out.2.2 (hK2.trans hK4))) (fun (w5 : World) (hA5 : Dr.At b S r3 false w5) (hK5 : Dr.Kept b w4 w5) => And.intro ((hB2.kept hK4 hbB).kept hK5 hbB) (fun W => HE0.out w5 W hA5 ((hK2.trans hK4).trans hK5))));clear hA1 hK1 hK2 hB2 hT2 HE0 HW1 KE KN2;go_wp2_with fail;refine KP.out.mono ?_;rintro x w4 ⟨rfl,hA2,hK4⟩;obtain ⟨KE1,HE2⟩ := HE1.out w4 hA2 hK4;have KE2 := Lib.hid KE1;have HE3 := Lib.hid HE2;clear HE1 hA2 hK4 KP KE1 HE2;go_wp2_with fail
               refine KE2.out.mono ?_;rintro x w5 ⟨rfl,hA5,hK5⟩;obtain ⟨hB5,HE4⟩ := HE3.out w5 hA5 hK5;have HE5 := Lib.hid HE4;have KW := Lib.hid (hB5.rune d hokd hb41);clear HE3 hA5 hK5 KE2 hB5 HE4;go_wp2_with fail;refine KW.out.mono ?_;rintro x w6 ⟨n,rfl,hB6,hb6⟩;have HE := Lib.hid (HE5.out w6 hb6 hB6);clear HE5 hB6 hb6 KW;go_wp2_with fail;exact HE.out
           · rw [if_neg h120] at hsy1;have e120 : (c2 != 120) = true := bne_iff_ne.2 h120;have HSY := Lib.hid hsy1;have HE0 := Lib.hid (fun (W : World) (hK2 : Dr.Kept b w1 W) => HX1.out HSY.out W hK2);clear hsy1 HG HX1 HSY HBL hn2 h120;go_wp2_with fail;refine KN.mono ?_;rintro x w3 ⟨rfl,hA1,hK1⟩;obtain ⟨hK2,hB2,hT2⟩ := HW1.out r w3 hA1 hK1;have KP := Lib.hid (KN2.out w3 hA1 hT2);have HE1 := Lib.hid (fun (w4 : World) (hK4 : Dr.Kept b w3 w4) => HE0.out w4 (hK2.trans hK4));clear hA1 hK1 hK2 hB2 hT2 HE0 HW1 KN2;go_wp2_with fail;refine KP.out.mono ?_;rintro x w4 ⟨rfl,hA2,hK4⟩;have HE := Lib.hid (HE1.out w4 hK4);clear HE1 hA2 hK4 KP;go_wp2_with fail;refine (Dr.stop_any _ _).mono ?_;rintro x w6 ⟨rfl,hw6⟩;subst hw6;unfold Dr.dead at *;go_wp2_with fail;exact ⟨rfl,HE.out⟩
       have e92 : (c == 92) = false := beq_eq_false_iff_ne.2 h92;rw [if_neg h92] at hsy;have KR := fun w' => Wt.Rest_any c hok w';have KQ := fun w' => Wt.First_any c hok w';cases hr : Wt.restB c;all_goals
        cases hf : Wt.firstB c;all_goals
         rw [hr] at KR;rw [hf] at KQ;have HSY := Lib.hid hsy;rw [hr,hf] at HSY;have KR1 := Lib.hid KR;have KQ1 := Lib.hid KQ;clear KR KQ;simp only [Bool.true_and,Bool.false_and,Bool.not_true,Bool.not_false,Bool.or_true,Bool.or_false,Bool.true_or,Bool.false_or,if_true,if_false,Bool.false_eq_true] at HSY;clear hsy hr hf;first
          | (have HE0 := Lib.hid (fun (W : World) (hK2 : Dr.Kept b w1 W) => HX1.out HSY.out W hK2)
             clear HG HX1 HSY HBL
             go_wp2_with fail
             refine KN.mono ?_
             rintro x w3 ⟨rfl,hA1,hK1⟩
             obtain ⟨hK2,hB2,hT2⟩ := HW1.out r w3 hA1 hK1
             have HK2 := Lib.hid hK2
             clear hA1 hK1 hB2 hT2 HW1 hK2
             go_wp2_with fail
             first
              | (refine (KQ1.out _).mono ?_
                 rintro x w4 ⟨rfl,hb4⟩
                 have HK3 := Lib.hid (HK2.out.trans (Dr.Kept.of_below hb4))
                 clear hb4 HK2
                 go_wp2_with fail
                 first
                  | (refine (KR1.out _).mono ?_
                     rintro x w5 ⟨rfl,hb5⟩
                     have HE := Lib.hid (HE0.out w5 (HK3.out.trans (Dr.Kept.of_below hb5)))
                     clear hb5 HE0
                     go_wp2_with fail
                     refine (Dr.stop_any _ _).mono ?_
                     rintro x w6 ⟨rfl,hw6⟩
                     subst hw6
                     unfold Dr.dead at *
                     go_wp2_with fail
                     exact ⟨rfl,HE.out⟩)
                  | (have HE := Lib.hid (HE0.out w4 HK3.out)
                     clear HE0
                     refine (Dr.stop_any _ _).mono ?_
                     rintro x w6 ⟨rfl,hw6⟩
                     subst hw6
                     unfold Dr.dead at *
                     go_wp2_with fail
                     exact ⟨rfl,HE.out⟩))
              | (refine (KR1.out _).mono ?_
                 rintro x w5 ⟨rfl,hb5⟩
                 have HE := Lib.hid (HE0.out w5 (HK2.out.trans (Dr.Kept.of_below hb5)))
                 clear hb5 HE0
                 go_wp2_with fail
                 refine (Dr.stop_any _ _).mono ?_
                 rintro x w6 ⟨rfl,hw6⟩
                 subst hw6
                 unfold Dr.dead at *
                 go_wp2_with fail
                 exact ⟨rfl,HE.out⟩))
          | (have HE0 := Lib.hid (fun (w3 W : World) (hA1 : Dr.At b S r false w3) (hK2 : Dr.Kept b w1 w3) (hb : Below (b + 1) w3 W) (hBW : Dr.Bu (b + 1) (b + 1) (bs ++ Lib.encodeRune c) W) => HG.out _ _ HSY.out (Ru.encode_length c).2 W (hA1.belowB hb hbB) (HBL.out w3 W hK2 hb) hBW)
             clear HG HX1 HSY HBL
             go_wp2_with fail
             refine KN.mono ?_
             rintro x w3 ⟨rfl,hA1,hK1⟩
             obtain ⟨hK2,hB2,hT2⟩ := HW1.out r w3 hA1 hK1
             have HK2 := Lib.hid (show Dr.At b S r false w3 ∧ Dr.Kept b w1 w3 ∧ Dr.Bu (b + 1) (b + 1) bs w3 from ⟨hA1,hK2,hB2⟩)
             clear hA1 hK1 hB2 hT2 HW1 hK2
             go_wp2_with fail
             first
              | (refine (KQ1.out _).mono ?_
                 rintro x w4 ⟨rfl,hb4⟩
                 have HK3 := Lib.hid (show Dr.At b S r false w4 ∧ Dr.Kept b w1 w4 ∧ Dr.Bu (b + 1) (b + 1) bs w4 from ⟨HK2.out.1.below hb4,HK2.out.2.1.trans (Dr.Kept.of_below hb4),HK2.out.2.2.kept (Dr.Kept.of_below (b := b) hb4) hbB⟩)
                 clear hb4 HK2
                 go_wp2_with fail)
              | (have HK3 := HK2; clear HK2)
             refine (KR1.out _).mono ?_
             rintro x w5 ⟨rfl,hb5⟩
             obtain ⟨hA5,hK5,hB5⟩ := HK3.out
             have KW := Lib.hid ((hB5.kept (Dr.Kept.of_below (b := b) hb5) hbB).rune c hok hb41)
             have HE1 := Lib.hid (fun W => HE0.out w5 W (hA5.below hb5) (hK5.trans (Dr.Kept.of_below hb5)))
             clear hb5 HK3 HE0 hA5 hK5 hB5 KR1 KQ1
             go_wp2_with fail
             refine KW.out.mono ?_
             rintro x w6 ⟨n,rfl,hB6,hb6⟩
             have HE := Lib.hid (HE1.out w6 hb6 hB6)
             clear HE1 hB6 hb6 KW
             go_wp2_with fail
             exact HE.out)
set_option maxHeartbeats 200000
set_option maxRecDepth 512
inductive Dr.Ans where
 | err (e : Int)
 | ok (t : Tr) (n : Nat)
inductive Dr.One (s : List UInt8) : Dr.Ans → Prop where
 | fault1 (h : Dr.Rel (.blanks s) .fault) : Dr.One s (.err 5)
 | none (h : Dr.Rel (.blanks s) (.skip [])) : Dr.One s (.err 11)
 | fault2 {r} (h : Dr.Rel (.blanks s) (.skip r)) (hr : r ≠ []) (h2 : Dr.Rel (.datum r) .fault) : Dr.One s (.err 5)
 | big {r t r2 b} (h : Dr.Rel (.blanks s) (.skip r)) (hr : r ≠ []) (h2 : Dr.Rel (.datum r) (.got t r2 b)) (hb : (b || !Tr.sound t) = true) : Dr.One s (.err 4)
 | ok {r t r2 b} (h : Dr.Rel (.blanks s) (.skip r)) (hr : r ≠ []) (h2 : Dr.Rel (.datum r) (.got t r2 b)) (hb : (b || !Tr.sound t) = false) : Dr.One s (.ok t (s.length - r2.length))
theorem Dr.skips {l : List UInt8} {R : Dr.Res} (h : Dr.Rel (.blanks l) R) : R = .fault ∨ ∃ r,R = .skip r ∧ r.length ≤ l.length := by
 have := h.less;cases R with
 | fault => exact .inl rfl
 | skip r => exact .inr ⟨r,rfl,this⟩
 | got => exact absurd this id
 | list => exact absurd this id
 | lst => exact absurd this id
theorem Dr.gots {l : List UInt8} {R : Dr.Res} (h : Dr.Rel (.datum l) R) : R = .fault ∨ ∃ t r b,R = .got t r b ∧ r.length < l.length := by
 have := h.less;cases R with
 | fault => exact .inl rfl
 | got t r b => exact .inr ⟨t,r,b,rfl,this⟩
 | skip => exact absurd this id
 | list => exact absurd this id
 | lst => exact absurd this id
theorem Dr.One.total (s : List UInt8) : ∃ A,Dr.One s A := by
 obtain ⟨R,hR⟩ := Dr.total (.blanks s);rcases Dr.skips hR with rfl | ⟨r,rfl,_⟩
 · exact ⟨_,.fault1 hR⟩
 · by_cases hr : r = []
   · subst hr;exact ⟨_,.none hR⟩
   · obtain ⟨R2,hR2⟩ := Dr.total (.datum r);rcases Dr.gots hR2 with rfl | ⟨t,r2,b,rfl,_⟩
     · exact ⟨_,.fault2 hR hr hR2⟩
     · cases hb : (b || !Tr.sound t)
       · exact ⟨_,.ok hR hr hR2 hb⟩
       · exact ⟨_,.big hR hr hR2 hb⟩
theorem Dr.One.ok_le {s : List UInt8} {t : Tr} {n : Nat} (h : Dr.One s (.ok t n)) : 1 ≤ n ∧ n ≤ s.length ∧ Tr.sound t = true := by
 cases h with
 | @ok r t r2 b h1 hr h2 hb =>
   rcases Dr.skips h1 with e | ⟨r',e,h3⟩
   · cases e
   · cases e;rcases Dr.gots h2 with e | ⟨t',r2',b',e,h4⟩
     · cases e
     · cases e;simp only [Bool.or_eq_false_iff,Bool.not_eq_false'] at hb;exact ⟨by omega,by omega,hb.2⟩
theorem Dr.cp_enc (r : Int) (h : Ru.okR r) (t : List UInt8) : Dr.cp (Lib.encodeRune r ++ t) = r ∧ Dr.wd (Lib.encodeRune r ++ t) = (Lib.encodeRune r).length := by
 unfold Dr.cp Dr.wd;rw [Ru.decode_encode r h t];refine ⟨?_,rfl⟩;show ((r.toNat : Nat) : Int) = r;unfold Ru.okR at h;omega
theorem Dr.asc (b : UInt8) (t : List UInt8) (h : b.toNat < 128) : Dr.cp (b :: t) = b.toNat ∧ Dr.wd (b :: t) = 1 := by
 have e : Lib.encodeRune (b.toNat : Int) = [b] := by
  unfold Lib.encodeRune;rw [Lib.encodeRuneZ_one (by omega) (by omega)];simp
 have := Dr.cp_enc (b.toNat : Int) (by unfold Ru.okR; omega) t;rw [e] at this;exact this
theorem Dr.asc_bad (b : UInt8) (t : List UInt8) (h : b.toNat < 128) : Dr.bad (b :: t) = false := by
 unfold Dr.bad;rw [(Dr.asc b t h).1];rw [decide_eq_false (by omega),Bool.false_and]
def Dr.PostBk (b : Nat) (S : ByteArray) (g : Bool) (w : World) (R : Dr.Res) (e : Ending) (w' : World) : Prop :=
 match R with
 | .fault => e = Dr.dead ∧ Dr.Kept b w w'
 | .skip r => e = .returned (.tuple #[]) ∧ Dr.At b S r g w' ∧ Dr.Kept b w w'
 | _ => False
def Dr.PostDm (b : Nat) (S : ByteArray) (g : Bool) (w : World) (R : Dr.Res) (e : Ending) (w' : World) : Prop :=
 match R with
 | .fault => e = Dr.dead ∧ Dr.Kept b w w'
 | .got t r big => ∃ v,e = .returned v ∧ Tr.In w' (fun q => w.heap.size ≤ q) t v ∧ Dr.At b S r (g || big) w' ∧ Dr.Kept b w w'
 | _ => False
def Dr.PostIt (b : Nat) (S : ByteArray) (g : Bool) (w : World) (R : Dr.Res) (e : Ending) (w' : World) : Prop :=
 match R with
 | .fault => e = Dr.dead ∧ Dr.Kept b w w'
 | .list ts r big => ∃ v,e = .returned v ∧ Tr.LIn w' (fun q => w.heap.size ≤ q) ts v ∧ ts.length ≤ S.size ∧ Dr.At b S r (g || big) w' ∧ Dr.Kept b w w'
 | _ => False
def Dr.PostPr (b : Nat) (S : ByteArray) (g : Bool) (w : World) (R : Dr.Res) (e : Ending) (w' : World) : Prop :=
 match R with
 | .fault => e = Dr.dead ∧ Dr.Kept b w w'
 | .lst ts last r big => ∃ v,e = .returned v ∧ Tr.In w' (fun q => w.heap.size ≤ q) (Dr.listT ts last) v ∧ Dr.At b S r (g || big) w' ∧ Dr.Kept b w w'
 | _ => False
def Dr.Con : Dr.Job → Prop
 | .blanks l => ∀ (b : Nat) (S : ByteArray) (g : Bool) (w : World) (R : Dr.Res),Dr.At b S l g w → S.size ≤ 1048576 → Dr.Tabs w → Dr.Rel (.blanks l) R →
     Calls Tryz.prog 20 #[.pointer (some ⟨b,0,none⟩)] w fun e w' => Dr.PostBk b S g w R e w'
 | .datum l => ∀ (b : Nat) (S : ByteArray) (g : Bool) (w : World) (R : Dr.Res),Dr.At b S l g w → S.size ≤ 1048576 → Dr.Tabs w → Dr.Rel (.datum l) R →
     Calls Tryz.prog 21 #[.pointer (some ⟨b,0,none⟩)] w fun e w' => Dr.PostDm b S g w R e w'
 | .items e l => ∀ (b : Nat) (S : ByteArray) (g : Bool) (w : World) (R : Dr.Res),Dr.At b S l g w → S.size ≤ 1048576 → Dr.Tabs w → Dr.Rel (.items e l) R → e = 41 →
     Calls Tryz.prog 41 #[.pointer (some ⟨b,0,none⟩),.int .i32 41] w fun e w' => Dr.PostIt b S g w R e w'
 | .pairs e f l => ∀ (b : Nat) (S : ByteArray) (g : Bool) (w : World) (R : Dr.Res) (o : Int),Dr.At b S l g w → S.size ≤ 1048576 → Dr.Tabs w → Dr.Rel (.pairs e f l) R → e = Dr.close o → (o = 40 ∨ o = 91) → f = true →
     Calls Tryz.prog 38 #[.pointer (some ⟨b,0,none⟩),.int .i32 o] w fun e w' => Dr.PostPr b S g w R e w'
theorem Dr.bk_inv_stop {l : List UInt8} {R : Dr.Res} (h : Dr.bk l = .stop) (k : Dr.Rel (.blanks l) R) : R = .skip l := k.det (.bStop h)
theorem Dr.bk_inv_fault {l : List UInt8} {R : Dr.Res} (h : Dr.bk l = .fault) (k : Dr.Rel (.blanks l) R) : R = .fault := k.det (.bFault h)
theorem Dr.bk_inv_go {l r : List UInt8} {R : Dr.Res} (h : Dr.bk l = .go r) (k : Dr.Rel (.blanks l) R) : Dr.Rel (.blanks r) R := by
 obtain ⟨R',hR'⟩ := Dr.total (.blanks r);rw [k.det (.bGo h hR')];exact hR'
theorem Dr.bk_inv_datum {l r : List UInt8} {R : Dr.Res} (h : Dr.bk l = .datum r) (k : Dr.Rel (.blanks l) R) : (Dr.Rel (.blanks r) .fault ∧ R = .fault) ∨ ∃ r1,Dr.Rel (.blanks r) (.skip r1) ∧ r1.length ≤ r.length ∧
 ((Dr.Rel (.datum r1) .fault ∧ R = .fault) ∨ ∃ t r2 big,Dr.Rel (.datum r1) (.got t r2 big) ∧ r2.length < r1.length ∧ Dr.Rel (.blanks r2) R) := by
 obtain ⟨R1,h1⟩ := Dr.total (.blanks r)
 rcases Dr.skips h1 with rfl | ⟨r1,rfl,hl⟩
 · exact .inl ⟨h1,k.det (.bDat1 h h1)⟩
 · refine .inr ⟨r1,h1,hl,?_⟩;obtain ⟨R2,h2⟩ := Dr.total (.datum r1);rcases Dr.gots h2 with rfl | ⟨t,r2,b,rfl,hl2⟩
   · exact .inl ⟨h2,k.det (.bDat2 h h1 h2)⟩
   · obtain ⟨R3,h3⟩ := Dr.total (.blanks r2);refine .inr ⟨t,r2,b,h2,hl2,?_⟩;rw [k.det (.bDat3 h h1 h2 h3)];exact h3
def Dr.pc (l : List UInt8) : Int := if l = [] then 0 else Dr.cp l
def Dr.pn (l : List UInt8) : Nat := if l = [] then 0 else Dr.wd l
theorem Dr.pc_nil : Dr.pc [] = 0 ∧ Dr.pn [] = 0 := ⟨rfl,rfl⟩
theorem Dr.pc_cons {l : List UInt8} (h : l ≠ []) : Dr.pc l = Dr.cp l ∧ Dr.pn l = Dr.wd l := by
 unfold Dr.pc Dr.pn;exact ⟨if_neg h,if_neg h⟩
theorem Dr.peek_pc (b : Nat) (S : ByteArray) (l : List UInt8) (g : Bool) (w : World) (h : Dr.At b S l g w) (hb : l = [] ∨ Dr.bad l = false) (hT : Dr.Tabs w) :
 Calls Tryz.prog 32 #[.pointer (some ⟨b,0,none⟩)] w fun e w' => e = .returned (.tuple #[.int .i32 (Dr.pc l),.int .i64 (Dr.pn l)]) ∧ Below w.heap.size w w' := by
 unfold Dr.pc Dr.pn
 by_cases hl : l = []
 · subst hl;rw [if_pos rfl,if_pos rfl];exact Dr.peek_end b S g w h
 · rw [if_neg hl,if_neg hl];exact Dr.peek_ok b S l g w h hl (hb.resolve_left hl) hT
theorem Dr.line_eq {l : List UInt8} (h : l ≠ []) (hb : Dr.bad l = false) : Dr.line l = if Dr.lineC (Dr.cp l) = true then some l else Dr.line (l.drop (Dr.wd l)) := by
 rw [Dr.line,dif_neg h,if_neg (by rw [hb]; simp)]
theorem Dr.line_nil : Dr.line [] = some [] := by rw [Dr.line,dif_pos rfl]
theorem Dr.line_bad {l : List UInt8} (h : l ≠ []) (hb : Dr.bad l = true) : Dr.line l = none := by rw [Dr.line,dif_neg h,if_pos hb]
theorem Dr.bk_eq {l : List UInt8} (h : l ≠ []) (hb : Dr.bad l = false) : Dr.bk l = if Ch.blankB (Dr.cp l) = true then .go (l.drop (Dr.wd l))
 else if Dr.cp l = 59 then (match Dr.line l with | none => .fault | some r => .go r)
 else if l.take 2 = [35,59] then .datum (l.drop 2)
 else if l.take 2 = [35,124] then (match Dr.remark 0 l with | none => .fault | some r => .go r) else .stop := by
 rw [Dr.bk,if_neg h,if_neg (by rw [hb]; simp)]
 rfl
theorem Dr.bk_nil : Dr.bk [] = .stop := by rw [Dr.bk,if_pos rfl]
theorem Dr.bk_bad {l : List UInt8} (h : l ≠ []) (hb : Dr.bad l = true) : Dr.bk l = .fault := by rw [Dr.bk,if_neg h,if_pos hb]
theorem Dr.At.flag {b : Nat} {S : ByteArray} {l : List UInt8} {g : Bool} {w : World} (h : Dr.At b S l g w) (g' : Bool) :
 ∃ W,w.setCell ⟨b,2,none⟩ (.bool g') = W ∧ w.frozen? ⟨b,2,none⟩ = false ∧ Dr.At b S l g' W ∧ Dr.Kept b w W ∧ W.heap.size = w.heap.size := by
 have hq := h.blk
 refine ⟨_,rfl,by simp [World.frozen?,hq],⟨?_,h.suf,h.le⟩,⟨rfl,rfl,rfl,by simp,fun q hq hne => ?_⟩,by simp⟩
 · have := heap_setCell_same w b 2 _ _ (.bool g') hq;exact this
 · exact heap_setCell_other w ⟨b,2,none⟩ q _ (fun e => hne (by simp [e]))
set_option maxHeartbeats 4000000
set_option maxRecDepth 1000000
theorem Dr.blanks_con (l : List UInt8) (IH : ∀ j : Dr.Job,j.len < (Dr.Job.blanks l).len → Dr.Con j) : Dr.Con (.blanks l) := by
 intro b S g w R h hs hT hR;have HIH := Lib.hid IH;have H0 := Lib.hid (show ∃ l',Dr.At b S l' g w ∧ Dr.Kept b w w ∧ Dr.Rel (.blanks l') R ∧ l'.length ≤ l.length from ⟨l,h,Dr.Kept.refl _ _,hR,Nat.le_refl _⟩);have HNE := Lib.hid (And.intro hT (h.tabs_ne hT));have hs2 : S.size ≤ 9223372036854775807 := Nat.le_trans hs (by decide);have HS := Lib.hid hs;have HS2 := Lib.hid hs2;clear h hT hR IH hs hs2;go_enter Tryz.func20,Tryz.ntmps20;go_wp2_with fail;go_loopw [] (fun wr => ∃ l',Dr.At b S l' g wr ∧ Dr.Kept b w wr ∧ Dr.Rel (.blanks l') R ∧ l'.length ≤ l.length) (fun wr => Dr.left b S wr);case atStart => exact H0.out
 case round =>
  obtain ⟨l',hA,hK,hR,hll⟩ := hrel;obtain ⟨wo,hwo⟩ : ∃ z,z = wr := ⟨_,rfl⟩;subst hwo;clear H0;have hTr : Dr.Tabs wo := Dr.tabs_kept HNE.out.1 HNE.out.2.1 HNE.out.2.2 hK;have HM := Lib.hid hA.left;have hAle := hA.le;obtain ⟨p,hp⟩ : ∃ z,S.size - l'.length = z := ⟨_,rfl⟩;have HP := Lib.hid hp;have hps : (p : Int) ≤ (S.size : Int) := by omega
  have hp0 : 0 ≤ (p : Int) := by omega
  have hsub := hA.sub;rw [hp] at hsub;have HC := Lib.hid (fun (w' : World) (hb : Below wo.heap.size wo w') => (hA.below hb).cells);rw [hp] at HC;have HTB := Lib.hid (fun (w1 : World) (hb1 : Below wo.heap.size wo w1) => Utf8Tabs_below hTr hb1);have HTK := Lib.hid (fun (w1 : World) (hk : Dr.Kept b w w1) => Dr.tabs_kept HNE.out.1 HNE.out.2.1 HNE.out.2.2 hk);have HF := Lib.hid (fun (w1 : World) (hk : Dr.Kept b w w1) (hbk : Dr.bk l' = .fault) => show Dr.PostBk b S g w R Dr.dead w1 from by
    rw [Dr.bk_inv_fault hbk hR]
    exact ⟨rfl,hk⟩)
  have HGO := Lib.hid (fun (w1 : World) (r : List UInt8) (hA1 : Dr.At b S r g w1) (hk : Dr.Kept b w w1) (hbk : Dr.bk l' = .go r) => show (∃ l'',Dr.At b S l'' g w1 ∧ Dr.Kept b w w1 ∧ Dr.Rel (.blanks l'') R ∧ l''.length ≤ l.length) ∧ Dr.left b S w1 < Dr.left b S wo from
    ⟨⟨r,hA1,hk,Dr.bk_inv_go hbk hR,by have := Dr.bk_go hbk; omega⟩,by rw [hA1.left,HM.out]; exact Dr.bk_go hbk⟩)
  have HSTOP := Lib.hid (fun (w1 : World) (hb1 : Below wo.heap.size wo w1) (hbk : Dr.bk l' = .stop) => show Dr.PostBk b S g w R (.returned (.tuple #[])) w1 from by
    rw [Dr.bk_inv_stop hbk hR]
    exact ⟨rfl,hA.below hb1,hK.trans (Dr.Kept.of_below hb1)⟩)
  have HA := Lib.hid hA;have HK := Lib.hid hK;have HR := Lib.hid hR;have HLL := Lib.hid hll;by_cases hl : l' = []
  · subst hl;have KP := Dr.peek_end b S g wo hA;have HSTOP2 := Lib.hid (fun w1 hb1 => HSTOP.out w1 hb1 Dr.bk_nil);clear hTr hA hK hR hll hAle hp HP hps hp0 hsub HC HF HGO HSTOP HTB HTK HM HNE HS HS2 HA HK HR HLL;go_wp2_with fail;refine KP.mono ?_;rintro x w1 ⟨rfl,hb1⟩;have HE := Lib.hid (HSTOP2.out w1 hb1);clear KP hb1 HSTOP2;go_wp2_with fail;first | go_end0 | refine bodyPost_ret (results_none rfl _ _ _) rfl ?_
    exact HE.out
  cases hb : Dr.bad l' with
  | true =>
    have KP := Dr.peek_bad b S l' g wo hA hl hb hTr;have HF2 := Lib.hid (fun w1 (hb1 : Below wo.heap.size wo w1) => HF.out w1 (hK.trans (Dr.Kept.of_below hb1)) (Dr.bk_bad hl hb));clear hTr hA hK hR hll hAle hp HP hps hp0 hsub HC HF HGO HSTOP HTB HTK HM HNE HS HS2 HA HK HR HLL hl hb;go_wp2_with fail;refine KP.mono ?_;rintro x w1 ⟨rfl,hb1⟩;have HE := Lib.hid (HF2.out w1 hb1);clear HF2 hb1;unfold Dr.dead at *;go_wp2_with fail;exact ⟨rfl,HE.out⟩
  | false =>
    have KP := Dr.peek_ok b S l' g wo hA hl hb hTr;have hwp := Dr.wd_pos hl;have hwl := Dr.wd_le hl;have heq := Dr.bk_eq hl hb;have KBL := Lib.hid (fun w' => Wt.blank_any (Dr.cp l') w');have hnz : ((Dr.wd l' : Int) == 0) = false := beq_eq_false_iff_ne.2 (by omega);have HST := Lib.hid (fun w1 (hb1 : Below wo.heap.size wo w1) => Dr.setAt (hA.below hb1) hp hwl ((Dr.wd l' : Nat) : Int) rfl);have hsum : (p : Int) + (Dr.wd l' : Int) ≤ 9223372036854775807 ∧ 0 ≤ (Dr.wd l' : Int) := by have := HS2.out; omega
    obtain ⟨hsum1,hsum2⟩ := hsum;have HBAD := Lib.hid hb;have HNIL := Lib.hid hl;have HWL := Lib.hid hwl;have HWP := Lib.hid hwp;cases hbl : Ch.blankB (Dr.cp l') with
    | true =>
      rw [if_pos hbl] at heq;rw [hbl] at KBL;have HGO2 := Lib.hid (fun w1 hA1 hk => HGO.out w1 _ hA1 hk heq);clear hTr hA hK hR hll hAle hp hsub HF HGO HSTOP HTB HTK HM HNE HS HS2 HA HR HLL hl hb heq hwp hwl;generalize Dr.cp l' = c at *;generalize Dr.wd l' = n at *;go_wp2_with fail;refine KP.mono ?_;rintro x w1 ⟨rfl,hb1⟩;go_wp2_with fail;refine (KBL.out _).mono ?_;rintro x w2 ⟨rfl,rfl⟩;obtain ⟨d0,d1,d2⟩ := HC.out w1 hb1;obtain ⟨W,hW,hfz,hAt,hKW,hz⟩ := HST.out w1 hb1;have HE := Lib.hid (HGO2.out W hAt ((HK.out.trans (Dr.Kept.of_below hb1)).trans hKW));clear HC HST HGO2 HK KP hb1 hAt hKW hz;go_wp2_with fail;exact HE.out
    | false =>
      rw [if_neg (by rw [hbl]; simp)] at heq;rw [hbl] at KBL;by_cases h59 : Dr.cp l' = 59
      · rw [if_pos h59] at heq;have h59b : (Dr.cp l' == 59) = true := beq_iff_eq.2 h59;have HB := Lib.hid heq;have hpc := Dr.pc_cons hl;have HL0 := Lib.hid (fun w1 (hb1 : Below wo.heap.size wo w1) => show ∃ l'',Value.int .i32 (Dr.cp l') = .int .i32 (Dr.pc l'') ∧ Value.int .i64 (Dr.wd l' : Int) = .int .i64 (Dr.pn l'' : Int) ∧ (l'' = [] ∨ Dr.bad l'' = false) ∧ Dr.At b S l'' g w1 ∧ Dr.Kept b w w1 ∧ Dr.line l'' = Dr.line l' from
          ⟨l',by rw [hpc.1],by rw [hpc.2],.inr hb,hA.below hb1,hK.trans (Dr.Kept.of_below hb1),rfl⟩)
        clear hTr hA hK hR hll hAle hp hsub HC HST HTB HNE HS HA HR HLL hl hb heq hwp hwl hpc HSTOP;obtain ⟨c,hc⟩ : ∃ z,z = Dr.cp l' := ⟨_,rfl⟩;obtain ⟨n,hn⟩ : ∃ z,z = Dr.wd l' := ⟨_,rfl⟩;rw [← hc] at KP KBL h59b HL0;rw [← hn] at KP hnz hsum1 hsum2 HL0;clear hc hn h59 hbl;go_wp2_with fail;refine KP.mono ?_;rintro x w1 ⟨rfl,hb1⟩;go_wp2_with fail;refine (KBL.out _).mono ?_;rintro x w2 ⟨rfl,rfl⟩;have HL1 := Lib.hid (HL0.out w1 hb1);clear KP KBL hb1 HL0;go_wp2_with fail;go_loopw [2,3] (fun v2 v3 wi => ∃ l'',v2 = .int .i32 (Dr.pc l'') ∧ v3 = .int .i64 (Dr.pn l'' : Int) ∧ (l'' = [] ∨ Dr.bad l'' = false) ∧ Dr.At b S l'' g wi ∧ Dr.Kept b w wi ∧ Dr.line l'' = Dr.line l') (fun _ _ wi => Dr.left b S wi);case atStart => exact HL1.out
        case round =>
         obtain ⟨l2,rfl,rfl,hb2,hA2,hK2,hL2⟩ := hrel;clear HL1 h59b hnz hsum1 hsum2;by_cases hl2 : l2 = []
         · subst hl2;rw [Dr.pc_nil.1,Dr.pc_nil.2];have HE := Lib.hid (HGO.out _ [] hA2 hK2 (by rw [HB.out,← hL2,Dr.line_nil]));clear hA2 hK2 hL2 hb2 HGO HF HTK;go_wp2_with fail;exact HE.out
         · have hb2 := hb2.resolve_left hl2;obtain ⟨e1,e2⟩ := Dr.pc_cons hl2;rw [e1,e2];have hle := Dr.line_eq hl2 hb2;have KLE := Lib.hid (fun w' => Dr.lineEnd_any (Dr.cp l2) w');have hwp2 := Dr.wd_pos hl2;have hwl2 := Dr.wd_le hl2;have h0n : 0 < Dr.wd l2 := by omega
           have h0n2 : (0 : Int) < (Dr.wd l2 : Int) := by omega
           cases hlc : Dr.lineC (Dr.cp l2) with
           | true =>
             rw [if_pos hlc] at hle;rw [hlc] at KLE;have HE := Lib.hid (HGO.out _ l2 hA2 hK2 (by rw [HB.out,← hL2,hle]));clear hA2 hK2 hL2 HGO HF HTK hb2 hl2 e1 e2 hle hwp2 hwl2;generalize Dr.cp l2 = c2 at *;generalize Dr.wd l2 = n2 at *;go_wp2_with fail;refine (KLE.out _).mono ?_;rintro x w4 ⟨rfl,rfl⟩;go_wp2_with fail;exact HE.out
           | false =>
             rw [if_neg (by rw [hlc]; simp)] at hle;rw [hlc] at KLE;obtain ⟨d0,d1,d2⟩ := hA2.cells;have hA2le := hA2.le;obtain ⟨p2,hp2⟩ : ∃ z,S.size - l2.length = z := ⟨_,rfl⟩;rw [hp2] at d1;have hp2s : (p2 : Int) + (Dr.wd l2 : Int) ≤ 9223372036854775807 ∧ 0 ≤ (p2 : Int) ∧ (p2 : Int) ≤ 9223372036854775807 := by have := HS2.out; omega
             obtain ⟨hp2s,hp2a,hp2b⟩ := hp2s;obtain ⟨W,hW,hfz,hAt,hKW,hz⟩ := Dr.setAt hA2 hp2 hwl2 ((Dr.wd l2 : Nat) : Int) rfl;have hlt : Dr.left b S W < Dr.left b S wr := by rw [hAt.left,hA2.left]; exact Dr.drop_lt hl2
             have hKall := hK2.trans hKW;have hTW := HTK.out W hKall;by_cases hb3 : l2.drop (Dr.wd l2) = [] ∨ Dr.bad (l2.drop (Dr.wd l2)) = false
             · have KP2 := Dr.peek_pc b S _ g W hAt hb3 hTW;have HE0 := Lib.hid (fun w5 (hb5 : Below W.heap.size W w5) => show (∃ l'',Value.int .i32 (Dr.pc (l2.drop (Dr.wd l2))) = .int .i32 (Dr.pc l'') ∧ Value.int .i64 (Dr.pn (l2.drop (Dr.wd l2)) : Int) = .int .i64 (Dr.pn l'' : Int) ∧ (l'' = [] ∨ Dr.bad l'' = false) ∧ Dr.At b S l'' g w5 ∧ Dr.Kept b w w5 ∧ Dr.line l'' = Dr.line l') ∧ Dr.left b S w5 < Dr.left b S wr from
                 ⟨⟨_,rfl,rfl,hb3,hAt.below hb5,hKall.trans (Dr.Kept.of_below hb5),by rw [← hle,hL2]⟩,by rw [(hAt.below hb5).left,← hAt.left]; exact hlt⟩)
               clear hA2 hK2 hL2 HGO HF HTK hb2 hl2 e1 e2 hle hwp2 hwl2 hA2le hp2 hAt hKW hz hKall hTW hlt hb3;generalize Dr.pc (l2.drop (Dr.wd l2)) = c3 at *;generalize Dr.pn (l2.drop (Dr.wd l2)) = n3 at *;generalize Dr.cp l2 = c2 at *;generalize Dr.wd l2 = n2 at *;go_wp2_with fail;refine (KLE.out _).mono ?_;rintro x w4 ⟨rfl,rfl⟩;go_wp2_with fail;refine KP2.mono ?_;rintro x w5 ⟨rfl,hb5⟩;have HE := Lib.hid (HE0.out w5 hb5);clear HE0 hb5 KP2;go_wp2_with fail;exact HE.out
             · have hn3 : l2.drop (Dr.wd l2) ≠ [] := fun e => hb3 (.inl e);have hb4 : Dr.bad (l2.drop (Dr.wd l2)) = true := by
                cases hq : Dr.bad (l2.drop (Dr.wd l2)) with
                | true => rfl
                | false => exact absurd (.inr hq) hb3
               have KP2 := Dr.peek_bad b S _ g W hAt hn3 hb4 hTW;have HE0 := Lib.hid (fun w5 (hb5 : Below W.heap.size W w5) => HF.out w5 (hKall.trans (Dr.Kept.of_below hb5)) (by rw [HB.out,← hL2,hle,Dr.line_bad hn3 hb4]));clear hA2 hK2 hL2 HGO HF HTK hb2 hl2 e1 e2 hle hwp2 hwl2 hA2le hp2 hAt hKW hz hKall hTW hlt hb3 hn3 hb4;generalize Dr.cp l2 = c2 at *;generalize Dr.wd l2 = n2 at *;go_wp2_with fail;refine (KLE.out _).mono ?_;rintro x w4 ⟨rfl,rfl⟩;go_wp2_with fail;refine KP2.mono ?_;rintro x w5 ⟨rfl,hb5⟩;have HE := Lib.hid (HE0.out w5 hb5);clear HE0 hb5 KP2;unfold Dr.dead at *;go_wp2_with fail;exact ⟨rfl,HE.out⟩
      · rw [if_neg h59] at heq;have h59b : (Dr.cp l' == 59) = false := beq_eq_false_iff_ne.2 h59;have KH := fun (p : ByteArray) (w' : World) => Tryz.strings_HasPrefix ⟨l'.toArray⟩ p w';have HC2 := Lib.hid (fun (w' : World) (hb : Below wo.heap.size wo w') => (show w'.cell? ⟨b,0,none⟩ = some (.string S) ∧ w'.cell? ⟨b,1,none⟩ = some (.int .i64 (p : Int)) from ⟨(HC.out w' hb).1,(HC.out w' hb).2.1⟩));have hlen : p + l'.length = S.size := by omega
        clear HST hwp hwl;by_cases k1 : l'.take 2 = [35,59]
        · rw [if_pos k1] at heq;have hl2 := Dr.take_two k1;have KH1 := Lib.hid (fun w' => KH ⟨#[35,59]⟩ w');simp only [Dr.hasP,List.length_cons,List.length_nil,decide_eq_true k1] at KH1;have hlen2 : (l'.drop 2).length = l'.length - 2 := List.length_drop;have HST2 := Lib.hid (fun w1 (hb1 : Below wo.heap.size wo w1) => Dr.setAt (hA.below hb1) hp hl2 2 rfl);have hp2 : (p : Int) + 2 ≤ 9223372036854775807 := by have := HS2.out; omega
          have HIB := HIH.out (.blanks (l'.drop 2)) (by show 2 * (l'.drop 2).length < 2 * l.length; omega);have KB := Lib.hid (fun (W : World) (R1 : Dr.Res) (hAt : Dr.At b S (l'.drop 2) g W) (hTW : Dr.Tabs W) (h1 : Dr.Rel (.blanks (l'.drop 2)) R1) => HIB b S g W R1 hAt HS.out hTW h1);have HREL := Lib.hid (Dr.bk_inv_datum heq hR);have HMLT := Lib.hid (fun w1 r2 (hA1 : Dr.At b S r2 g w1) (hlt : r2.length < (l'.drop 2).length) => show Dr.left b S w1 < Dr.left b S wo from by rw [hA1.left,HM.out]; omega);have HLT2 := Lib.hid (show (l'.drop 2).length + 2 ≤ l.length from by omega);clear hTr hA hK hR hll hAle hp HC HF HGO HSTOP HTB HM HNE HA HR HLL hl hb heq KH k1 hl2 h59 HIB hlen hlen2;generalize l'.drop 2 = ld at *;generalize Dr.cp l' = c at *;generalize Dr.wd l' = n at *;go_wp2_with fail;refine KP.mono ?_;rintro x w1 ⟨rfl,hb1⟩;go_wp2_with fail;refine (KBL.out _).mono ?_;rintro x w2 ⟨rfl,rfl⟩;go_wp2_with fail;have hbd : Below wo.heap.size wo w1.drew := Below.drew hb1;have hkeep := HC2.out w1.drew hbd;go_region_held3 (fun w' => w'.cell? ⟨b,0,none⟩ = some (.string S) ∧ w'.cell? ⟨b,1,none⟩ = some (.int .i64 (p : Int)))
           (first | exact hkeep)
           (first
             | (go_at_call 35
                refine (KH1.out _).mono ?_
                rintro x w2 ⟨rfl,rfl⟩))
          obtain ⟨W,hW,hfz,hAt,hKW,hz⟩ := HST2.out w1.drew hbd;have hK3 := (HK.out.trans (Dr.Kept.of_below hbd)).trans hKW;have hTW := HTK.out W hK3;obtain ⟨d0,d1⟩ := hkeep;obtain ⟨f0,f1,f2⟩ := hAt.cells;have KB1 := Lib.hid (fun R1 h1 => KB.out W R1 hAt hTW h1);have HK3 := Lib.hid hK3;clear HC2 HST2 hAt hKW hz hTW hbd hb1 KB KP KBL KH1 HK hK3 f0 f1;generalize w1.drew = w3 at *;go_wp2_with fail;rcases HREL.out with ⟨h1,hRf⟩ | ⟨r1,h1,hl1,h2⟩
          · refine (KB1.out _ h1).mono ?_;rintro x w4 ⟨rfl,hK4⟩;have HE := Lib.hid (show Dr.PostBk b S g w R Dr.dead w4 by rw [hRf]; exact ⟨rfl,HK3.out.trans hK4⟩);clear KB1 h1 hRf hK4 HREL HK3 HTK;unfold Dr.dead at *;go_wp2_with fail;exact ⟨rfl,HE.out⟩
          refine (KB1.out _ h1).mono ?_;rintro x w4 ⟨rfl,hA4,hK4⟩;have hK14 := HK3.out.trans hK4;have HID := HIH.out (.datum r1) (by have := HLT2.out; show 2 * r1.length < 2 * l.length; omega) b S g w4;have HTW4 := Lib.hid (HTK.out w4 hK14);have H2 := Lib.hid h2;have HK4 := Lib.hid hK14;have HA4 := Lib.hid hA4;have HID := Lib.hid HID;have HL1 := Lib.hid hl1;clear KB1 h1 h2 hA4 hK4 hK14 HREL hl1;go_wp2_with fail;rcases H2.out with ⟨h3,hRf⟩ | ⟨t,r2,big,h3,hl3,h4⟩
          · refine (HID.out _ HA4.out HS.out HTW4.out h3).mono ?_;rintro x w5 ⟨rfl,hK5⟩;have HE := Lib.hid (show Dr.PostBk b S g w R Dr.dead w5 by rw [hRf]; exact ⟨rfl,HK4.out.trans hK5⟩);clear h3 hRf hK5 HK4 HA4 HID;unfold Dr.dead at *;go_wp2_with fail;exact ⟨rfl,HE.out⟩
          refine (HID.out _ HA4.out HS.out HTW4.out h3).mono ?_;rintro x w5 ⟨v,rfl,_,hA5,hK5⟩;obtain ⟨W6,hW6,hfz6,hA6,hK6,hz6⟩ := hA5.flag g;obtain ⟨f0,f1,f2b⟩ := hA5.cells;have HE := Lib.hid (show (∃ l'',Dr.At b S l'' g W6 ∧ Dr.Kept b w W6 ∧ Dr.Rel (.blanks l'') R ∧ l''.length ≤ l.length) ∧ Dr.left b S W6 < Dr.left b S wo from
            ⟨⟨r2,hA6,(HK4.out.trans hK5).trans hK6,h4,by have := HLT2.out; have := HL1.out; omega⟩,HMLT.out _ _ hA6 (by have := HL1.out; omega)⟩)
          clear h3 h4 hl3 hA5 hK5 hA6 hK6 hz6 HID HA4 HK4 HTW4 f0 f1;go_wp2_with fail;exact HE.out
        · rw [if_neg k1] at heq;have KH1 := Lib.hid (fun w' => KH ⟨#[35,59]⟩ w');have KH2 := Lib.hid (fun w' => KH ⟨#[35,124]⟩ w');simp only [Dr.hasP,List.length_cons,List.length_nil,decide_eq_false k1] at KH1;by_cases k2 : l'.take 2 = [35,124]
          · rw [if_pos k2] at heq;simp only [Dr.hasP,List.length_cons,List.length_nil,decide_eq_true k2] at KH2;have KRM := Lib.hid (fun w1 (hb1 : Below wo.heap.size wo w1) => Dr.remark_any b S g l' w1 (hA.below hb1) HS2.out k2 (HTB.out w1 hb1));have HB := Lib.hid heq;clear hTr hA hK hR hll hAle hp HC HSTOP HTB HM HNE HA HR HLL hl hb heq KH k1 k2 h59 hlen;obtain ⟨c,hc⟩ : ∃ z,z = Dr.cp l' := ⟨_,rfl⟩;obtain ⟨n,hn⟩ : ∃ z,z = Dr.wd l' := ⟨_,rfl⟩;rw [← hc] at KP KBL h59b hbl;rw [← hn] at KP hnz hsum1 hsum2;clear hc hn;go_wp2_with fail;refine KP.mono ?_;rintro x w1 ⟨rfl,hb1⟩;go_wp2_with fail;refine (KBL.out _).mono ?_;rintro x w2 ⟨rfl,rfl⟩;go_wp2_with fail;have hbd : Below wo.heap.size wo w1.drew := Below.drew hb1;have hkeep := HC2.out w1.drew hbd;go_region_held3 (fun w' => w'.cell? ⟨b,0,none⟩ = some (.string S) ∧ w'.cell? ⟨b,1,none⟩ = some (.int .i64 (p : Int)))
             (first | exact hkeep)
             (first
               | (go_at_call 35
                  refine (KH1.out _).mono ?_
                  rintro x w2 ⟨rfl,rfl⟩))
            have hbd2 : Below wo.heap.size wo w1.drew.drew := Below.drew hbd;have hkeep2 := HC2.out w1.drew.drew hbd2;go_wp2_with fail;go_region_held3 (fun w' => w'.cell? ⟨b,0,none⟩ = some (.string S) ∧ w'.cell? ⟨b,1,none⟩ = some (.int .i64 (p : Int)))
             (first | exact hkeep2)
             (first
               | (go_at_call 35
                  refine (KH2.out _).mono ?_
                  rintro x w2 ⟨rfl,rfl⟩))
            have KRM1 := KRM.out _ hbd2;have HKB := Lib.hid (HK.out.trans (Dr.Kept.of_below hbd2));clear hkeep hkeep2 HC2 KRM hbd hbd2 hb1 KP KBL KH1 KH2;generalize w1.drew.drew = w3 at *;cases hrm : Dr.remark 0 l' with
            | none =>
              rw [hrm] at KRM1;have HF2 := Lib.hid (fun w1 hk => HF.out w1 hk (by rw [HB.out,hrm]));clear HF HGO HTK;go_wp2_with fail;refine KRM1.mono ?_;rintro x w4 ⟨rfl,hK4⟩;have HE := Lib.hid (HF2.out w4 (HKB.out.trans hK4));clear HF2 hK4 KRM1 HKB;unfold Dr.dead at *;go_wp2_with fail;exact ⟨rfl,HE.out⟩
            | some r =>
              rw [hrm] at KRM1;have HGO2 := Lib.hid (fun w1 hA1 hk => HGO.out w1 r hA1 hk (by rw [HB.out,hrm]));clear HF HGO HTK;go_wp2_with fail;refine KRM1.mono ?_;rintro x w4 ⟨rfl,hA4,hK4⟩;have HE := Lib.hid (HGO2.out w4 hA4 (HKB.out.trans hK4));clear HGO2 hK4 hA4 KRM1 HKB;go_wp2_with fail;exact HE.out
          · rw [if_neg k2] at heq;simp only [Dr.hasP,List.length_cons,List.length_nil,decide_eq_false k2] at KH2;have HSTOP2 := Lib.hid (fun w1 hb1 => HSTOP.out w1 hb1 heq);clear hTr hA hK hR hll hAle hp HC HSTOP HTB HM HNE HA HR HLL hl hb heq KH k1 k2 h59 hlen HF HGO HTK;generalize Dr.cp l' = c at *;generalize Dr.wd l' = n at *;go_wp2_with fail;refine KP.mono ?_;rintro x w1 ⟨rfl,hb1⟩;go_wp2_with fail;refine (KBL.out _).mono ?_;rintro x w2 ⟨rfl,rfl⟩;go_wp2_with fail;have hbd : Below wo.heap.size wo w1.drew := Below.drew hb1;have hkeep := HC2.out w1.drew hbd;go_region_held3 (fun w' => w'.cell? ⟨b,0,none⟩ = some (.string S) ∧ w'.cell? ⟨b,1,none⟩ = some (.int .i64 (p : Int)))
             (first | exact hkeep)
             (first
               | (go_at_call 35
                  refine (KH1.out _).mono ?_
                  rintro x w2 ⟨rfl,rfl⟩))
            have hbd2 : Below wo.heap.size wo w1.drew.drew := Below.drew hbd;have hkeep2 := HC2.out w1.drew.drew hbd2;go_wp2_with fail;go_region_held3 (fun w' => w'.cell? ⟨b,0,none⟩ = some (.string S) ∧ w'.cell? ⟨b,1,none⟩ = some (.int .i64 (p : Int)))
             (first | exact hkeep2)
             (first
               | (go_at_call 35
                  refine (KH2.out _).mono ?_
                  rintro x w2 ⟨rfl,rfl⟩))
            have HE := Lib.hid (HSTOP2.out _ hbd2);clear hkeep hkeep2 HC2 HSTOP2 hbd hbd2 hb1 KP KBL KH1 KH2;go_wp2_with fail;first | go_end0 | refine bodyPost_ret (results_none rfl _ _ _) rfl ?_
            exact HE.out
end Go.Proofs.YteklhapffplohaaGreatDoor
namespace Go.Proofs.YteklhapffplohaaGreatDoor
open Go.RowKit
section
variable {P : Program} (w : World)
def Ls.Fresh (w : World) (v v' : Value) : Prop := ∀ q,v'.ownBlock = some q → v.ownBlock = some q ∨ w.heap.size ≤ q
theorem Ls.run_append (base : Nat) (t ty e : TypeId) (i : TypeInfo) (z : Value) (size bytes : Nat) (ht : P.underlying t = some (.slice e)) (hi : P.info? e = some i) (hz : i.zero = some z)
 (hsize : i.size = size) (hby : i.bytes = bytes) (hzs : z.cells.size = size) (hsz : 0 < size)
 (v : Value) (n : Nat) (xs : List Value) (hown : w.ownsRow base e size v n xs)
 (a : Addr) (m c : Nat) (news : List Value) (hl : news.length = m * size) (hnews : ∀ j u,news[j]? = some u → w.cell? (a.add j) = some u) (h1 : ∀ u ∈ news,u.oneCell' = true)
 (h63 : n + m ≤ maxLen) (hbytes : (n + m) * bytes ≤ 140737488355328) (hbase : base ≤ w.heap.size) :
 ∃ v' w',(Builtin.append_ #[t,t] ty #[v,.slice (some a) m c]).run P w = .ok v' w' ∧ w'.ownsRow base e size v' (n + m) (xs ++ news) ∧ w.grownBy w' v.ownBlock ∧ Ls.Fresh w v v' := by
 obtain ⟨v',w',hr,ho,hg,hiff⟩ := run_append_own (P := P) w base t ty e i z size bytes ht hi hz hsize hby hzs hsz v n xs hown a m c news hl hnews h1 h63 hbytes hbase
 refine ⟨v',w',hr,ho,hg,?_⟩
 have hlen := hown.1
 rcases hown.2 with ⟨rfl,rfl⟩ | ⟨g,cap,cur,rfl,hbg,hgc,hnc,hcm,hcs,htake⟩
 · have hx : xs = [] := List.eq_nil_of_length_eq_zero (by simpa using hlen);subst hx;obtain ⟨v2,w2,hr2,ho2,_,_⟩ := run_append_own (P := P) w w.heap.size t ty e i z size bytes ht hi hz hsize hby hzs hsz _ 0 [] (World.ownsRow_nil w w.heap.size e size) a m c news hl hnews h1 h63 hbytes (Nat.le_refl _);rw [hr] at hr2;cases hr2;intro q hq;exact .inr (ho2.lt q hq).1
 · subst hsize;subst hby;by_cases hroom : n + m ≤ cap
   · have hfit : n * i.size + news.length ≤ cur.size := by rw [hl,hcs,← Nat.add_mul]; exact Nat.mul_le_mul_right _ hroom
     have hr2 := run_append_room (P := P) w t ty e i ht hi g n cap cur hgc a m c news hl hnews h1 hroom hfit;rw [hr] at hr2;cases hr2;intro q hq;exact .inl hq
   · have holds : ∀ j u,xs[j]? = some u → w.cell? ((⟨g,0,none⟩ : Addr).add j) = some u := by
      exact World.ownsRow.cells (w := w) (base := base) (e := e) (size := i.size) (v := .slice (some ⟨g,0,none⟩) n cap) (n := n) (xs := xs) ⟨hlen,.inr ⟨g,cap,cur,rfl,hbg,hgc,hnc,hcm,hcs,htake⟩⟩ rfl
     have hr2 := run_append_grow (P := P) w t ty e i z ht hi hz ⟨g,0,none⟩ n cap xs hlen holds a m c news hl hnews (by omega) (by simp only [maxLen] at h63; omega) (growslice_fits (by omega) hbytes);rw [hr] at hr2;cases hr2;intro q hq;simp only [Value.ownBlock,Option.some.injEq] at hq;exact .inr (by omega)
theorem Ls.run_none (base : Nat) (t ty e : TypeId) (i : TypeInfo) (size : Nat) (ht : P.underlying t = some (.slice e)) (hi : P.info? e = some i)
 (v : Value) (n : Nat) (xs : List Value) (hown : w.ownsRow base e size v n xs) :
 (Builtin.append_ #[t,t] ty #[v,.slice none 0 0]).run P w = .ok v w := by
 rcases hown.2 with ⟨rfl,rfl⟩ | ⟨g,cap,cur,rfl,hbg,hgc,hnc,hcm,hcs,htake⟩
 · simp [Builtin.append_,run_underlying ht,sizeOf,typeInfo,hi,Builtin.lenOf,Builtin.firstCells,loadCells,loadCellsFrom]
 · simp [Builtin.append_,run_underlying ht,sizeOf,typeInfo,hi,Builtin.lenOf,Builtin.firstCells,loadCells,loadCellsFrom,hnc,storeCells]
def Ls.Src (w : World) (size : Nat) (x : Value) (m : Nat) (news : List Value) : Prop :=
 (x = .slice none 0 0 ∧ m = 0 ∧ news = []) ∨ ∃ ad c,x = .slice (some ad) m c ∧ news.length = m * size ∧ ∀ j u,news[j]? = some u → w.cell? (ad.add j) = some u
theorem Ls.run_src (base : Nat) (t ty e : TypeId) (i : TypeInfo) (z : Value) (size bytes : Nat) (ht : P.underlying t = some (.slice e)) (hi : P.info? e = some i) (hz : i.zero = some z)
 (hsize : i.size = size) (hby : i.bytes = bytes) (hzs : z.cells.size = size) (hsz : 0 < size)
 (v : Value) (n : Nat) (xs : List Value) (hown : w.ownsRow base e size v n xs)
 (x : Value) (m : Nat) (news : List Value) (hx : Ls.Src w size x m news) (h1 : ∀ u ∈ news,u.oneCell' = true)
 (h63 : n + m ≤ maxLen) (hbytes : (n + m) * bytes ≤ 140737488355328) (hbase : base ≤ w.heap.size) :
 ∃ v' w',(Builtin.append_ #[t,t] ty #[v,x]).run P w = .ok v' w' ∧ w'.ownsRow base e size v' (n + m) (xs ++ news) ∧ w.grownBy w' v.ownBlock ∧ Ls.Fresh w v v' := by
 rcases hx with ⟨rfl,rfl,rfl⟩ | ⟨ad,c,rfl,hl,hn⟩
 · refine ⟨v,w,Ls.run_none w base t ty e i size ht hi v n xs hown,?_,⟨rfl,rfl,rfl,Nat.le_refl _,fun _ _ _ => rfl⟩,fun q hq => .inl hq⟩;rw [Nat.add_zero,List.append_nil];exact hown
 · exact Ls.run_append w base t ty e i z size bytes ht hi hz hsize hby hzs hsz v n xs hown ad m c news hl hn h1 h63 hbytes hbase
theorem Ls.wp_append {o : Oper} {a : Act} {K : Act → World → Prop} {Q : Exit → Act → World → Prop} (s x : Operand) (t : TypeId)
 (ho : o.op = .call { callee := .builtin .append,args := #[s,x],argTypes := #[t,t] })
 (base : Nat) (e : TypeId) (i : TypeInfo) (z : Value) (size bytes : Nat) (ht : P.underlying t = some (.slice e)) (hi : P.info? e = some i) (hz : i.zero = some z)
 (hsize : i.size = size) (hby : i.bytes = bytes) (hzs : z.cells.size = size) (hsz : 0 < size)
 (v : Value) (n : Nat) (xs : List Value) (hs : a.eval s = v) (hown : w.ownsRow base e size v n xs)
 (xv : Value) (m : Nat) (news : List Value) (hxv : a.eval x = xv) (hx : Ls.Src w size xv m news) (h1 : ∀ u ∈ news,u.oneCell' = true)
 (h63 : n + m ≤ maxLen) (hbytes : (n + m) * bytes ≤ 140737488355328) (hbase : base ≤ w.heap.size)
 (h : ∀ v' w',w'.ownsRow base e size v' (n + m) (xs ++ news) → w.grownBy w' v.ownBlock → Ls.Fresh w v v' → K (a.put o.dst v') w') : o.wp P a w K Q := by
 obtain ⟨v',w',hr,h2,h3,h4⟩ := Ls.run_src (P := P) w base t o.type e i z size bytes ht hi hz hsize hby hzs hsz v n xs hown xv m news hx h1 h63 hbytes hbase
 unfold Oper.wp execOp
 simp only [ho,resolve,invoke,builtin,Sem.run_bind,Sem.run_pure,Result.andThen_ok,List.map_toArray,List.map_cons,List.map_nil,hs,hxv,hr]
 exact h v' w' h2 h3 h4
theorem Ls.wpList_append {ops : Array Oper} {rest : List Oper} {o : Oper} {a : Act} {Q : Exit → Act → World → Prop} (hgd : o.guard = none) (s x : Operand) (t : TypeId)
 (ho : o.op = .call { callee := .builtin .append,args := #[s,x],argTypes := #[t,t] })
 (base : Nat) (e : TypeId) (i : TypeInfo) (z : Value) (size bytes : Nat) (ht : P.underlying t = some (.slice e)) (hi : P.info? e = some i) (hz : i.zero = some z)
 (hsize : i.size = size) (hby : i.bytes = bytes) (hzs : z.cells.size = size) (hsz : 0 < size)
 (v : Value) (n : Nat) (xs : List Value) (hs : a.eval s = v) (hown : w.ownsRow base e size v n xs)
 (xv : Value) (m : Nat) (news : List Value) (hxv : a.eval x = xv) (hx : Ls.Src w size xv m news) (h1 : ∀ u ∈ news,u.oneCell' = true)
 (h63 : n + m ≤ maxLen) (hbytes : (n + m) * bytes ≤ 140737488355328) (hbase : base ≤ w.heap.size)
 (h : ∀ v' w',w'.ownsRow base e size v' (n + m) (xs ++ news) → w.grownBy w' v.ownBlock → Ls.Fresh w v v' → wpList P ops Q rest (a.put o.dst v') w') : wpList P ops Q (o :: rest) a w :=
 wpList_plain hgd fun _ hK => Ls.wp_append w s x t ho base e i z size bytes ht hi hz hsize hby hzs hsz v n xs hs hown xv m news hxv hx h1 h63 hbytes hbase fun v' w' h2 h3 h4 => hK _ _ (h v' w' h2 h3 h4)
end
end Go.Proofs.YteklhapffplohaaGreatDoor
namespace Go.Proofs.YteklhapffplohaaGreatDoor
open Go.RowKit
theorem Tr.On.top {w : World} {S : Nat → Prop} {v : Value} {ws : List Nat} (i : Nt.In w v ws) (o : Tr.On S v ws.length) : Tr.On (fun q => S q ∧ q < w.heap.size) v ws.length := by
 rcases i with ⟨_,e⟩ | ⟨_,_,_,e⟩ | ⟨h0,b,off,cap,hv,_,hl,_⟩
 · rw [e]; exact fun h => absurd h (Nat.lt_irrefl 0)
 · rw [e]; exact fun h => absurd h (Nat.lt_irrefl 0)
 · intro _ b' off' l' c' e;rw [hv] at e;cases e;exact ⟨o h0 _ _ _ _ hv,hl⟩
theorem Tr.On.topB {w : World} {S : Nat → Prop} {v : Value} {s : ByteArray} (i : By.In w v s) (o : Tr.On S v s.size) : Tr.On (fun q => S q ∧ q < w.heap.size) v s.size := by
 rcases i with ⟨_,e⟩ | ⟨_,_,_,e⟩ | ⟨h0,b,off,cap,hv,_,hl,_⟩
 · rw [e]; exact fun h => absurd h (Nat.lt_irrefl 0)
 · rw [e]; exact fun h => absurd h (Nat.lt_irrefl 0)
 · intro _ b' off' l' c' e;rw [hv] at e;cases e;exact ⟨o h0 _ _ _ _ hv,hl⟩
theorem Tr.Hd.In.top {w : World} {S : Nat → Prop} {h : Tr.Hd} {v3 v4 v6 v7 v9 : Value} (i : Tr.Hd.In w S h v3 v4 v6 v7 v9) : Tr.Hd.In w (fun q => S q ∧ q < w.heap.size) h v3 v4 v6 v7 v9 :=
 ⟨i.ok,i.i3,i.i4,i.i6,i.i7,i.i9,Tr.On.top i.i3 i.o3,Tr.On.top i.i4 i.o4,Tr.On.top i.i6 i.o6,Tr.On.top i.i7 i.o7,Tr.On.topB i.i9 i.o9⟩
mutual
theorem Tr.In.top {w : World} {S : Nat → Prop} : ∀ (t : Tr) (v : Value),Tr.In w S t v → Tr.In w (fun q => S q ∧ q < w.heap.size) t v
 | .mk h l,v,hI => by
   rw [Tr.In_mk] at hI ⊢;obtain ⟨v3,v4,v6,v7,v9,v10,e,hH,hL⟩ := hI;refine ⟨v3,v4,v6,v7,v9,v10,e,hH.top,?_⟩;rcases hL with h0 | h0 | ⟨h0,b,off,cap,hv,h1,h2,h3,h4,h5⟩
   · exact .inl h0
   · exact .inr (.inl h0)
   · exact .inr (.inr ⟨h0,b,off,cap,hv,h1,h2,h3,⟨h4,h3⟩,Tr.All.top l b off h5⟩)
theorem Tr.All.top {w : World} {S : Nat → Prop} : ∀ (l : List Tr) (b off : Nat),Tr.All w S l b off → Tr.All w (fun q => S q ∧ q < w.heap.size) l b off
 | [],_,_,_ => Tr.All_nil
 | t :: ts,b,off,h => by
   rw [Tr.All_cons] at h ⊢;obtain ⟨⟨C,hI,hM⟩,hr⟩ := h;exact ⟨⟨C,Tr.In.top t _ hI,hM⟩,Tr.All.top ts b (off + 11) hr⟩
end
def Tr.Row (B : Nat) (w : World) (v : Value) (l : List Tr) (xs : List Value) : Prop :=
 w.ownsRow B 30 11 v l.length xs ∧ ∀ k t,l[k]? = some t → ∃ C : Array Value,Tr.In w (fun q => B ≤ q ∧ v.ownBlock ≠ some q) t (.agg C) ∧ ∀ j,j < 11 → xs[11 * k + j]? = C[j]?
theorem Tr.Row.nil (B : Nat) (w : World) : Tr.Row B w (.slice none 0 0) [] [] := ⟨World.ownsRow_nil w B _ _,fun k t h => by simp at h⟩
theorem Tr.In.size11 {w : World} {S : Nat → Prop} {t : Tr} {C : Array Value} (h : Tr.In w S t (.agg C)) : C.size = 11 := by
 obtain ⟨_,_,_,_,_,_,_,_,e⟩ := Tr.In.form h;rw [e]; rfl
theorem Tr.Row.lin {B : Nat} {w : World} {v : Value} {l : List Tr} {xs : List Value} (h : Tr.Row B w v l xs) : Tr.LIn w (fun q => B ≤ q) l v := by
 obtain ⟨ho,hall⟩ := h;have hcell := @World.ownsRow.cells w B _ 11 v l.length xs ho;rcases ho.2 with ⟨rfl,h0⟩ | ⟨g,cap,cur,rfl,hbg,hgc,hnc,hcm,hcs,htake⟩
 · exact .inl ⟨rfl,h0⟩
 · rcases Nat.eq_zero_or_pos l.length with h0 | h0
   · exact .inr (.inl ⟨_,_,by rw [h0],h0⟩)
   · refine .inr (.inr ⟨h0,g,0,cap,rfl,hnc,by simp only [maxLen] at hcm; omega,(Array.getElem?_eq_some_iff.1 hgc).1,hbg,Tr.All.of l g 0 (fun k t hk => ?_)⟩);obtain ⟨C,hI,hx⟩ := hall k t hk;refine ⟨C,Tr.In.mono (fun q hq => hq.1) _ _ hI,fun j hj => ?_⟩;have hs := hI.size11;have hu : C[j]? = some C[j] := Array.getElem?_eq_getElem (by omega);refine ⟨C[j],hu,?_⟩;have := hcell (g := g) rfl (11 * k + j) C[j] ((hx j hj).trans hu);have hadd : (⟨g,0,none⟩ : Addr).add (11 * k + j) = ⟨g,11 * k + j,none⟩ := by unfold Addr.add; split <;> simp_all
     rw [hadd] at this;rw [Nat.zero_add];exact this
set_option maxHeartbeats 4000000
set_option maxRecDepth 1000000
theorem Nt.Sound_same (ws : List Nat) (v : Value) (w : World) (h : Nt.In w v ws) (hw : Nt.Wd ws) (hl : ws.length ≤ 4611686018427387904) : Calls Tryz.prog 104 #[v] w fun e w' => e = .returned (.bool (Nt.sound ws)) ∧ w = w' := by
 have KT := fun w h => Nt.Trim_same ws v w h hw hl;obtain ⟨ad,cap,rfl⟩ := h.slice;have H := Lib.hid h;clear h;have hs : Nt.sound ws = (decide (ws.length ≤ 512) && decide ((Nt.dig (Nt.val ws)).length = ws.length)) := rfl;rw [hs];generalize (Nt.dig (Nt.val ws)).length = n at *;clear hs hw hl;by_cases h1 : ws.length ≤ 512
 · have h1I : (ws.length : Int) ≤ 512 := by omega
   rw [decide_eq_true h1];go_enter Tryz.func104,Tryz.ntmps104;go_wp2_with fail;refine (KT _ H.out).mono ?_;rintro x w1 ⟨rfl,hw1⟩;subst hw1;by_cases h2 : n = ws.length
   · subst h2;go_wp2_with fail;go_ret;exact ⟨by simp,rfl⟩
   · have h2I : ((n : Int) == (ws.length : Int)) = false := by simp; omega
     go_wp2_with fail;go_ret;exact ⟨by simp [h2],rfl⟩
 · have h1I : ¬ (ws.length : Int) ≤ 512 := by omega
   rw [decide_eq_false h1];go_enter Tryz.func104,Tryz.ntmps104;go_wp2_with fail;go_ret;exact ⟨by simp,rfl⟩
def Rt.G (w : World) (v : Value) (s : Bool) (t b : List Nat) : Prop := ∃ tv bv,v = .agg #[.bool s,tv,bv] ∧ Nt.In w tv t ∧ Nt.In w bv b
structure Rt.GOk (t b : List Nat) : Prop where
 w1 : Nt.Wd t
 w2 : Nt.Wd b
 l1 : t.length ≤ 4611686018427387904
 l2 : b.length ≤ 4611686018427387904
set_option maxHeartbeats 200000
set_option maxRecDepth 512
theorem Rt.isOne {w : World} {v : Value} {g : Nat} (h : Nt.N w v g) (h0 : 0 < g) : ∃ S : Bool,S = decide (g = 1) ∧ ((∃ ad cap,v = .slice ad (Nt.dig g).length cap ∧ (((Nt.dig g).length : Int) == 1) = false ∧ S = false) ∨ ∃ b off cap,v = .slice (some ⟨b,off,none⟩) 1 cap ∧ w.cell? ⟨b,off,none⟩ = some (.int .u32 g) ∧ ((g : Int) == 1) = S) := by
 refine ⟨_,rfl,?_⟩;by_cases hl : (Nt.dig g).length = 1
 · right;obtain ⟨ad,cap,rfl⟩ := Nt.In.slice h;obtain ⟨b,off,rfl,_,_,_,hc⟩ := Nt.In.at h (by omega);have hc0 := hc 0 (by omega);have hg : (Nt.dig g).getD 0 0 = g := by
    have e := Nt.val_dig g;match hd : Nt.dig g,hl with
    | [x],_ => rw [hd] at e; simpa [Nt.val] using e
   rw [hg] at hc0;refine ⟨b,off,cap,by rw [hl],hc0,?_⟩;by_cases h1 : g = 1
   · subst h1; rfl
   · simp [h1]; omega
 · left;obtain ⟨ad,cap,rfl⟩ := Nt.In.slice h;refine ⟨ad,cap,rfl,by simp; omega,?_⟩;apply decide_eq_false;intro e;subst e;exact hl (by rw [Nt.dig_small (by decide) (by decide)]; rfl)
set_option maxHeartbeats 4000000
set_option maxRecDepth 1000000
theorem Rt.ratSound_any (s : Bool) (t b : List Nat) (v : Value) (w : World) (h : Rt.G w v s t b) (hok : Rt.GOk t b) : Calls Tryz.prog 77 #[v] w fun e w' => e = .returned (.bool (Rt.sound s t b)) ∧ Below w.heap.size w w' := by
 obtain ⟨tv,bv,rfl,h1,h2⟩ := h;have K1 := fun w h => Nt.Sound_same t tv w h hok.w1 hok.l1;have K2 := fun w h => Nt.Sound_same b bv w h hok.w2 hok.l2;obtain ⟨a1,c1,rfl⟩ := h1.slice;obtain ⟨a2,c2,rfl⟩ := h2.slice;have hal : ∀ o,Below w.heap.size w (w.alloc o) := fun o => (Below.refl _ _).alloc (Nat.le_refl _) _;have H1 : Hid (∀ o,Nt.In (w.alloc o) (.slice a1 t.length c1) t) := Lib.hid (fun o => h1.below (hal o) (Nat.le_refl _));have H2 : Hid (∀ o,Nt.In (w.alloc o) (.slice a2 b.length c2) b) := Lib.hid (fun o => h2.below (hal o) (Nat.le_refl _));have HAL := Lib.hid hal;have HOK := Lib.hid hok;have hdef : Rt.sound s t b = (Nt.sound t && Nt.sound b && decide (b.length ≠ 0) && !(decide (t.length = 0) && s) && decide (Nat.gcd (Nt.val t) (Nt.val b) = 1)) := rfl;rw [hdef];clear hdef hal h1 h2 hok;obtain ⟨S1,hS1⟩ : ∃ S,Nt.sound t = S := ⟨_,rfl⟩;obtain ⟨S2,hS2⟩ : ∃ S,Nt.sound b = S := ⟨_,rfl⟩;rw [hS1] at K1 ⊢;rw [hS2] at K2 ⊢;have HS1 := Lib.hid hS1;have HS2 := Lib.hid hS2;clear hS1 hS2;have hmain : ∃ g vt vb : Nat,decide (Nat.gcd (Nt.val t) (Nt.val b) = 1) = decide (g = 1) ∧ (S1 = true → S2 = true → b.length ≠ 0 → (∀ o,Nt.N (w.alloc o) (.slice a1 t.length c1) vt ∧ Nt.N (w.alloc o) (.slice a2 b.length c2) vb) ∧ 0 < g ∧ (∀ v v2 w,Nt.N w v vt → Nt.N w v2 vb → Calls Tryz.prog 105 #[v,v2] w fun e w' => ∃ v',e = .returned v' ∧ Nt.N w' v' g ∧ Below w.heap.size w w')) := by
  refine ⟨Nat.gcd (Nt.val t) (Nt.val b),Nt.val t,Nt.val b,rfl,?_⟩;intro e1 e2 hb0;obtain ⟨et,elt⟩ := Nt.sound_eq HOK.out.w1 (HS1.out.trans e1);obtain ⟨eb,elb⟩ := Nt.sound_eq HOK.out.w2 (HS2.out.trans e2);refine ⟨fun o => ?_,?_,fun v v2 w h h2 => Nt.Divisor_any (Nt.val t) (Nt.val b) v v2 w h h2 ⟨by rw [← eb]; omega,by rw [← et]; omega⟩⟩
  · unfold Nt.N;rw [← et,← eb];exact ⟨H1.out o,H2.out o⟩
  · refine Nat.gcd_pos_of_pos_right _ ?_;rcases Nat.eq_zero_or_pos (Nt.val b) with h0 | h0
    · rw [h0,Nt.dig_zero] at eb;rw [eb] at hb0;exact absurd rfl hb0
    · exact h0
 obtain ⟨g,vt,vb,hgd,hmain⟩ := hmain;rw [hgd];have HM := Lib.hid hmain;clear hmain HS1 HS2 HOK hgd;obtain ⟨G1,hG1⟩ : ∃ G : Bool,decide (g = 1) = G := ⟨_,rfl⟩;rw [hG1];have HG1 := Lib.hid hG1;clear hG1;generalize t.length = l1 at *;generalize b.length = l2 at *;rcases S1 with _ | _
 · clear HM;go_enter Tryz.func77,Tryz.ntmps77;go_wp2_with fail;refine (K1 _ (H1.out _)).mono ?_;rintro x w1 ⟨rfl,hw1⟩;subst hw1;go_wp2_with fail;go_ret;exact ⟨by simp,HAL.out _⟩
 rcases S2 with _ | _
 · clear HM;go_enter Tryz.func77,Tryz.ntmps77;go_wp2_with fail;refine (K1 _ (H1.out _)).mono ?_;rintro x w1 ⟨rfl,hw1⟩;subst hw1;go_wp2_with fail;refine (K2 _ (H2.out _)).mono ?_;rintro x w1 ⟨rfl,hw1⟩;subst hw1;go_wp2_with fail;go_ret;exact ⟨by simp,HAL.out _⟩
 by_cases hb0 : l2 = 0
 · subst hb0;clear HM;go_enter Tryz.func77,Tryz.ntmps77;go_wp2_with fail;refine (K1 _ (H1.out _)).mono ?_;rintro x w1 ⟨rfl,hw1⟩;subst hw1;go_wp2_with fail;refine (K2 _ (H2.out _)).mono ?_;rintro x w1 ⟨rfl,hw1⟩;subst hw1;go_wp2_with fail;go_ret;exact ⟨by simp,HAL.out _⟩
 obtain ⟨hm1,hm2,hm3⟩ := HM.out rfl rfl hb0;have HN := Lib.hid hm1;have HG0 := Lib.hid hm2;have HL2 := Lib.hid hb0;have hl2I : ((l2 : Int) == 0) = false := by simp; exact hb0
 have hl2J : ¬ (l2 : Int) = 0 := by omega
 clear HM hm1 hm2 hb0;have FIN : Hid (∀ (w1 : World) (tv : Value),Nt.N w1 tv g → (∃ ad cap,tv = .slice ad (Nt.dig g).length cap)) := Lib.hid (fun w1 tv h => Nt.In.slice h);by_cases ht0 : l1 = 0
 · subst ht0;rcases s with _ | _
   · go_enter Tryz.func77,Tryz.ntmps77;go_wp2_with fail;refine (K1 _ (H1.out _)).mono ?_;rintro x w1 ⟨rfl,hw1⟩;subst hw1;go_wp2_with fail;refine (K2 _ (H2.out _)).mono ?_;rintro x w1 ⟨rfl,hw1⟩;subst hw1;go_wp2_with fail;refine (hm3 _ _ _ (HN.out _).1 (HN.out _).2).mono ?_;rintro x w1 ⟨vg,rfl,hg,hbg⟩;have HBG := Lib.hid ((HAL.out _).trans (hbg.mono (HAL.out _).size));obtain ⟨S,hS,hK⟩ := Rt.isOne hg HG0.out;rw [HG1.out] at hS;subst hS;clear hg hbg FIN;rcases hK with ⟨ad,cap,rfl,hf,hSf⟩ | ⟨b',off',cap',rfl,hc,hgS⟩
     · generalize (Nt.dig g).length = l3 at *;subst hSf;go_wp2_with fail;go_ret;exact ⟨by simp,HBG.out⟩
     · go_wp2_with fail;go_ret;exact ⟨by simp [HL2.out],HBG.out⟩
   · go_enter Tryz.func77,Tryz.ntmps77;go_wp2_with fail;refine (K1 _ (H1.out _)).mono ?_;rintro x w1 ⟨rfl,hw1⟩;subst hw1;go_wp2_with fail;refine (K2 _ (H2.out _)).mono ?_;rintro x w1 ⟨rfl,hw1⟩;subst hw1;go_wp2_with fail;go_ret;exact ⟨by simp,HAL.out _⟩
 · have ht0I : ((l1 : Int) == 0) = false := by simp; exact ht0
   have ht0J : ¬ (l1 : Int) = 0 := by omega
   have HL1 := Lib.hid ht0;clear ht0;go_enter Tryz.func77,Tryz.ntmps77;go_wp2_with fail;refine (K1 _ (H1.out _)).mono ?_;rintro x w1 ⟨rfl,hw1⟩;subst hw1;go_wp2_with fail;refine (K2 _ (H2.out _)).mono ?_;rintro x w1 ⟨rfl,hw1⟩;subst hw1;go_wp2_with fail;refine (hm3 _ _ _ (HN.out _).1 (HN.out _).2).mono ?_;rintro x w1 ⟨vg,rfl,hg,hbg⟩;have HBG := Lib.hid ((HAL.out _).trans (hbg.mono (HAL.out _).size));obtain ⟨S,hS,hK⟩ := Rt.isOne hg HG0.out;rw [HG1.out] at hS;subst hS;clear hg hbg FIN;rcases hK with ⟨ad,cap,rfl,hf,hSf⟩ | ⟨b',off',cap',rfl,hc,hgS⟩
   · generalize (Nt.dig g).length = l3 at *;subst hSf;go_wp2_with fail;go_ret;exact ⟨by simp,HBG.out⟩
   · go_wp2_with fail;go_ret;exact ⟨by simp [HL2.out,HL1.out],HBG.out⟩
end Go.Proofs.YteklhapffplohaaGreatDoor
