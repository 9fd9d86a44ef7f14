/-
  The reader's blanks and remarks. The reader's data up to a closing mark. The reference's Same at equal data.
-/
import Derived.Deep.RegionLaw
import Derived.Deep.LoopGhost
import Derived.Lib.Hide
import Derived.Test.YteklhapffplohaaGreatDoorOo
import Derived.Test.YteklhapffplohaaGreatDoorOp
import Derived.Test.YteklhapffplohaaGreatDoorOn
import Derived.Test.YteklhapffplohaaGreatDoorOl
import Derived.Test.YteklhapffplohaaGreatDoorOe
import Derived.Test.YteklhapffplohaaGreatDoorOa
set_option maxHeartbeats 4000000
set_option maxRecDepth 1000000
set_option linter.unusedVariables false
set_option linter.unusedSimpArgs false
namespace Go.Proofs.YteklhapffplohaaGreatDoor
open Go.RowKit
theorem Dr.bk_eq {l : List UInt8} (h : l ≠ []) (hb : Dr.bad l = false) : Dr.bk l = if Ch.blankB (Dr.cp l) = true then .go (l.drop (Dr.wd l))
 else if Dr.cp l = 59 then (match Dr.line l with | none => .fault | some r => .go r)
 else if l.take 2 = [35,59] then .datum (l.drop 2)
 else if l.take 2 = [35,124] then (match Dr.remark 0 l with | none => .fault | some r => .go r) else .stop := by
 rw [Dr.bk,if_neg h,if_neg (by rw [hb]; simp)]
 rfl
theorem Dr.bk_nil : Dr.bk [] = .stop := by rw [Dr.bk,if_pos rfl]
theorem Dr.bk_bad {l : List UInt8} (h : l ≠ []) (hb : Dr.bad l = true) : Dr.bk l = .fault := by rw [Dr.bk,if_neg h,if_pos hb]
theorem Dr.At.flag {b : Nat} {S : ByteArray} {l : List UInt8} {g : Bool} {w : World} (h : Dr.At b S l g w) (g' : Bool) :
 ∃ W,w.setCell ⟨b,2,none⟩ (.bool g') = W ∧ w.frozen? ⟨b,2,none⟩ = false ∧ Dr.At b S l g' W ∧ Dr.Kept b w W ∧ W.heap.size = w.heap.size := by
 have hq := h.blk
 refine ⟨_,rfl,by simp [World.frozen?,hq],⟨?_,h.suf,h.le⟩,⟨rfl,rfl,rfl,by simp,fun q hq hne => ?_⟩,by simp⟩
 · have := heap_setCell_same w b 2 _ _ (.bool g') hq;exact this
 · exact heap_setCell_other w ⟨b,2,none⟩ q _ (fun e => hne (by simp [e]))
theorem Dr.blanks_con (l : List UInt8) (IH : ∀ j : Dr.Job,j.len < (Dr.Job.blanks l).len → Dr.Con j) : Dr.Con (.blanks l) := by
 intro b S g w R h hs hT hR;have HIH := Lib.hid IH;have H0 := Lib.hid (show ∃ l',Dr.At b S l' g w ∧ Dr.Kept b w w ∧ Dr.Rel (.blanks l') R ∧ l'.length ≤ l.length from ⟨l,h,Dr.Kept.refl _ _,hR,Nat.le_refl _⟩);have HNE := Lib.hid (And.intro hT (h.tabs_ne hT));have hs2 : S.size ≤ 9223372036854775807 := Nat.le_trans hs (by decide);have HS := Lib.hid hs;have HS2 := Lib.hid hs2;clear h hT hR IH hs hs2;go_enter Tryz.func20,Tryz.ntmps20;go_wp2_with fail;go_loopw [] (fun wr => ∃ l',Dr.At b S l' g wr ∧ Dr.Kept b w wr ∧ Dr.Rel (.blanks l') R ∧ l'.length ≤ l.length) (fun wr => Dr.left b S wr);case atStart => exact H0.out
 case round =>
  obtain ⟨l',hA,hK,hR,hll⟩ := hrel;obtain ⟨wo,hwo⟩ : ∃ z,z = wr := ⟨_,rfl⟩;subst hwo;clear H0;have hTr : Dr.Tabs wo := Dr.tabs_kept HNE.out.1 HNE.out.2.1 HNE.out.2.2 hK;have HM := Lib.hid hA.left;have hAle := hA.le;obtain ⟨p,hp⟩ : ∃ z,S.size - l'.length = z := ⟨_,rfl⟩;have HP := Lib.hid hp;have hps : (p : Int) ≤ (S.size : Int) := by omega
  have hp0 : 0 ≤ (p : Int) := by omega
  have hsub := hA.sub;rw [hp] at hsub;have HC := Lib.hid (fun (w' : World) (hb : Below wo.heap.size wo w') => (hA.below hb).cells);rw [hp] at HC;have HTB := Lib.hid (fun (w1 : World) (hb1 : Below wo.heap.size wo w1) => Utf8Tabs_below hTr hb1);have HTK := Lib.hid (fun (w1 : World) (hk : Dr.Kept b w w1) => Dr.tabs_kept HNE.out.1 HNE.out.2.1 HNE.out.2.2 hk);have HF := Lib.hid (fun (w1 : World) (hk : Dr.Kept b w w1) (hbk : Dr.bk l' = .fault) => show Dr.PostBk b S g w R Dr.dead w1 from by
    rw [Dr.bk_inv_fault hbk hR]
    exact ⟨rfl,hk⟩)
  have HGO := Lib.hid (fun (w1 : World) (r : List UInt8) (hA1 : Dr.At b S r g w1) (hk : Dr.Kept b w w1) (hbk : Dr.bk l' = .go r) => show (∃ l'',Dr.At b S l'' g w1 ∧ Dr.Kept b w w1 ∧ Dr.Rel (.blanks l'') R ∧ l''.length ≤ l.length) ∧ Dr.left b S w1 < Dr.left b S wo from
    ⟨⟨r,hA1,hk,Dr.bk_inv_go hbk hR,by have := Dr.bk_go hbk; omega⟩,by rw [hA1.left,HM.out]; exact Dr.bk_go hbk⟩)
  have HSTOP := Lib.hid (fun (w1 : World) (hb1 : Below wo.heap.size wo w1) (hbk : Dr.bk l' = .stop) => show Dr.PostBk b S g w R (.returned (.tuple #[])) w1 from by
    rw [Dr.bk_inv_stop hbk hR]
    exact ⟨rfl,hA.below hb1,hK.trans (Dr.Kept.of_below hb1)⟩)
  have HA := Lib.hid hA;have HK := Lib.hid hK;have HR := Lib.hid hR;have HLL := Lib.hid hll;by_cases hl : l' = []
  · subst hl;have KP := Dr.peek_end b S g wo hA;have HSTOP2 := Lib.hid (fun w1 hb1 => HSTOP.out w1 hb1 Dr.bk_nil);clear hTr hA hK hR hll hAle hp HP hps hp0 hsub HC HF HGO HSTOP HTB HTK HM HNE HS HS2 HA HK HR HLL;go_wp2_with fail;refine KP.mono ?_;rintro x w1 ⟨rfl,hb1⟩;have HE := Lib.hid (HSTOP2.out w1 hb1);clear KP hb1 HSTOP2;go_wp2_with fail;first | go_end0 | refine bodyPost_ret (results_none rfl _ _ _) rfl ?_
    exact HE.out
  cases hb : Dr.bad l' with
  | true =>
    have KP := Dr.peek_bad b S l' g wo hA hl hb hTr;have HF2 := Lib.hid (fun w1 (hb1 : Below wo.heap.size wo w1) => HF.out w1 (hK.trans (Dr.Kept.of_below hb1)) (Dr.bk_bad hl hb));clear hTr hA hK hR hll hAle hp HP hps hp0 hsub HC HF HGO HSTOP HTB HTK HM HNE HS HS2 HA HK HR HLL hl hb;go_wp2_with fail;refine KP.mono ?_;rintro x w1 ⟨rfl,hb1⟩;have HE := Lib.hid (HF2.out w1 hb1);clear HF2 hb1;unfold Dr.dead at *;go_wp2_with fail;exact ⟨rfl,HE.out⟩
  | false =>
    have KP := Dr.peek_ok b S l' g wo hA hl hb hTr;have hwp := Dr.wd_pos hl;have hwl := Dr.wd_le hl;have heq := Dr.bk_eq hl hb;have KBL := Lib.hid (fun w' => Wt.blank_any (Dr.cp l') w');have hnz : ((Dr.wd l' : Int) == 0) = false := beq_eq_false_iff_ne.2 (by omega);have HST := Lib.hid (fun w1 (hb1 : Below wo.heap.size wo w1) => Dr.setAt (hA.below hb1) hp hwl ((Dr.wd l' : Nat) : Int) rfl);have hsum : (p : Int) + (Dr.wd l' : Int) ≤ 9223372036854775807 ∧ 0 ≤ (Dr.wd l' : Int) := by have := HS2.out; omega
    obtain ⟨hsum1,hsum2⟩ := hsum;have HBAD := Lib.hid hb;have HNIL := Lib.hid hl;have HWL := Lib.hid hwl;have HWP := Lib.hid hwp;cases hbl : Ch.blankB (Dr.cp l') with
    | true =>
      rw [if_pos hbl] at heq;rw [hbl] at KBL;have HGO2 := Lib.hid (fun w1 hA1 hk => HGO.out w1 _ hA1 hk heq);clear hTr hA hK hR hll hAle hp hsub HF HGO HSTOP HTB HTK HM HNE HS HS2 HA HR HLL hl hb heq hwp hwl;generalize Dr.cp l' = c at *;generalize Dr.wd l' = n at *;go_wp2_with fail;refine KP.mono ?_;rintro x w1 ⟨rfl,hb1⟩;go_wp2_with fail;refine (KBL.out _).mono ?_;rintro x w2 ⟨rfl,rfl⟩;obtain ⟨d0,d1,d2⟩ := HC.out w1 hb1;obtain ⟨W,hW,hfz,hAt,hKW,hz⟩ := HST.out w1 hb1;have HE := Lib.hid (HGO2.out W hAt ((HK.out.trans (Dr.Kept.of_below hb1)).trans hKW));clear HC HST HGO2 HK KP hb1 hAt hKW hz;go_wp2_with fail;exact HE.out
    | false =>
      rw [if_neg (by rw [hbl]; simp)] at heq;rw [hbl] at KBL;by_cases h59 : Dr.cp l' = 59
      · rw [if_pos h59] at heq;have h59b : (Dr.cp l' == 59) = true := beq_iff_eq.2 h59;have HB := Lib.hid heq;have hpc := Dr.pc_cons hl;have HL0 := Lib.hid (fun w1 (hb1 : Below wo.heap.size wo w1) => show ∃ l'',Value.int .i32 (Dr.cp l') = .int .i32 (Dr.pc l'') ∧ Value.int .i64 (Dr.wd l' : Int) = .int .i64 (Dr.pn l'' : Int) ∧ (l'' = [] ∨ Dr.bad l'' = false) ∧ Dr.At b S l'' g w1 ∧ Dr.Kept b w w1 ∧ Dr.line l'' = Dr.line l' from
          ⟨l',by rw [hpc.1],by rw [hpc.2],.inr hb,hA.below hb1,hK.trans (Dr.Kept.of_below hb1),rfl⟩)
        clear hTr hA hK hR hll hAle hp hsub HC HST HTB HNE HS HA HR HLL hl hb heq hwp hwl hpc HSTOP;obtain ⟨c,hc⟩ : ∃ z,z = Dr.cp l' := ⟨_,rfl⟩;obtain ⟨n,hn⟩ : ∃ z,z = Dr.wd l' := ⟨_,rfl⟩;rw [← hc] at KP KBL h59b HL0;rw [← hn] at KP hnz hsum1 hsum2 HL0;clear hc hn h59 hbl;go_wp2_with fail;refine KP.mono ?_;rintro x w1 ⟨rfl,hb1⟩;go_wp2_with fail;refine (KBL.out _).mono ?_;rintro x w2 ⟨rfl,rfl⟩;have HL1 := Lib.hid (HL0.out w1 hb1);clear KP KBL hb1 HL0;go_wp2_with fail;go_loopw [2,3] (fun v2 v3 wi => ∃ l'',v2 = .int .i32 (Dr.pc l'') ∧ v3 = .int .i64 (Dr.pn l'' : Int) ∧ (l'' = [] ∨ Dr.bad l'' = false) ∧ Dr.At b S l'' g wi ∧ Dr.Kept b w wi ∧ Dr.line l'' = Dr.line l') (fun _ _ wi => Dr.left b S wi);case atStart => exact HL1.out
        case round =>
         obtain ⟨l2,rfl,rfl,hb2,hA2,hK2,hL2⟩ := hrel;clear HL1 h59b hnz hsum1 hsum2;by_cases hl2 : l2 = []
         · subst hl2;rw [Dr.pc_nil.1,Dr.pc_nil.2];have HE := Lib.hid (HGO.out _ [] hA2 hK2 (by rw [HB.out,← hL2,Dr.line_nil]));clear hA2 hK2 hL2 hb2 HGO HF HTK;go_wp2_with fail;exact HE.out
         · have hb2 := hb2.resolve_left hl2;obtain ⟨e1,e2⟩ := Dr.pc_cons hl2;rw [e1,e2];have hle := Dr.line_eq hl2 hb2;have KLE := Lib.hid (fun w' => Dr.lineEnd_any (Dr.cp l2) w');have hwp2 := Dr.wd_pos hl2;have hwl2 := Dr.wd_le hl2;have h0n : 0 < Dr.wd l2 := by omega
           have h0n2 : (0 : Int) < (Dr.wd l2 : Int) := by omega
           cases hlc : Dr.lineC (Dr.cp l2) with
           | true =>
             rw [if_pos hlc] at hle;rw [hlc] at KLE;have HE := Lib.hid (HGO.out _ l2 hA2 hK2 (by rw [HB.out,← hL2,hle]));clear hA2 hK2 hL2 HGO HF HTK hb2 hl2 e1 e2 hle hwp2 hwl2;generalize Dr.cp l2 = c2 at *;generalize Dr.wd l2 = n2 at *;go_wp2_with fail;refine (KLE.out _).mono ?_;rintro x w4 ⟨rfl,rfl⟩;go_wp2_with fail;exact HE.out
           | false =>
             rw [if_neg (by rw [hlc]; simp)] at hle;rw [hlc] at KLE;obtain ⟨d0,d1,d2⟩ := hA2.cells;have hA2le := hA2.le;obtain ⟨p2,hp2⟩ : ∃ z,S.size - l2.length = z := ⟨_,rfl⟩;rw [hp2] at d1;have hp2s : (p2 : Int) + (Dr.wd l2 : Int) ≤ 9223372036854775807 ∧ 0 ≤ (p2 : Int) ∧ (p2 : Int) ≤ 9223372036854775807 := by have := HS2.out; omega
             obtain ⟨hp2s,hp2a,hp2b⟩ := hp2s;obtain ⟨W,hW,hfz,hAt,hKW,hz⟩ := Dr.setAt hA2 hp2 hwl2 ((Dr.wd l2 : Nat) : Int) rfl;have hlt : Dr.left b S W < Dr.left b S wr := by rw [hAt.left,hA2.left]; exact Dr.drop_lt hl2
             have hKall := hK2.trans hKW;have hTW := HTK.out W hKall;by_cases hb3 : l2.drop (Dr.wd l2) = [] ∨ Dr.bad (l2.drop (Dr.wd l2)) = false
             · have KP2 := Dr.peek_pc b S _ g W hAt hb3 hTW;have HE0 := Lib.hid (fun w5 (hb5 : Below W.heap.size W w5) => show (∃ l'',Value.int .i32 (Dr.pc (l2.drop (Dr.wd l2))) = .int .i32 (Dr.pc l'') ∧ Value.int .i64 (Dr.pn (l2.drop (Dr.wd l2)) : Int) = .int .i64 (Dr.pn l'' : Int) ∧ (l'' = [] ∨ Dr.bad l'' = false) ∧ Dr.At b S l'' g w5 ∧ Dr.Kept b w w5 ∧ Dr.line l'' = Dr.line l') ∧ Dr.left b S w5 < Dr.left b S wr from
                 ⟨⟨_,rfl,rfl,hb3,hAt.below hb5,hKall.trans (Dr.Kept.of_below hb5),by rw [← hle,hL2]⟩,by rw [(hAt.below hb5).left,← hAt.left]; exact hlt⟩)
               clear hA2 hK2 hL2 HGO HF HTK hb2 hl2 e1 e2 hle hwp2 hwl2 hA2le hp2 hAt hKW hz hKall hTW hlt hb3;generalize Dr.pc (l2.drop (Dr.wd l2)) = c3 at *;generalize Dr.pn (l2.drop (Dr.wd l2)) = n3 at *;generalize Dr.cp l2 = c2 at *;generalize Dr.wd l2 = n2 at *;go_wp2_with fail;refine (KLE.out _).mono ?_;rintro x w4 ⟨rfl,rfl⟩;go_wp2_with fail;refine KP2.mono ?_;rintro x w5 ⟨rfl,hb5⟩;have HE := Lib.hid (HE0.out w5 hb5);clear HE0 hb5 KP2;go_wp2_with fail;exact HE.out
             · have hn3 : l2.drop (Dr.wd l2) ≠ [] := fun e => hb3 (.inl e);have hb4 : Dr.bad (l2.drop (Dr.wd l2)) = true := by
                cases hq : Dr.bad (l2.drop (Dr.wd l2)) with
                | true => rfl
                | false => exact absurd (.inr hq) hb3
               have KP2 := Dr.peek_bad b S _ g W hAt hn3 hb4 hTW;have HE0 := Lib.hid (fun w5 (hb5 : Below W.heap.size W w5) => HF.out w5 (hKall.trans (Dr.Kept.of_below hb5)) (by rw [HB.out,← hL2,hle,Dr.line_bad hn3 hb4]));clear hA2 hK2 hL2 HGO HF HTK hb2 hl2 e1 e2 hle hwp2 hwl2 hA2le hp2 hAt hKW hz hKall hTW hlt hb3 hn3 hb4;generalize Dr.cp l2 = c2 at *;generalize Dr.wd l2 = n2 at *;go_wp2_with fail;refine (KLE.out _).mono ?_;rintro x w4 ⟨rfl,rfl⟩;go_wp2_with fail;refine KP2.mono ?_;rintro x w5 ⟨rfl,hb5⟩;have HE := Lib.hid (HE0.out w5 hb5);clear HE0 hb5 KP2;unfold Dr.dead at *;go_wp2_with fail;exact ⟨rfl,HE.out⟩
      · rw [if_neg h59] at heq;have h59b : (Dr.cp l' == 59) = false := beq_eq_false_iff_ne.2 h59;have KH := fun (p : ByteArray) (w' : World) => Tryz.strings_HasPrefix ⟨l'.toArray⟩ p w';have HC2 := Lib.hid (fun (w' : World) (hb : Below wo.heap.size wo w') => (show w'.cell? ⟨b,0,none⟩ = some (.string S) ∧ w'.cell? ⟨b,1,none⟩ = some (.int .i64 (p : Int)) from ⟨(HC.out w' hb).1,(HC.out w' hb).2.1⟩));have hlen : p + l'.length = S.size := by omega
        clear HST hwp hwl;by_cases k1 : l'.take 2 = [35,59]
        · rw [if_pos k1] at heq;have hl2 := Dr.take_two k1;have KH1 := Lib.hid (fun w' => KH ⟨#[35,59]⟩ w');simp only [Dr.hasP,List.length_cons,List.length_nil,decide_eq_true k1] at KH1;have hlen2 : (l'.drop 2).length = l'.length - 2 := List.length_drop;have HST2 := Lib.hid (fun w1 (hb1 : Below wo.heap.size wo w1) => Dr.setAt (hA.below hb1) hp hl2 2 rfl);have hp2 : (p : Int) + 2 ≤ 9223372036854775807 := by have := HS2.out; omega
          have HIB := HIH.out (.blanks (l'.drop 2)) (by show 2 * (l'.drop 2).length < 2 * l.length; omega);have KB := Lib.hid (fun (W : World) (R1 : Dr.Res) (hAt : Dr.At b S (l'.drop 2) g W) (hTW : Dr.Tabs W) (h1 : Dr.Rel (.blanks (l'.drop 2)) R1) => HIB b S g W R1 hAt HS.out hTW h1);have HREL := Lib.hid (Dr.bk_inv_datum heq hR);have HMLT := Lib.hid (fun w1 r2 (hA1 : Dr.At b S r2 g w1) (hlt : r2.length < (l'.drop 2).length) => show Dr.left b S w1 < Dr.left b S wo from by rw [hA1.left,HM.out]; omega);have HLT2 := Lib.hid (show (l'.drop 2).length + 2 ≤ l.length from by omega);clear hTr hA hK hR hll hAle hp HC HF HGO HSTOP HTB HM HNE HA HR HLL hl hb heq KH k1 hl2 h59 HIB hlen hlen2;generalize l'.drop 2 = ld at *;generalize Dr.cp l' = c at *;generalize Dr.wd l' = n at *;go_wp2_with fail;refine KP.mono ?_;rintro x w1 ⟨rfl,hb1⟩;go_wp2_with fail;refine (KBL.out _).mono ?_;rintro x w2 ⟨rfl,rfl⟩;go_wp2_with fail;have hbd : Below wo.heap.size wo w1.drew := Below.drew hb1;have hkeep := HC2.out w1.drew hbd;go_region_held3 (fun w' => w'.cell? ⟨b,0,none⟩ = some (.string S) ∧ w'.cell? ⟨b,1,none⟩ = some (.int .i64 (p : Int)))
           (first | exact hkeep)
           (first
             | (go_at_call 35
                refine (KH1.out _).mono ?_
                rintro x w2 ⟨rfl,rfl⟩))
          obtain ⟨W,hW,hfz,hAt,hKW,hz⟩ := HST2.out w1.drew hbd;have hK3 := (HK.out.trans (Dr.Kept.of_below hbd)).trans hKW;have hTW := HTK.out W hK3;obtain ⟨d0,d1⟩ := hkeep;obtain ⟨f0,f1,f2⟩ := hAt.cells;have KB1 := Lib.hid (fun R1 h1 => KB.out W R1 hAt hTW h1);have HK3 := Lib.hid hK3;clear HC2 HST2 hAt hKW hz hTW hbd hb1 KB KP KBL KH1 HK hK3 f0 f1;generalize w1.drew = w3 at *;go_wp2_with fail;rcases HREL.out with ⟨h1,hRf⟩ | ⟨r1,h1,hl1,h2⟩
          · refine (KB1.out _ h1).mono ?_;rintro x w4 ⟨rfl,hK4⟩;have HE := Lib.hid (show Dr.PostBk b S g w R Dr.dead w4 by rw [hRf]; exact ⟨rfl,HK3.out.trans hK4⟩);clear KB1 h1 hRf hK4 HREL HK3 HTK;unfold Dr.dead at *;go_wp2_with fail;exact ⟨rfl,HE.out⟩
          refine (KB1.out _ h1).mono ?_;rintro x w4 ⟨rfl,hA4,hK4⟩;have hK14 := HK3.out.trans hK4;have HID := HIH.out (.datum r1) (by have := HLT2.out; show 2 * r1.length < 2 * l.length; omega) b S g w4;have HTW4 := Lib.hid (HTK.out w4 hK14);have H2 := Lib.hid h2;have HK4 := Lib.hid hK14;have HA4 := Lib.hid hA4;have HID := Lib.hid HID;have HL1 := Lib.hid hl1;clear KB1 h1 h2 hA4 hK4 hK14 HREL hl1;go_wp2_with fail;rcases H2.out with ⟨h3,hRf⟩ | ⟨t,r2,big,h3,hl3,h4⟩
          · refine (HID.out _ HA4.out HS.out HTW4.out h3).mono ?_;rintro x w5 ⟨rfl,hK5⟩;have HE := Lib.hid (show Dr.PostBk b S g w R Dr.dead w5 by rw [hRf]; exact ⟨rfl,HK4.out.trans hK5⟩);clear h3 hRf hK5 HK4 HA4 HID;unfold Dr.dead at *;go_wp2_with fail;exact ⟨rfl,HE.out⟩
          refine (HID.out _ HA4.out HS.out HTW4.out h3).mono ?_;rintro x w5 ⟨v,rfl,_,hA5,hK5⟩;obtain ⟨W6,hW6,hfz6,hA6,hK6,hz6⟩ := hA5.flag g;obtain ⟨f0,f1,f2b⟩ := hA5.cells;have HE := Lib.hid (show (∃ l'',Dr.At b S l'' g W6 ∧ Dr.Kept b w W6 ∧ Dr.Rel (.blanks l'') R ∧ l''.length ≤ l.length) ∧ Dr.left b S W6 < Dr.left b S wo from
            ⟨⟨r2,hA6,(HK4.out.trans hK5).trans hK6,h4,by have := HLT2.out; have := HL1.out; omega⟩,HMLT.out _ _ hA6 (by have := HL1.out; omega)⟩)
          clear h3 h4 hl3 hA5 hK5 hA6 hK6 hz6 HID HA4 HK4 HTW4 f0 f1;go_wp2_with fail;exact HE.out
        · rw [if_neg k1] at heq;have KH1 := Lib.hid (fun w' => KH ⟨#[35,59]⟩ w');have KH2 := Lib.hid (fun w' => KH ⟨#[35,124]⟩ w');simp only [Dr.hasP,List.length_cons,List.length_nil,decide_eq_false k1] at KH1;by_cases k2 : l'.take 2 = [35,124]
          · rw [if_pos k2] at heq;simp only [Dr.hasP,List.length_cons,List.length_nil,decide_eq_true k2] at KH2;have KRM := Lib.hid (fun w1 (hb1 : Below wo.heap.size wo w1) => Dr.remark_any b S g l' w1 (hA.below hb1) HS2.out k2 (HTB.out w1 hb1));have HB := Lib.hid heq;clear hTr hA hK hR hll hAle hp HC HSTOP HTB HM HNE HA HR HLL hl hb heq KH k1 k2 h59 hlen;obtain ⟨c,hc⟩ : ∃ z,z = Dr.cp l' := ⟨_,rfl⟩;obtain ⟨n,hn⟩ : ∃ z,z = Dr.wd l' := ⟨_,rfl⟩;rw [← hc] at KP KBL h59b hbl;rw [← hn] at KP hnz hsum1 hsum2;clear hc hn;go_wp2_with fail;refine KP.mono ?_;rintro x w1 ⟨rfl,hb1⟩;go_wp2_with fail;refine (KBL.out _).mono ?_;rintro x w2 ⟨rfl,rfl⟩;go_wp2_with fail;have hbd : Below wo.heap.size wo w1.drew := Below.drew hb1;have hkeep := HC2.out w1.drew hbd;go_region_held3 (fun w' => w'.cell? ⟨b,0,none⟩ = some (.string S) ∧ w'.cell? ⟨b,1,none⟩ = some (.int .i64 (p : Int)))
             (first | exact hkeep)
             (first
               | (go_at_call 35
                  refine (KH1.out _).mono ?_
                  rintro x w2 ⟨rfl,rfl⟩))
            have hbd2 : Below wo.heap.size wo w1.drew.drew := Below.drew hbd;have hkeep2 := HC2.out w1.drew.drew hbd2;go_wp2_with fail;go_region_held3 (fun w' => w'.cell? ⟨b,0,none⟩ = some (.string S) ∧ w'.cell? ⟨b,1,none⟩ = some (.int .i64 (p : Int)))
             (first | exact hkeep2)
             (first
               | (go_at_call 35
                  refine (KH2.out _).mono ?_
                  rintro x w2 ⟨rfl,rfl⟩))
            have KRM1 := KRM.out _ hbd2;have HKB := Lib.hid (HK.out.trans (Dr.Kept.of_below hbd2));clear hkeep hkeep2 HC2 KRM hbd hbd2 hb1 KP KBL KH1 KH2;generalize w1.drew.drew = w3 at *;cases hrm : Dr.remark 0 l' with
            | none =>
              rw [hrm] at KRM1;have HF2 := Lib.hid (fun w1 hk => HF.out w1 hk (by rw [HB.out,hrm]));clear HF HGO HTK;go_wp2_with fail;refine KRM1.mono ?_;rintro x w4 ⟨rfl,hK4⟩;have HE := Lib.hid (HF2.out w4 (HKB.out.trans hK4));clear HF2 hK4 KRM1 HKB;unfold Dr.dead at *;go_wp2_with fail;exact ⟨rfl,HE.out⟩
            | some r =>
              rw [hrm] at KRM1;have HGO2 := Lib.hid (fun w1 hA1 hk => HGO.out w1 r hA1 hk (by rw [HB.out,hrm]));clear HF HGO HTK;go_wp2_with fail;refine KRM1.mono ?_;rintro x w4 ⟨rfl,hA4,hK4⟩;have HE := Lib.hid (HGO2.out w4 hA4 (HKB.out.trans hK4));clear HGO2 hK4 hA4 KRM1 HKB;go_wp2_with fail;exact HE.out
          · rw [if_neg k2] at heq;simp only [Dr.hasP,List.length_cons,List.length_nil,decide_eq_false k2] at KH2;have HSTOP2 := Lib.hid (fun w1 hb1 => HSTOP.out w1 hb1 heq);clear hTr hA hK hR hll hAle hp HC HSTOP HTB HM HNE HA HR HLL hl hb heq KH k1 k2 h59 hlen HF HGO HTK;generalize Dr.cp l' = c at *;generalize Dr.wd l' = n at *;go_wp2_with fail;refine KP.mono ?_;rintro x w1 ⟨rfl,hb1⟩;go_wp2_with fail;refine (KBL.out _).mono ?_;rintro x w2 ⟨rfl,rfl⟩;go_wp2_with fail;have hbd : Below wo.heap.size wo w1.drew := Below.drew hb1;have hkeep := HC2.out w1.drew hbd;go_region_held3 (fun w' => w'.cell? ⟨b,0,none⟩ = some (.string S) ∧ w'.cell? ⟨b,1,none⟩ = some (.int .i64 (p : Int)))
             (first | exact hkeep)
             (first
               | (go_at_call 35
                  refine (KH1.out _).mono ?_
                  rintro x w2 ⟨rfl,rfl⟩))
            have hbd2 : Below wo.heap.size wo w1.drew.drew := Below.drew hbd;have hkeep2 := HC2.out w1.drew.drew hbd2;go_wp2_with fail;go_region_held3 (fun w' => w'.cell? ⟨b,0,none⟩ = some (.string S) ∧ w'.cell? ⟨b,1,none⟩ = some (.int .i64 (p : Int)))
             (first | exact hkeep2)
             (first
               | (go_at_call 35
                  refine (KH2.out _).mono ?_
                  rintro x w2 ⟨rfl,rfl⟩))
            have HE := Lib.hid (HSTOP2.out _ hbd2);clear hkeep hkeep2 HC2 HSTOP2 hbd hbd2 hb1 KP KBL KH1 KH2;go_wp2_with fail;first | go_end0 | refine bodyPost_ret (results_none rfl _ _ _) rfl ?_
            exact HE.out
theorem Dr.items_con (e : Int) (l : List UInt8) (IH : ∀ j : Dr.Job,j.len < (Dr.Job.items e l).len → Dr.Con j) : Dr.Con (.items e l) := by
 intro b S g w R h hs hT hR he;subst he;have HIH := Lib.hid IH;have H0 := Lib.hid (show ∃ (l' : List UInt8) (acc : Bool) (ts : List Tr) (xs : List Value) (R' : Dr.Res),Dr.ItSt b S w l' (g || acc) w (.slice none 0 0) ts xs ∧ Dr.Rel (.items 41 l') R' ∧ R = Dr.joinR ts acc R' ∧ ts.length + l'.length ≤ l.length from
   ⟨l,false,[],[],R,by rw [Bool.or_false]; exact Dr.ItSt.start h,hR,(Dr.joinR_nil R).symm,by simp⟩)
 have HNE := Lib.hid (And.intro hT (h.tabs_ne hT));have HS := Lib.hid hs;have HLE := Lib.hid h.le;obtain ⟨i0,hi,hz0,hz1,hz2⟩ := info_parts Dr.infoD;clear h hT hR IH hs;go_enter Tryz.func41,Tryz.ntmps41;go_wp2_with fail;go_loopw [5] (fun v5 wr => ∃ (l' : List UInt8) (acc : Bool) (ts : List Tr) (xs : List Value) (R' : Dr.Res),Dr.ItSt b S w l' (g || acc) wr v5 ts xs ∧ Dr.Rel (.items 41 l') R' ∧ R = Dr.joinR ts acc R' ∧ ts.length + l'.length ≤ l.length) (fun _ wr => Dr.left b S wr);case atStart => exact H0.out
 case round =>
  obtain ⟨l',acc,ts,xs,R',hst,hR,hj,hll⟩ := hrel;clear H0;obtain ⟨oa,oc,rfl⟩ := Dr.own_slice hst.row.1;obtain ⟨k,hk⟩ : ∃ z,ts.length = z := ⟨_,rfl⟩;have HK := Lib.hid hk;rw [hk] at hst ⊢;have HT := Lib.hid (fun (w1 : World) (hk : Dr.Kept b w w1) => Dr.tabs_kept HNE.out.1 HNE.out.2.1 HNE.out.2.2 hk);have HM := Lib.hid hst.rd.left;have HST := Lib.hid hst;have HJ := Lib.hid hj;have HLL := Lib.hid hll;have HR := Lib.hid hR;have HIB := HIH.out (.blanks l') (by show 2 * l'.length < 2 * l.length + 1; omega) b S (g || acc) wr;have KB := Lib.hid HIB;obtain ⟨R1,h1⟩ := Dr.total (.blanks l');have KB1 := Lib.hid (KB.out R1 hst.rd HS.out (HT.out wr hst.kept) h1);have H1 := Lib.hid h1;clear hst hR hj hll hk HIB KB h1;go_wp2_with fail;rcases Dr.skips H1.out with hR1 | ⟨r,hR1,hl1⟩
  · subst hR1;refine KB1.out.mono ?_;rintro x w4 ⟨rfl,hK4⟩;have HE := Lib.hid (show Dr.PostIt b S g w R Dr.dead w4 by
      rw [HJ.out,Dr.it_inv_fault H1.out HR.out]
      exact ⟨rfl,HST.out.kept.trans hK4⟩)
    clear hK4 KB1;unfold Dr.dead at *;go_wp2_with fail;exact ⟨rfl,HE.out⟩
  subst hR1;refine KB1.out.mono ?_;rintro x w4 ⟨rfl,hA4,hK4⟩;have HS4 := Lib.hid (HST.out.move hA4 hK4);have hT4 := HT.out w4 HS4.out.kept;have HL1 := Lib.hid hl1;clear KB1 hl1;by_cases hbad : r ≠ [] ∧ Dr.bad r = true
  · have KP := Dr.peek_bad b S r (g || acc) w4 hA4 hbad.1 hbad.2 hT4;have HE0 := Lib.hid (fun w5 (hb5 : Below w4.heap.size w4 w5) => show Dr.PostIt b S g w R Dr.dead w5 from by
      rw [HJ.out,HR.out.det (.iFault2 H1.out (Dr.pk_bad hbad.1 hbad.2))]
      exact ⟨rfl,HS4.out.kept.trans (Dr.Kept.of_below hb5)⟩)
    clear hA4 hK4 hT4 hbad;go_wp2_with fail;refine KP.mono ?_;rintro x w5 ⟨rfl,hb5⟩;have HE := Lib.hid (HE0.out w5 hb5);clear HE0 hb5 KP;unfold Dr.dead at *;go_wp2_with fail;exact ⟨rfl,HE.out⟩
  by_cases hstop : r ≠ [] ∧ Dr.cp r = 41
  · obtain ⟨hr0,hr41⟩ := hstop;have hb : Dr.bad r = false := by
     cases hq : Dr.bad r with
     | false => rfl
     | true => exact absurd ⟨hr0,hq⟩ hbad
    have KP := Dr.peek_ok b S r (g || acc) w4 hA4 hr0 hb hT4;have hRR := HR.out.det (.iStop H1.out (Dr.pk_stop hr0 hb hr41));have hwp := Dr.wd_pos hr0;have hwl := Dr.wd_le hr0;have h0n : 0 < Dr.wd r := by omega
    have h0n2 : (0 : Int) < (Dr.wd r : Int) := by omega
    have hcb : (Dr.cp r == 41) = true := beq_iff_eq.2 hr41;obtain ⟨p,hp⟩ : ∃ z,S.size - r.length = z := ⟨_,rfl⟩;have hps : (p : Int) + (Dr.wd r : Int) ≤ 9223372036854775807 ∧ 0 ≤ (p : Int) ∧ (p : Int) ≤ 9223372036854775807 := by have := HS.out; have := hA4.le; omega
    obtain ⟨hps,hpa,hpb⟩ := hps;have HAT := Lib.hid (fun w5 (hb5 : Below w4.heap.size w4 w5) => (hA4.below hb5).cells);rw [hp] at HAT;have HSET := Lib.hid (fun w5 (hb5 : Below w4.heap.size w4 w5) => Dr.setAt (hA4.below hb5) hp hwl ((Dr.wd r : Nat) : Int) rfl);have HE0 := Lib.hid (fun w5 W (hb5 : Below w4.heap.size w4 w5) (hA : Dr.At b S (r.drop (Dr.wd r)) (g || acc) W) (hkW : Dr.Kept b w5 W) => show Dr.PostIt b S g w R (.returned (.slice oa k oc)) W from by
      rw [HJ.out,hRR];have h5 := HS4.out.move hA ((Dr.Kept.of_below hb5).trans hkW);show ∃ v,Ending.returned (.slice oa k oc) = .returned v ∧ Tr.LIn W (fun q => w.heap.size ≤ q) (ts ++ []) v ∧ (ts ++ []).length ≤ S.size ∧ Dr.At b S (r.drop (Dr.wd r)) (g || (acc || false)) W ∧ Dr.Kept b w W;rw [List.append_nil,Bool.or_false]
      exact ⟨_,rfl,h5.row.lin,by have := HLL.out; have := HLE.out; omega,hA,h5.kept⟩)
    clear hA4 hK4 hT4 hbad hr41 hRR hwp hwl hp hb hr0;generalize Dr.cp r = c at *;generalize Dr.wd r = n at *;go_wp2_with fail;refine KP.mono ?_;rintro x w5 ⟨rfl,hb5⟩;obtain ⟨d0,d1,d2⟩ := HAT.out w5 hb5;obtain ⟨W,hW,hfz,hAt,hKW,hz⟩ := HSET.out w5 hb5;have HE := Lib.hid (HE0.out w5 W hb5 hAt hKW);clear HE0 hb5 KP hAt hKW hz HAT HSET d2;go_wp2_with fail;go_ret;exact HE.out
  have hitem : r = [] ∨ (Dr.bad r = false ∧ ¬ Dr.cp r = 41) := by
   by_cases h0 : r = []
   · exact .inl h0
   · refine .inr ⟨?_,fun h => hstop ⟨h0,h⟩⟩;cases hq : Dr.bad r with
     | false => rfl
     | true => exact absurd ⟨h0,hq⟩ hbad
  obtain ⟨c,n,hcn,_,KP⟩ := Dr.peek_not b S r (g || acc) 41 w4 hA4 hitem hT4;have HDI := HIH.out (.datum r) (by have := HLL.out; have := HL1.out; show 2 * r.length < 2 * l.length + 1; omega) b S (g || acc);have KD := Lib.hid (fun w5 R2 (hb5 : Below w4.heap.size w4 w5) h2 => HDI w5 R2 (hA4.below hb5) HS.out (Utf8Tabs_below hT4 hb5) h2);have HINV := Lib.hid (Dr.it_inv H1.out (Dr.pk_true hitem) HR.out);clear hA4 hK4 hT4 hbad hstop hitem HDI;rcases hcn with rfl | ⟨hn0,hcb⟩;all_goals
   go_wp2_with fail;refine KP.mono ?_;rintro x w5 ⟨rfl,hb5⟩;have HS5 := Lib.hid (HS4.out.move (HS4.out.rd.below hb5) (Dr.Kept.of_below hb5));have KD1 := Lib.hid (fun R2 h2 => KD.out w5 R2 hb5 h2);clear KP hb5 KD HS4 HST;go_wp2_with fail;rcases HINV.out with ⟨h2,hRf⟩ | ⟨t,r2,big,R3,h2,hl2,h3,hRj⟩
   · refine (KD1.out _ h2).mono ?_;rintro x w6 ⟨rfl,hK6⟩;have HE := Lib.hid (show Dr.PostIt b S g w R Dr.dead w6 by
       rw [HJ.out,hRf]
       exact ⟨rfl,HS5.out.kept.trans hK6⟩)
     clear h2 hRf hK6 KD1 HINV;unfold Dr.dead at *;go_wp2_with fail;exact ⟨rfl,HE.out⟩
   · refine (KD1.out _ h2).mono ?_;rintro x w6 ⟨v,rfl,hI6,hA6,hK6⟩;obtain ⟨C6,rfl⟩ := Dr.in_agg hI6;obtain ⟨hf,lf,ar3,ar4,ar6,ar7,ar9,ar10,nr3,nr4,nr6,nr7,nr9,nr10,cr3,cr4,cr6,cr7,cr9,cr10,eC6,et6,_,_⟩ := Tr.In.form2 hI6;subst eC6;have H6 := Lib.hid (And.intro hI6 (And.intro hA6 hK6));have H3 := Lib.hid (And.intro h3 (And.intro hRj hl2));have hrow6 := (HS5.out.move hA6 hK6).row.1;obtain ⟨O,hO⟩ : ∃ z,Obj.cells (Tr.cells hf (.slice ar3 nr3 cr3) (.slice ar4 nr4 cr4) (.slice ar6 nr6 cr6) (.slice ar7 nr7 cr7) (.slice ar9 nr9 cr9) (.slice ar10 nr10 cr10)) 30 = z := ⟨_,rfl⟩;have hown6 : (w6.alloc O).ownsRow w.heap.size 30 11 (.slice oa k oc) k xs := by
      have := Dr.own_kept (w' := w6.alloc O) hrow6 (fun q _ hq => ((Below.refl w6.heap.size w6).alloc (Nat.le_refl _) O).block q hq);rwa [HK.out] at this
     have hkb : k ≤ 1048576 := by have := HS.out; have := HLL.out; have := HLE.out; have := HK.out; omega
     have hsz6 : w.heap.size ≤ (w6.alloc O).heap.size := by
      have h1 := (HS5.out.move hA6 hK6).kept.size;have h2 : (w6.alloc O).heap.size = w6.heap.size + 1 := by simp
      omega
     subst hO;unfold Tr.cells at *;have HOWN := Lib.hid hown6;have HSZ := Lib.hid hsz6;clear hI6 hA6 hK6 hrow6 h2 h3 hRj et6 KD1 HINV hl2 hown6 hsz6;go_wp2_with (at_builtin; refine Ls.wpList_append _ rfl _ _ 28 rfl w.heap.size 30 i0 Dr.zeroV 11 192 Tryz.underlying28 hi hz0 hz1 hz2 rfl (by decide) (.slice oa k oc) k xs (by rfl) HOWN.out (.slice (some ⟨w6.heap.size,0,none⟩) 1 1) 1 [.int .i64 hf.k,.int .i64 hf.n,.bool hf.s1,.slice ar3 nr3 cr3,.slice ar4 nr4 cr4,.bool hf.s2,.slice ar6 nr6 cr6,.slice ar7 nr7 cr7,.string hf.x,.slice ar9 nr9 cr9,.slice ar10 nr10 cr10] (by rfl) (.inr ⟨_,_,rfl,rfl,World.news_of_block (heap_alloc_new _ _)⟩) (by intro u hu; simp only [List.mem_cons,List.not_mem_nil,or_false] at hu; rcases hu with rfl | rfl | rfl | rfl | rfl | rfl | rfl | rfl | rfl | rfl | rfl <;> rfl) (by simp only [maxLen]; omega) (by omega) HSZ.out ?_);intro v7 w7 hown7 hgr7 hfr7;have HE := Lib.hid (show (∃ (l' : List UInt8) (acc : Bool) (ts : List Tr) (xs : List Value) (R' : Dr.Res),Dr.ItSt b S w l' (g || acc) w7 v7 ts xs ∧ Dr.Rel (.items 41 l') R' ∧ R = Dr.joinR ts acc R' ∧ ts.length + l'.length ≤ l.length) ∧ Dr.left b S w7 < Dr.left b S wr from by
       have hnx := HS5.out.next H6.out.1 H6.out.2.1 H6.out.2.2 (v' := v7) (by rw [HK.out]; exact hown7) hgr7 hfr7;refine ⟨⟨r2,acc || big,ts ++ [t],_,R3,by rw [← Bool.or_assoc]; exact hnx,H3.out.1,by rw [HJ.out,H3.out.2.1,Dr.joinR_snoc],?_⟩,?_⟩
       · have := HLL.out; have := HL1.out; have := H3.out.2.2;rw [List.length_append,List.length_singleton]; omega
       · rw [hnx.rd.left,HM.out]
         have := HL1.out; have := H3.out.2.2; omega)
     obtain ⟨a7,c7,rfl⟩ := Dr.own_slice hown7;clear hown7 hgr7 hfr7;go_wp2_with fail;exact HE.out
def Sm.Says (t : Tr) : Prop := ∀ (S S' : Nat → Prop) (C C' : Array Value) (w : World),Tr.In w S t (.agg C) → Tr.In w S' t (.agg C') →
 Calls Tryz.prog 12 #[.agg C,.agg C'] w fun e w' => e = .returned (.bool true) ∧ Below w.heap.size w w'
theorem Sm.cells {w : World} {b : Nat} {C : Array Value} {t : TypeId} (h : w.heap[b]? = some (.cells C t (0,0))) (k : Nat) : w.cell? ⟨b,k,none⟩ = C[k]? := by
 simp [World.cell?,h]
theorem Sm.same_step (t : Tr) (IH : ∀ u,Tr.size u < Tr.size t → Sm.Says u) : Sm.Says t := by
 intro S S' C C' w hI hI';obtain ⟨h,l⟩ := t;rw [Tr.In_mk] at hI hI';obtain ⟨v3,v4,v6,v7,v9,v10,e,hH,hL⟩ := hI;obtain ⟨u3,u4,u6,u7,u9,u10,e',hH',hL'⟩ := hI';cases e;cases e';obtain ⟨p3,d3,rfl⟩ := hH.i3.slice;obtain ⟨p4,d4,rfl⟩ := hH.i4.slice;obtain ⟨p6,d6,rfl⟩ := hH.i6.slice;obtain ⟨p7,d7,rfl⟩ := hH.i7.slice;obtain ⟨p9,d9,rfl⟩ := hH.i9.slice;obtain ⟨p10,d10,rfl,hcap10,hmax10⟩ := Tr.Sl.slice hL;obtain ⟨r3,g3,rfl⟩ := hH'.i3.slice;obtain ⟨r4,g4,rfl⟩ := hH'.i4.slice;obtain ⟨r6,g6,rfl⟩ := hH'.i6.slice;obtain ⟨r7,g7,rfl⟩ := hH'.i7.slice;obtain ⟨r9,g9,rfl⟩ := hH'.i9.slice;obtain ⟨r10,g10,rfl,_,_⟩ := Tr.Sl.slice hL';have hN := Sm.two w (.cells #[.int .i64 h.k,.int .i64 h.n,.bool h.s1,.slice p3 h.t1.length d3,.slice p4 h.b1.length d4,.bool h.s2,.slice p6 h.t2.length d6,.slice p7 h.b2.length d7,.string h.x,.slice p9 h.raw.size d9,.slice p10 l.length d10] 30) (.cells #[.int .i64 h.k,.int .i64 h.n,.bool h.s1,.slice r3 h.t1.length g3,.slice r4 h.b1.length g4,.bool h.s2,.slice r6 h.t2.length g6,.slice r7 h.b2.length g7,.string h.x,.slice r9 h.raw.size g9,.slice r10 l.length g10] 30);have HN := Lib.hid hN
 have HKA := Lib.hid (fun w' (hb : Below w.heap.size w w') => Sm.alike h.s1 h.s2 h.t1 h.b1 h.t2 h.b2 _ _ _ _ _ _ _ _ w' hH.ok.l1 hH.ok.l2 hH.ok.l3 hH.ok.l4 (hH.i3.below hb (Nat.le_refl _)) (hH.i4.below hb (Nat.le_refl _)) (hH.i6.below hb (Nat.le_refl _)) (hH.i7.below hb (Nat.le_refl _)) (hH'.i3.below hb (Nat.le_refl _)) (hH'.i4.below hb (Nat.le_refl _)) (hH'.i6.below hb (Nat.le_refl _)) (hH'.i7.below hb (Nat.le_refl _)));have hraw := hH.ok.r1;have HR := Lib.hid (And.intro hH.i9 hH'.i9);have HLL := Lib.hid (And.intro hL hL');have HIH := Lib.hid IH;have hlen : l.length ≤ 9223372036854775807 := by
  rcases hmax10 with h0 | h0
  · omega
  · omega
 clear hH hH' hL hL' IH hN hcap10 hmax10;unfold Tr.cells;go_enter Tryz.func12,Tryz.ntmps12;go_wp2_with fail;refine (HKA.out _ HN.out.2.2.2).mono ?_;rintro x w1 ⟨rfl,hb1⟩;obtain ⟨n0,n1,n2,n3⟩ := HN.out;have q0 := (hb1.block w.heap.size (by omega)).trans n0;have q1 := (hb1.block (w.heap.size + 1) (by omega)).trans n1;have hbw1 := n3.trans (hb1.mono n3.size);have hz1 : w.heap.size + 2 ≤ w1.heap.size := by have := hb1.size; omega
 have HF : Hid (∀ w',Below w1.heap.size w1 w' → w'.cell? ⟨w.heap.size,9,none⟩ = some (.slice p9 h.raw.size d9) ∧ w'.cell? ⟨w.heap.size + 1,9,none⟩ = some (.slice r9 h.raw.size g9) ∧ w'.cell? ⟨w.heap.size,10,none⟩ = some (.slice p10 l.length d10) ∧ w'.cell? ⟨w.heap.size + 1,10,none⟩ = some (.slice r10 l.length g10) ∧ Below w.heap.size w w') := Lib.hid (fun w' hb => by
   have a0 := (hb.block w.heap.size (by omega)).trans q0;have a1 := (hb.block (w.heap.size + 1) (by omega)).trans q1
   exact ⟨(Sm.cells a0 9).trans rfl,(Sm.cells a1 9).trans rfl,(Sm.cells a0 10).trans rfl,(Sm.cells a1 10).trans rfl,hbw1.trans (hb.mono hbw1.size)⟩)
 clear hb1 n0 n1 n2 n3 q0 q1 hbw1;go_wp2_with fail;go_loopg [5] h.raw.size (fun g i wr => ∃ k : Nat,k + g = h.raw.size ∧ i = .int .i64 k ∧ Below w1.heap.size w1 wr);case atStart => exact ⟨0,by omega,rfl,Below.refl _ _⟩
 case round =>
  obtain ⟨k,hkg,rfl,hb⟩ := hrel;obtain ⟨wo,hwo⟩ : ∃ z,z = wr := ⟨_,rfl⟩;subst hwo;obtain ⟨c9,f9,c10,f10,hbw⟩ := HF.out _ hb;have HB := Lib.hid hb;have HBW := Lib.hid hbw;clear hb;by_cases hlt : k < h.raw.size
  · obtain ⟨b,off,had,hbl,_,hc⟩ := HR.out.1.at (by omega);obtain ⟨b2,off2,had2,hbl2,_,hc2⟩ := HR.out.2.at (by omega);subst had;subst had2;have e0 := (hbw.cell (p := ⟨b,off + k,none⟩) hbl).trans (hc k hlt);have e1 := (hbw.cell (p := ⟨b2,off2 + k,none⟩) hbl2).trans (hc2 k hlt);clear hc hc2 hbw;generalize Cd.byt h.raw k = x at *;go_wp2;go_quiet (fail);have HB2 := Lib.hid (below_drewN HB.out nq);go_wp2;go_roundg (gk - 1);case measure => omega
    case rel => exact ⟨k + 1,by omega,by first | rfl | go_num | (simp; try omega),HB2.out⟩
  · have hk : k = h.raw.size := by omega
    subst hk;clear hbw;go_wp2_with fail;go_loopg [6] l.length (fun g i wr => ∃ k : Nat,k + g = l.length ∧ i = .int .i64 k ∧ Below w1.heap.size w1 wr);case atStart => exact ⟨0,by omega,rfl,HB.out⟩
    case round =>
     obtain ⟨k,hkl,rfl,hb⟩ := hrel;obtain ⟨wp,hwp⟩ : ∃ z,z = wr := ⟨_,rfl⟩;subst hwp;obtain ⟨_,_,y10,z10,hbw⟩ := HF.out _ hb;have HB3 := Lib.hid hb;have HBW3 := Lib.hid hbw;by_cases hlt : k < l.length
     · obtain ⟨tk,htk⟩ : ∃ t,l[k]? = some t := ⟨_,List.getElem?_eq_getElem hlt⟩;obtain ⟨b,off,rfl,_,_,_,hblt,hSb,hall⟩ := Tr.Sl.at HLL.out.1 (by omega);obtain ⟨Ck,hIk,hMk⟩ := Tr.All.at _ _ _ hall k tk htk;obtain ⟨b2,off2,rfl,_,_,_,hblt2,hSb2,hall2⟩ := Tr.Sl.at HLL.out.2 (by omega);obtain ⟨Ck2,hIk2,hMk2⟩ := Tr.All.at _ _ _ hall2 k tk htk;rw [Nat.mul_comm 11 k] at hMk hMk2;have hbd : Below w1.heap.size w1 wp.drew := hb.drew;obtain ⟨_,_,yd10,zd10,hbwd⟩ := HF.out _ hbd;have hM4 := hMk.kept (Tr.Kept.all hbwd (Nat.le_refl _)) hSb hblt;have hM5 := hMk2.kept (Tr.Kept.all hbwd (Nat.le_refl _)) hSb2 hblt2;have KT := HIH.out tk (Tr.size_lt (t := .mk h l) (k := k) htk) S S' Ck Ck2 wp.drew (Tr.In.below hIk hbwd (Nat.le_refl _)) (Tr.In.below hIk2 hbwd (Nat.le_refl _));obtain ⟨he,le,ab3,ab4,ab6,ab7,ab9,ab10,nb3,nb4,nb6,nb7,nb9,nb10,cb3,cb4,cb6,cb7,cb9,cb10,eCb,_,_,_⟩ := Tr.In.form2 hIk;subst eCb;obtain ⟨hf,lf,ar3,ar4,ar6,ar7,ar9,ar10,nr3,nr4,nr6,nr7,nr9,nr10,cr3,cr4,cr6,cr7,cr9,cr10,eCr,_,_,_⟩ := Tr.In.form2 hIk2;subst eCr;unfold Tr.cells at KT hM4 hM5;obtain ⟨e0,e1,e2,e3,e4,e5,e6,e7,e8,e9,e10⟩ := Tr.Mem.cells hM4;obtain ⟨i0,i1,i2,i3,i4,i5,i6,i7,i8',i9,i10⟩ := Tr.Mem.cells hM5;have HKT := Lib.hid KT;clear hIk hMk hIk2 hMk2 hall hall2 htk hblt hblt2 hSb hSb2 hM4 hM5 KT hb hbw hbd hbwd;go_wp2_with fail;go_region_with (first
         | (go_at_call 12
            refine HKT.out.mono ?_
            rintro x w5 ⟨rfl,hb5⟩
            have HB5 := Lib.hid (HB3.out.trans ((((Below.refl _ _).drew).trans hb5).mono HB3.out.size))
            clear hb5))
       all_goals
        go_wp2_with fail;go_roundg (l.length - (k + 1));case measure => omega
        case rel => exact ⟨k + 1,by omega,by first | rfl | go_num | (simp; try omega),HB5.out⟩
     · have hk : k = l.length := by omega
       subst hk;clear hb hbw;go_wp2_with fail;go_ret;exact ⟨rfl,HBW3.out⟩
theorem Sm.same (t : Tr) : Sm.Says t := Sm.same_step t (fun u _ => Sm.same u)
termination_by Tr.size t
decreasing_by assumption
theorem Wt.char_any (B b : Nat) (m : Bool) (bs : List Value) (r : Nat) (w : World) (h : Wr.Is B b m bs w) (hd : Wt.Bits w) (hr : Ru.okR (r : Int)) (hlen : bs.length + 100 ≤ 140737488355328) :
 Calls Tryz.prog 58 #[.pointer (some ⟨b,0,none⟩),.int .i32 r] w fun e w' => e = .returned (.tuple #[]) ∧ (Wr.At B b (.pointer (some ⟨b,0,none⟩)) m (bs ++ Lib.byteCells (Wt.chr m r)) w' ∧ Wt.Kept B b w w') := by
 have hm := h.marked
 obtain ⟨hBb,hblt⟩ := h.blk
 have hrb : r ≤ 1114111 := by unfold Ru.okR at hr; omega
 have hwr : IntKind.i64.wrap (r : Int) = r := by rw [IntKind.wrap_i64]; omega
 have KR := Wt.writeRune B b m bs (r : Int) (by omega) (by omega) w h (by omega) (by omega)
 rw [← Lib.byteCells_encodeRune] at KR
 have KH := Wt.hex_any B b m bs r [35,92] [] w h hrb hd (by decide) (by decide) hlen
 have KW : ∀ s : ByteArray,∀ l : List UInt8,s = ⟨l.toArray⟩ → l.length ≤ 50 → Calls Tryz.prog 56 #[.pointer (some ⟨b,0,none⟩),.string s] w fun e w' => e = .returned (.tuple #[.int .i64 s.size,.nilIface]) ∧ (Wr.At B b (.pointer (some ⟨b,0,none⟩)) m (bs ++ Lib.byteCells l) w' ∧ Wt.Kept B b w w') := by
  intro s l hs hl;subst hs;refine (Wt.writeString B b m bs _ w h (by show _ + (List.toArray _).size ≤ _; simp; omega) (by omega)).mono ?_;rintro e w2 ⟨rfl,h2,k2⟩;rw [Wt.strCells_str] at h2;exact ⟨rfl,h2,k2⟩
 have HR := Lib.hid KR
 have HH := Lib.hid KH
 have HW := Lib.hid KW
 obtain ⟨N,hN⟩ : ∃ z,Wt.name (r : Int) = z := ⟨_,rfl⟩
 have hN9 := Wt.name_len (r : Int)
 rw [hN] at hN9
 have KN := fun w' => Wt.CharName_any (r : Int) w'
 rw [hN] at KN
 obtain ⟨o,ho⟩ : ∃ z,Wt.odd (r : Int) = z := ⟨_,rfl⟩
 obtain ⟨q,hq⟩ : ∃ z,Ch.blankB (r : Int) = z := ⟨_,rfl⟩
 have KO := fun w' => Wt.odd_any (r : Int) w'
 have KB := fun w' => Wt.blank_any (r : Int) w'
 rw [ho] at KO
 rw [hq] at KB
 have HC : Hid (Wt.chr m (r : Int) = if m = false then Lib.encodeRune r else if N ≠ [] then [35,92] ++ N else if (o || q) = true then [35,92,120] ++ Wt.hex r else [35,92] ++ Lib.encodeRune r) := Lib.hid (by
   unfold Wt.chr;rw [hN,ho,hq]
   rfl)
 have he4 := Wt.enc_len (r : Int)
 have henc : Utf8.encode (r : Int) = ⟨(Lib.encodeRune (r : Int)).toArray⟩ := Sl.encode_eq _
 obtain ⟨E,hE⟩ : ∃ z,Lib.encodeRune (r : Int) = z := ⟨_,rfl⟩
 rw [hE] at HC HR he4 henc
 have HR2 := Lib.hid (And.intro HW HR)
 clear KR KH KW HW HR h hd ho hq hN hr hE
 cases m
 · go_enter Tryz.func58,Tryz.ntmps58;go_wp2_with (first
     | (go_at_call 72; refine (KN _).mono ?_; rintro e w' ⟨rfl,rfl⟩)
     | (go_at_call 67; refine HR2.out.2.out.mono ?_; rintro e w2 ⟨rfl,h2,k2⟩))
   go_end0;refine ⟨rfl,?_,k2⟩;rw [HC.out];exact h2
 · cases N with
   | cons a l =>
     have hl : l.length + 1 ≤ 9 := hN9;have hne : ((⟨(a :: l).toArray⟩ : ByteArray) = ⟨#[]⟩) = False := eq_false (fun e => by have := congrArg ByteArray.size e; simp [ByteArray.size] at this);have hs1 : (9223372036854775807 < 2 + (l.length + 1)) = False := eq_false (by omega);go_enter Tryz.func58,Tryz.ntmps58;go_wp2_with (first
       | (go_at_call 72; refine (KN _).mono ?_; rintro e w' ⟨rfl,rfl⟩)
       | (go_at_call 56; refine (HR2.out.1.out _ ([35,92] ++ (a :: l)) (by rw [show (⟨#[35,92]⟩ : ByteArray) = ⟨([35,92] : List UInt8).toArray⟩ from rfl,Wt.str_app]) (by simp; omega)).mono ?_; rintro e w2 ⟨rfl,h2,k2⟩))
     go_end0;have he : Wt.chr true (r : Int) = [35,92] ++ (a :: l) := by rw [HC.out]; simp
     exact ⟨rfl,by rw [he]; exact h2,k2⟩
   | nil =>
     have hs1 : (9223372036854775807 < 2 + E.length) = False := eq_false (by omega);cases o;all_goals cases q
     all_goals
      go_enter Tryz.func58,Tryz.ntmps58;go_wp2_with (first
        | (go_at_call 72; refine (KN _).mono ?_; rintro e w' ⟨rfl,rfl⟩)
        | (go_at_call 87; refine (KO _).mono ?_; rintro e w' ⟨rfl,rfl⟩)
        | (go_at_call 33; refine (KB _).mono ?_; rintro e w' ⟨rfl,rfl⟩)
        | (go_at_call 88; refine HH.out.mono ?_; rintro e w2 ⟨rfl,h2,k2⟩)
        | (go_at_call 56; refine (HR2.out.1.out _ ([35,92] ++ E) (by rw [show (⟨#[35,92]⟩ : ByteArray) = ⟨([35,92] : List UInt8).toArray⟩ from rfl,Wt.str_app]) (by simp; omega)).mono ?_; rintro e w2 ⟨rfl,h2,k2⟩))
     all_goals
      go_end0;refine ⟨rfl,?_,k2⟩;first
       | (have he : Wt.chr true (r : Int) = [35,92] ++ E := by rw [HC.out]; simp
          rw [he]; exact h2)
       | (have he : Wt.chr true (r : Int) = [35,92] ++ [120] ++ Wt.hex r ++ [] := by rw [HC.out]; simp
          rw [he]; exact h2)
end Go.Proofs.YteklhapffplohaaGreatDoor
