/-
  The reader's lists.
-/
import Derived.Test.YteklhapffplohaaGreatDoorVm
import Derived.Test.YteklhapffplohaaGreatDoorVv
import Derived.Test.YteklhapffplohaaGreatDoorVw
set_option linter.unusedVariables false
set_option linter.unusedSimpArgs false
namespace Go.Proofs.YteklhapffplohaaGreatDoor
open Go.RowKit
theorem Dr.snoc_empty (ts : List Tr) (t : Tr) : (ts ++ [t]).isEmpty = false := by cases ts <;> rfl
theorem Dr.At.back {b : Nat} {S : ByteArray} {l r : List UInt8} {g : Bool} {w : World} (h : Dr.At b S r g w) (hl : l.length ≤ S.size) (hs : S.data.toList.drop (S.size - l.length) = l) :
 ∃ x W,w.cell? ⟨b,1,none⟩ = some x ∧ w.setCell ⟨b,1,none⟩ (.int .i64 ((S.size - l.length : Nat) : Int)) = W ∧ w.frozen? ⟨b,1,none⟩ = false ∧ Dr.At b S l g W ∧ Dr.Kept b w W ∧ W.heap.size = w.heap.size := by
 have hq := h.blk
 refine ⟨_,_,h.cells.2.1,rfl,by simp [World.frozen?,hq],⟨?_,hs,hl⟩,⟨rfl,rfl,rfl,by simp,fun q hq hne => ?_⟩,by simp⟩
 · have := heap_setCell_same w b 1 _ _ (.int .i64 ((S.size - l.length : Nat) : Int)) hq;exact this
 · exact heap_setCell_other w ⟨b,1,none⟩ q _ (fun e => hne (by simp [e]))
theorem Dr.pk_not46 {e : Int} {f : Bool} {r : List UInt8} (h : r = [] ∨ (Dr.bad r = false ∧ ¬ Dr.cp r = e)) (h2 : ¬ Dr.pc r = 46 ∨ f = true) : Dr.pk e f r = .item := by
 rcases h with rfl | ⟨hb,hc⟩
 · rw [Dr.pk,if_pos rfl]
 · by_cases h0 : r = []
   · rw [Dr.pk,if_pos h0]
   · rw [Dr.pk,if_neg h0,if_neg (by rw [hb]; simp),if_neg hc,if_neg];rcases h2 with h2 | h2
     · rw [(Dr.pc_cons h0).1] at h2; simp [h2]
     · simp [h2]
theorem Dr.pk_46 {e : Int} {r : List UInt8} (h0 : r ≠ []) (hb : Dr.bad r = false) (hc : ¬ Dr.cp r = e) (h2 : Dr.cp r = 46) : Dr.pk e false r = match Dr.token r with | none => .fault | some r2 => if Dr.upto r r2 = [46] then .dot r2 else .item := by
 rw [Dr.pk,if_neg h0,if_neg (by rw [hb]; simp),if_neg hc,if_pos (by simp [h2])];rfl
theorem Dr.stop_inv {e : Int} {r r2 : List UInt8} (h : Dr.pk e true r = .stop r2) : r ≠ [] ∧ Dr.bad r = false ∧ Dr.cp r = e ∧ r2 = r.drop (Dr.wd r) := by
 unfold Dr.pk at h;split at h
 · cases h
 · rename_i h0;split at h
   · cases h
   · rename_i h1;split at h
     · rename_i h2;simp only [Dr.Pk.stop.injEq] at h;exact ⟨h0,by simpa using h1,h2,h.symm⟩
     · split at h
       · split at h
         · cases h
         · split at h <;> cases h
       · cases h
theorem Dr.dot_inv {e : Int} {f : Bool} {l r r2 : List UInt8} {R : Dr.Res} (h : Dr.Rel (.blanks l) (.skip r)) (hp : Dr.pk e f r = .dot r2) (k : Dr.Rel (.pairs e f l) R) :
 (Dr.Rel (.blanks r2) .fault ∧ R = .fault) ∨ ∃ r3,Dr.Rel (.blanks r2) (.skip r3) ∧ r3.length ≤ r2.length ∧ ((Dr.Rel (.datum r3) .fault ∧ R = .fault) ∨ ∃ t r4 big,Dr.Rel (.datum r3) (.got t r4 big) ∧ r4.length < r3.length ∧
   ((Dr.Rel (.blanks r4) .fault ∧ R = .fault) ∨ ∃ r5,Dr.Rel (.blanks r4) (.skip r5) ∧ (((∀ r6,Dr.pk e true r5 ≠ .stop r6) ∧ R = .fault) ∨ (∃ r6,Dr.pk e true r5 = .stop r6 ∧ R = .lst [] t r6 big)))) := by
 obtain ⟨R1,h1⟩ := Dr.total (.blanks r2)
 rcases Dr.skips h1 with rfl | ⟨r3,rfl,hl⟩
 · exact .inl ⟨h1,k.det (.pDot1 h hp h1)⟩
 · refine .inr ⟨r3,h1,hl,?_⟩;obtain ⟨R2,h2⟩ := Dr.total (.datum r3);rcases Dr.gots h2 with rfl | ⟨t,r4,big,rfl,hl2⟩
   · exact .inl ⟨h2,k.det (.pDot2 h hp h1 h2)⟩
   · refine .inr ⟨t,r4,big,h2,hl2,?_⟩;obtain ⟨R3,h3⟩ := Dr.total (.blanks r4);rcases Dr.skips h3 with rfl | ⟨r5,rfl,hl3⟩
     · exact .inl ⟨h3,k.det (.pDot3 h hp h1 h2 h3)⟩
     · refine .inr ⟨r5,h3,?_⟩;by_cases hs : ∃ r6,Dr.pk e true r5 = .stop r6
       · obtain ⟨r6,h6⟩ := hs;exact .inr ⟨r6,h6,k.det (.pDot5 h hp h1 h2 h3 h6)⟩
       · exact .inl ⟨fun r6 h6 => hs ⟨r6,h6⟩,k.det (.pDot4 h hp h1 h2 h3 (fun r6 h6 => hs ⟨r6,h6⟩))⟩
set_option maxHeartbeats 8000000
set_option maxRecDepth 1000000
theorem Dr.pairs_con (e : Int) (f : Bool) (l : List UInt8) (IH : ∀ j : Dr.Job,j.len < (Dr.Job.pairs e f l).len → Dr.Con j) : Dr.Con (.pairs e f l) := by
 intro b S g w R o h hs hT hR he ho hf;subst hf;have HIH := Lib.hid IH;obtain ⟨B,hB⟩ : ∃ z,w.heap.size = z := ⟨_,rfl⟩;have hal : Below w.heap.size w (w.alloc (.cells #[.int .i64 0,.int .i64 0,.bool false,.slice none 0 0,.slice none 0 0,.bool false,.slice none 0 0,.slice none 0 0,.string ⟨#[]⟩,.slice none 0 0,.slice none 0 0] 30)) := (Below.refl _ _).alloc (Nat.le_refl _) _;have hz1 : (w.alloc (.cells #[.int .i64 0,.int .i64 0,.bool false,.slice none 0 0,.slice none 0 0,.bool false,.slice none 0 0,.slice none 0 0,.string ⟨#[]⟩,.slice none 0 0,.slice none 0 0] 30)).heap.size = B + 1 := by simp [hB]
 have hq1 := heap_alloc_new w (.cells #[.int .i64 0,.int .i64 0,.bool false,.slice none 0 0,.slice none 0 0,.bool false,.slice none 0 0,.slice none 0 0,.string ⟨#[]⟩,.slice none 0 0,.slice none 0 0] 30);obtain ⟨w1,hw1⟩ : ∃ z,(w.alloc (.cells #[.int .i64 0,.int .i64 0,.bool false,.slice none 0 0,.slice none 0 0,.bool false,.slice none 0 0,.slice none 0 0,.string ⟨#[]⟩,.slice none 0 0,.slice none 0 0] 30)) = z := ⟨_,rfl⟩;rw [hw1] at hal hq1 hz1;have hbB : B ≠ b := by have := h.lt; omega
 have hbx1 : Dr.Box0 w.heap.size w1 := hq1;rw [hB] at hbx1;have HBX := Lib.hid (fun (w' : World) (hk : Dr.Kept b w1 w') => hbx1.kept hk hbB);have HK1 := Lib.hid (show Dr.Kept b w w1 from Dr.Kept.of_below hal);have HNB := Lib.hid hbB;have HB1 := Lib.hid (show w.heap.size ≤ B ∧ B + 1 = w1.heap.size from ⟨Nat.le_of_eq hB,hz1.symm⟩);have H0 := Lib.hid (show ∃ (l' : List UInt8) (acc : Bool) (ts : List Tr) (xs : List Value) (R' : Dr.Res),Dr.ItSt b S w1 l' (g || acc) w1 (.slice none 0 0) ts xs ∧ Dr.Rel (.pairs e ts.isEmpty l') R' ∧ R = Dr.joinR ts acc R' ∧ ts.length + l'.length ≤ l.length from
   ⟨l,false,[],[],R,by rw [Bool.or_false]; exact Dr.ItSt.start (h.below hal),hR,(Dr.joinR_nil R).symm,by simp⟩)
 have HNE := Lib.hid (And.intro hT (h.tabs_ne hT));have HS := Lib.hid hs;have HLE := Lib.hid h.le;have heo : e = 41 ∨ e = 93 := by
  rcases ho with rfl | rfl
  · exact .inl he
  · exact .inr he
 have HE0 := Lib.hid (show (0 : Int) ≤ e ∧ e ≤ 127 by omega);obtain ⟨i0,hi,hz0,hz1',hz2⟩ := info_parts Dr.infoD;clear h hT hR IH hs hal hq1 hbx1 hbB heo;have hcl : (o = 40 ∧ e = 41) ∨ (o = 91 ∧ e = 93) := by
  rcases ho with rfl | rfl
  · exact .inl ⟨rfl,he⟩
  · exact .inr ⟨rfl,he⟩
 clear he ho;go_enter Tryz.func38,Tryz.ntmps38;go_upto_if 14 with (fail);go_cut [5] (fun s5 wx => s5 = .int .i32 e ∧ wx = w1);case first =>
  rcases hcl with ⟨rfl,rfl⟩ | ⟨rfl,rfl⟩;all_goals
   go_wp2_with fail;go_meet;exact ⟨rfl,rfl⟩
 case rest =>
 obtain ⟨rfl,hwx⟩ := hcut;have hwx := hwx.symm;subst hwx;clear hcl;go_wp2_with fail;go_loopw [6] (fun v6 wr => ∃ (l' : List UInt8) (acc : Bool) (ts : List Tr) (xs : List Value) (R' : Dr.Res),Dr.ItSt b S w1 l' (g || acc) wr v6 ts xs ∧ Dr.Rel (.pairs e ts.isEmpty l') R' ∧ R = Dr.joinR ts acc R' ∧ ts.length + l'.length ≤ l.length) (fun _ wr => Dr.left b S wr);case atStart => exact H0.out
 case round =>
  obtain ⟨l',acc,ts,xs,R',hst,hR,hj,hll⟩ := hrel;clear H0;obtain ⟨oa,oc,rfl⟩ := Dr.own_slice hst.row.1;obtain ⟨k,hk⟩ : ∃ z,ts.length = z := ⟨_,rfl⟩;have HK := Lib.hid hk;rw [hk] at hst ⊢;have HT := Lib.hid (fun (w' : World) (hk : Dr.Kept b w1 w') => Dr.tabs_kept HNE.out.1 HNE.out.2.1 HNE.out.2.2 (HK1.out.trans hk));have HM := Lib.hid hst.rd.left;have HST := Lib.hid hst;have HJ := Lib.hid hj;have HLL := Lib.hid hll;have HR := Lib.hid hR;have HIB := HIH.out (.blanks l') (by show 2 * l'.length < 2 * l.length + 1; omega) b S (g || acc) wr;have KB := Lib.hid HIB;obtain ⟨R1,h1⟩ := Dr.total (.blanks l');have KB1 := Lib.hid (KB.out R1 hst.rd HS.out (HT.out wr hst.kept) h1);have H1 := Lib.hid h1;have HDEAD := Lib.hid (fun (w' : World) (hr : R' = .fault) (hk : Dr.Kept b w1 w') => show Dr.PostPr b S g w R Dr.dead w' from by
    rw [HJ.out,hr]
    exact ⟨rfl,HK1.out.trans hk⟩)
  clear hst hR hj hll hk HIB KB h1;go_wp2_with fail;rcases Dr.skips H1.out with hR1 | ⟨r,hR1,hl1⟩
  · subst hR1;refine KB1.out.mono ?_;rintro x w4 ⟨rfl,hK4⟩;have HE := Lib.hid (HDEAD.out w4 (Dr.pr_inv_fault H1.out HR.out) (HST.out.kept.trans hK4));clear hK4 KB1;unfold Dr.dead at *;go_wp2_with fail;exact ⟨rfl,HE.out⟩
  subst hR1;refine KB1.out.mono ?_;rintro x w4 ⟨rfl,hA4,hK4⟩;have HS4 := Lib.hid (HST.out.move hA4 hK4);have hT4 := HT.out w4 HS4.out.kept;have HL1 := Lib.hid hl1;clear KB1 hl1;by_cases hbad : r ≠ [] ∧ Dr.bad r = true
  · have KP := Dr.peek_bad b S r (g || acc) w4 hA4 hbad.1 hbad.2 hT4;have HE0 := Lib.hid (fun w5 (hb5 : Below w4.heap.size w4 w5) => HDEAD.out w5 (HR.out.det (.pFault2 H1.out (Dr.pk_bad hbad.1 hbad.2))) (HS4.out.kept.trans (Dr.Kept.of_below hb5)));clear hA4 hK4 hT4 hbad;go_wp2_with fail;refine KP.mono ?_;rintro x w5 ⟨rfl,hb5⟩;have HE := Lib.hid (HE0.out w5 hb5);clear HE0 hb5 KP;unfold Dr.dead at *;go_wp2_with fail;exact ⟨rfl,HE.out⟩
  by_cases hstop : r ≠ [] ∧ Dr.cp r = e
  · obtain ⟨hr0,hr41⟩ := hstop;have hb : Dr.bad r = false := by
     cases hq : Dr.bad r with
     | false => rfl
     | true => exact absurd ⟨hr0,hq⟩ hbad
    have KP := Dr.peek_ok b S r (g || acc) w4 hA4 hr0 hb hT4;have hRR := HR.out.det (.pStop H1.out (Dr.pk_stop hr0 hb hr41));have hwp := Dr.wd_pos hr0;have hwl := Dr.wd_le hr0;have h0n : 0 < Dr.wd r := by omega
    have h0n2 : (0 : Int) < (Dr.wd r : Int) := by omega
    have hcb : (Dr.cp r == e) = true := beq_iff_eq.2 hr41;obtain ⟨p,hp⟩ : ∃ z,S.size - r.length = z := ⟨_,rfl⟩;have hps : (p : Int) + (Dr.wd r : Int) ≤ 9223372036854775807 ∧ 0 ≤ (p : Int) ∧ (p : Int) ≤ 9223372036854775807 := by have := HS.out; have := hA4.le; omega
    obtain ⟨hps,hpa,hpb⟩ := hps;have HAT := Lib.hid (fun w5 (hb5 : Below w4.heap.size w4 w5) => (hA4.below hb5).cells);rw [hp] at HAT;have HSET := Lib.hid (fun w5 (hb5 : Below w4.heap.size w4 w5) => Dr.setAt (hA4.below hb5) hp hwl ((Dr.wd r : Nat) : Int) rfl);have HST5 := Lib.hid (fun w5 W (hb5 : Below w4.heap.size w4 w5) (hA : Dr.At b S (r.drop (Dr.wd r)) (g || acc) W) (hkW : Dr.Kept b w5 W) => HS4.out.move hA ((Dr.Kept.of_below hb5).trans hkW));clear hA4 hK4 hT4 hbad hr41 hwp hwl hp hb hr0;generalize Dr.cp r = c at *;generalize hwn : Dr.wd r = n at *;have HWN := Lib.hid hwn;clear hwn;go_wp2_with fail;refine KP.mono ?_;rintro x w5 ⟨rfl,hb5⟩;obtain ⟨d0,d1,d2⟩ := HAT.out w5 hb5;obtain ⟨W,hW,hfz,hAt,hKW,hz⟩ := HSET.out w5 hb5;have H5 := Lib.hid (HST5.out w5 W hb5 hAt hKW);have hrow := H5.out.row.lin;rw [] at hrow;have KL := Lib.hid (Dr.list_any ts Dr.nil (.slice oa k oc) _ W (fun q => w1.heap.size ≤ q) hrow (Dr.leaf_in 1 0 [] W (by omega) (by omega) (by simp)) (by have := HLL.out; have := HLE.out; have := HS.out; omega));have HBX5 := Lib.hid (fun w8 (hb8 : Below W.heap.size W w8) => HBX.out w8 (H5.out.kept.trans (Dr.Kept.of_below hb8)))
    have HOUT := Lib.hid (fun (w8 : World) (hb8 : Below W.heap.size W w8) (v' : Value) (hI : Tr.In w8 (fun q => w1.heap.size ≤ q ∨ W.heap.size ≤ q) (Dr.listT ts Dr.nil) v') (Y : World) (hzY : Y.heap.size = w8.heap.size) (hoY : ∀ q,q ≠ B → Y.heap[q]? = w8.heap[q]?) (hwY : ∀ (K : Nat) (z : World),Below K z w8 → K ≤ B → Below K z Y) => show Dr.PostPr b S g w R (.returned v') Y from by
      rw [HJ.out,hRR];show ∃ v,Ending.returned v' = .returned v ∧ Tr.In Y (fun q => w.heap.size ≤ q) (Dr.listT (ts ++ []) Dr.nil) v ∧ Dr.At b S _ (g || (acc || false)) Y ∧ Dr.Kept b w Y;rw [List.append_nil,Bool.or_false];have hsz := H5.out.kept.size;have hb1 := HB1.out;refine ⟨_,rfl,?_,(H5.out.rd.below hb8).put HNB.out.symm hoY,(HK1.out.trans (H5.out.kept.trans (Dr.Kept.of_below hb8))).put hb1.1 hzY hwY⟩
      exact Tr.In.mono (S := fun q => w1.heap.size ≤ q ∨ W.heap.size ≤ q) (fun q hq => by show w.heap.size ≤ q; omega) _ _ (Tr.In.kept ⟨Nat.le_of_eq hzY.symm,fun q hq _ => hoY q (by omega)⟩ _ _ hI))
    clear hb5 KP hAt hKW hz HAT HSET d2 HST5 hrow hRR;unfold Dr.leafV at *;go_wp2_with fail;refine (KL.out).mono ?_;rintro x w8 ⟨v',rfl,hI8,hb8⟩;obtain ⟨C8,rfl⟩ := Dr.in_agg hI8;obtain ⟨hv,lv,b3,b4,b6,b7,b9,b10,m3,m4,m6,m7,m9,m10,d3',d4,d6,d7,d9,d10,eC8,et8,_,_⟩ := Tr.In.form2 hI8;subst eC8;have HI8 := Lib.hid hI8;have hbx8 := (HBX5).out w8 hb8;obtain ⟨Y1,Y2,Y3,Y4,Y5,Y6,Y7,Y8,Y9,Y10,Y11,⟨g0,z0,s0⟩,⟨g1,z1,s1'⟩,⟨g2,z2,s2'⟩,⟨g3,z3,s3'⟩,⟨g4,z4,s4'⟩,⟨g5,z5,s5'⟩,⟨g6,z6,s6'⟩,⟨g7,z7,s7'⟩,⟨g8,z8,s8'⟩,⟨g9,z9,s9'⟩,⟨g10,z10,s10'⟩,⟨r0,r1,r2',r3,r4,r5,r6,r7,r8,r9,r10⟩,HY⟩ := hbx8.put (.int .i64 hv.k) (.int .i64 hv.n) (.bool hv.s1) (.slice b3 m3 d3') (.slice b4 m4 d4) (.bool hv.s2) (.slice b6 m6 d6) (.slice b7 m7 d7) (.string hv.x) (.slice b9 m9 d9) (.slice b10 m10 d10);unfold Tr.cells at *;have HE := Lib.hid (HOUT.out w8 hb8 _ HI8.out Y11 HY.out.2.1 HY.out.2.2.1 HY.out.2.2.2);clear hI8 hb8 et8 hbx8 HOUT HY HI8;go_wp2_with fail;refine bodyPost_ret (v := .agg #[.int .i64 hv.k,.int .i64 hv.n,.bool hv.s1,.slice b3 m3 d3',.slice b4 m4 d4,.bool hv.s2,.slice b6 m6 d6,.slice b7 m7 d7,.string hv.x,.slice b9 m9 d9,.slice b10 m10 d10]) (by simp [results,Tryz.results38,go_sem,r0,r1,r2',r3,r4,r5,r6,r7,r8,r9,r10]) rfl HE.out
  have hitem : r = [] ∨ (Dr.bad r = false ∧ ¬ Dr.cp r = e) := by
   by_cases h0 : r = []
   · exact .inl h0
   · refine .inr ⟨?_,fun h => hstop ⟨h0,h⟩⟩;cases hq : Dr.bad r with
     | false => rfl
     | true => exact absurd ⟨h0,hq⟩ hbad
  have hlen : r.length ≤ S.size := hA4.le;have hsuf := hA4.suf;obtain ⟨p,hp⟩ : ∃ z,S.size - r.length = z := ⟨_,rfl⟩;have HP := Lib.hid hp;have HAT := Lib.hid (fun w5 (hb5 : Below w4.heap.size w4 w5) => (hA4.below hb5).cells);rw [hp] at HAT;obtain ⟨c,n,hcn,hc,KP⟩ := Dr.peek_not b S r (g || acc) e w4 hA4 hitem hT4;have HDI := HIH.out (.datum r) (by have := HLL.out; have := HL1.out; show 2 * r.length < 2 * l.length + 1; omega) b S (g || acc);have HBACK := Lib.hid (fun (w5 : World) (rr : List UInt8) (hA5 : Dr.At b S rr (g || acc) w5) => hA5.back hlen hsuf);rw [hp] at HBACK;by_cases hdot : Dr.pc r = 46 ∧ 0 < k
  · obtain ⟨hd46,hk0⟩ := hdot;have hr0 : r ≠ [] := by rintro rfl; exact absurd hd46 (by decide)
    obtain ⟨e1,e2⟩ := Dr.pc_cons hr0;have hcp : Dr.cp r = 46 := by rw [← e1]; exact hd46
    have hb := (hitem.resolve_left hr0).1;have hce := (hitem.resolve_left hr0).2;have hts : ts.isEmpty = false := by
     cases ts with
     | nil => have := HK.out; simp at this; omega
     | cons => rfl
    have hpk := Dr.pk_46 hr0 hb hce hcp;have hwd : Dr.wd r = 1 := Dr.wd_one hr0 hb (by omega) (by omega);have KP2 := Dr.peek_ok b S r (g || acc) w4 hA4 hr0 hb hT4;rw [hcp,hwd] at KP2;have hcb : ((46 : Int) == e) = false := beq_eq_false_iff_ne.2 (fun h => hce (hcp.trans h));have hk0i : (0 : Int) < (k : Int) := by omega
    have HRF := Lib.hid (show Dr.Rel (.pairs e false l') R' by rw [← hts]; exact HR.out);have KT := Lib.hid (fun w5 (hb5 : Below w4.heap.size w4 w5) => Dr.token_any b S (g || acc) r w5 (hA4.below hb5) (Nat.le_trans HS.out (by decide)) (Utf8Tabs_below hT4 hb5));have HPK := Lib.hid hpk;clear hc KP hcn HDI hpk hcp hwd hce hb hr0 e1 e2 hd46 hA4 hK4 hT4 hbad hstop hitem hlen hsuf hts hp c n;go_wp2_with fail;refine KP2.mono ?_;rintro x w5 ⟨rfl,hb5⟩;obtain ⟨d0,d1,d2⟩ := HAT.out w5 hb5;have HS5 := Lib.hid (HS4.out.move (HS4.out.rd.below hb5) (Dr.Kept.of_below hb5));have KT1 := KT.out w5 hb5;clear KP2 hb5 KT HAT d0 d2 HS4 HST;cases htk : Dr.token r with
    | none =>
      rw [htk] at KT1;have hRf : R' = .fault := HRF.out.det (.pFault2 H1.out (by rw [HPK.out,htk]));clear htk HPK HRF;go_wp2_with fail;refine KT1.mono ?_;rintro x w6 ⟨rfl,hK6⟩;have HE := Lib.hid (HDEAD.out w6 hRf (HS5.out.kept.trans hK6));clear hK6 hRf KT1;unfold Dr.dead at *;go_wp2_with fail;exact ⟨rfl,HE.out⟩
    | some r2 =>
      rw [htk] at KT1;have hle2 := Dr.token_le _ r (Nat.le_refl _) r2 htk;by_cases hup : Dr.upto r r2 = [46]
      · have hpk2 : Dr.pk e false r = .dot r2 := by rw [HPK.out,htk]; exact if_pos hup
        have hlt2 := Dr.upto_lt hle2 (by rw [hup]; simp);have KT2 : Calls Tryz.prog 45 #[.pointer (some ⟨b,0,none⟩)] w5 (fun x w' => x = .returned (.string ⟨#[46]⟩) ∧ Dr.At b S r2 (g || acc) w' ∧ Dr.Kept b w5 w') := KT1.mono fun x w' h => ⟨by rw [h.1,hup],h.2.1,h.2.2⟩;have HDOT := Lib.hid (Dr.dot_inv H1.out hpk2 HRF.out);have HLT := Lib.hid (show r2.length < l.length from by have := HLL.out; have := HL1.out; omega);have HIA := Lib.hid (fun (q : List UInt8) (hq : q.length ≤ r2.length) => And.intro (HIH.out (.blanks q) (by have := HLT.out; show 2 * q.length < 2 * l.length + 1; omega)) (HIH.out (.datum q) (by have := HLT.out; show 2 * q.length < 2 * l.length + 1; omega)));clear htk HPK HRF hle2 hup hpk2 hlt2 KT1 HBACK;go_wp2_with fail;refine KT2.mono ?_;rintro x w6 ⟨rfl,hA6,hK6⟩;have HS6 := Lib.hid (HS5.out.move hA6 hK6);have KB2 := Lib.hid (fun R2 h2 => (HIA.out r2 (Nat.le_refl _)).1 b S (g || acc) w6 R2 HS6.out.rd HS.out (HT.out w6 HS6.out.kept) h2);clear hA6 hK6 KT2;go_wp2_with fail;rcases HDOT.out with ⟨h2,hRf⟩ | ⟨r3,h2,hl3,hrest⟩
        · refine (KB2.out _ h2).mono ?_;rintro x w7 ⟨rfl,hK7⟩;have HE := Lib.hid (HDEAD.out w7 hRf (HS6.out.kept.trans hK7));clear hK7 hRf KB2 h2;unfold Dr.dead at *;go_wp2_with fail;exact ⟨rfl,HE.out⟩
        refine (KB2.out _ h2).mono ?_;rintro x w7 ⟨rfl,hA7,hK7⟩;have HS7 := Lib.hid (HS6.out.move hA7 hK7);have KD2 := Lib.hid (fun R2 h => (HIA.out r3 hl3).2 b S (g || acc) w7 R2 HS7.out.rd HS.out (HT.out w7 HS7.out.kept) h);have HREST := Lib.hid hrest;have HL3 := Lib.hid hl3;clear hA7 hK7 KB2 h2 hrest hl3 HDOT;go_wp2_with fail;rcases HREST.out with ⟨h3,hRf⟩ | ⟨t,r4,big,h3,hl4,hrest2⟩
        · refine (KD2.out _ h3).mono ?_;rintro x w8 ⟨rfl,hK8⟩;have HE := Lib.hid (HDEAD.out w8 hRf (HS7.out.kept.trans hK8));clear hK8 hRf KD2 h3;unfold Dr.dead at *;go_wp2_with fail;exact ⟨rfl,HE.out⟩
        refine (KD2.out _ h3).mono ?_;rintro x w8 ⟨v,rfl,hI8,hA8,hK8⟩;obtain ⟨C8,rfl⟩ := Dr.in_agg hI8;obtain ⟨hf,lf,ar3,ar4,ar6,ar7,ar9,ar10,nr3,nr4,nr6,nr7,nr9,nr10,cr3,cr4,cr6,cr7,cr9,cr10,eC6,et6,_,_⟩ := Tr.In.form2 hI8;subst eC6;clear et6;unfold Tr.cells at *;obtain ⟨w9,hw9⟩ : ∃ z,w8.alloc (.cells #[.int .i64 hf.k,.int .i64 hf.n,.bool hf.s1,.slice ar3 nr3 cr3,.slice ar4 nr4 cr4,.bool hf.s2,.slice ar6 nr6 cr6,.slice ar7 nr7 cr7,.string hf.x,.slice ar9 nr9 cr9,.slice ar10 nr10 cr10] 30) = z := ⟨_,rfl⟩;have hal9 : Below w8.heap.size w8 w9 := by rw [← hw9]; exact (Below.refl _ _).alloc (Nat.le_refl _) _
        have hq9 : w9.heap[w8.heap.size]? = some (.cells #[.int .i64 hf.k,.int .i64 hf.n,.bool hf.s1,.slice ar3 nr3 cr3,.slice ar4 nr4 cr4,.bool hf.s2,.slice ar6 nr6 cr6,.slice ar7 nr7 cr7,.string hf.x,.slice ar9 nr9 cr9,.slice ar10 nr10 cr10] 30 (0,0)) := by rw [← hw9]; exact heap_alloc_new w8 _
        have HS9 := Lib.hid ((HS7.out.move hA8 hK8).move (hA8.below hal9) (Dr.Kept.of_below hal9));have HI9 := Lib.hid (show Tr.In w9 (fun q => w1.heap.size ≤ q) t _ from Tr.In.mono (S := fun q => w7.heap.size ≤ q) (fun q hq => by have := HS7.out.kept.size; show w1.heap.size ≤ q; omega) _ _ (Tr.In.below hI8 hal9 (Nat.le_refl _)));have HQ9 := Lib.hid (And.intro hq9 (show w1.heap.size ≤ w8.heap.size from (HS7.out.move hA8 hK8).kept.size));have HLT4 := Lib.hid (show r4.length ≤ r2.length from by have := HL3.out; omega);have KB4 := Lib.hid (fun R2 h => (HIA.out r4 HLT4.out).1 b S (g || acc || big) w9 R2 HS9.out.rd HS.out (HT.out w9 HS9.out.kept) h);have HREST2 := Lib.hid hrest2;clear hI8 hA8 hK8 hal9 hq9 KD2 h3 hrest2 hl4 HREST;go_wp2_with fail;rcases HREST2.out with ⟨h4,hRf⟩ | ⟨r5,h4,hrest3⟩
        · refine (KB4.out _ h4).mono ?_;rintro x w10 ⟨rfl,hK10⟩;have HE := Lib.hid (HDEAD.out w10 hRf (HS9.out.kept.trans hK10));clear hK10 hRf KB4 h4;unfold Dr.dead at *;go_wp2_with fail;exact ⟨rfl,HE.out⟩
        refine (KB4.out _ h4).mono ?_;rintro x w10 ⟨rfl,hA10,hK10⟩;have HS10 := Lib.hid (HS9.out.move hA10 hK10);have HI10 := Lib.hid (show Tr.In w10 (fun q => w1.heap.size ≤ q) t _ from Tr.In.kept ⟨hK10.size,fun q hq hl => hK10.block q hl (by have := HS9.out.lt; omega)⟩ _ _ HI9.out);have hq10 := (hK10.block w8.heap.size (Array.getElem?_eq_some_iff.1 HQ9.out.1).1 (by have := HS9.out.lt; have := HQ9.out.2; omega)).trans HQ9.out.1;have HQ10 := Lib.hid hq10;have HREST3 := Lib.hid hrest3;have hT10 := HT.out w10 HS10.out.kept;clear hK10 KB4 h4 hrest3 HREST2 hq10;by_cases hbad5 : r5 ≠ [] ∧ Dr.bad r5 = true
        · have KP5 := Dr.peek_bad b S r5 _ w10 hA10 hbad5.1 hbad5.2 hT10;have hRf : R' = .fault := by
           rcases HREST3.out with ⟨_,h⟩ | ⟨r6,h,_⟩
           · exact h
           · rw [Dr.pk_bad hbad5.1 hbad5.2] at h; cases h
          clear hA10 hT10 hbad5;go_wp2_with fail;refine KP5.mono ?_;rintro x w11 ⟨rfl,hb11⟩;have HE := Lib.hid (HDEAD.out w11 hRf (HS10.out.kept.trans (Dr.Kept.of_below hb11)));clear hb11 hRf KP5;unfold Dr.dead at *;go_wp2_with fail;exact ⟨rfl,HE.out⟩
        by_cases hstop5 : r5 ≠ [] ∧ Dr.cp r5 = e
        · obtain ⟨hr5,hc5⟩ := hstop5;have hb5 : Dr.bad r5 = false := by
           cases hq : Dr.bad r5 with
           | false => rfl
           | true => exact absurd ⟨hr5,hq⟩ hbad5
          have hwd5 : Dr.wd r5 = 1 := Dr.wd_one hr5 hb5 (by rw [hc5]; exact HE0.out.1) (by rw [hc5]; exact HE0.out.2);have KP5 := Dr.peek_ok b S r5 _ w10 hA10 hr5 hb5 hT10;rw [hc5,hwd5] at KP5;have hRR : R' = .lst [] t (r5.drop 1) big := by
           rcases HREST3.out with ⟨h,_⟩ | ⟨r6,h,h'⟩
           · exact absurd (Dr.pk_stop hr5 hb5 hc5) (h _)
           · rw [Dr.pk_stop hr5 hb5 hc5,hwd5] at h;cases h;exact h'
          have hwl5 := Dr.wd_le hr5;rw [hwd5] at hwl5;obtain ⟨p5,hp5⟩ : ∃ z,S.size - r5.length = z := ⟨_,rfl⟩;have hps : (p5 : Int) + 1 ≤ 9223372036854775807 ∧ 0 ≤ (p5 : Int) ∧ (p5 : Int) ≤ 9223372036854775807 := by have := HS.out; have := hA10.le; omega
          obtain ⟨hps,hpa,hpb⟩ := hps;have HAT5 := Lib.hid (fun w11 (hb11 : Below w10.heap.size w10 w11) => (hA10.below hb11).cells);rw [hp5] at HAT5;have HSET := Lib.hid (fun w11 (hb11 : Below w10.heap.size w10 w11) => Dr.setAt (hA10.below hb11) hp5 hwl5 1 rfl);clear hA10 hT10 hbad5 hc5 hb5 hwd5 hwl5 hp5 hr5;go_wp2_with fail;refine KP5.mono ?_;rintro x w11 ⟨rfl,hb11⟩;obtain ⟨d0,d1,d2⟩ := HAT5.out w11 hb11;obtain ⟨W,hW,hfz,hAt,hKW,hz⟩ := HSET.out w11 hb11;have hK1W := (Dr.Kept.of_below (b := b) hb11).trans hKW;have H5 := Lib.hid (HS10.out.move hAt hK1W);have hrow := H5.out.row.lin;have hIW := Tr.In.kept (w' := W) ⟨hK1W.size,fun q hq hl => hK1W.block q hl (by have := HS9.out.lt; omega)⟩ _ _ HI10.out;have hqW := (hK1W.block w8.heap.size (Array.getElem?_eq_some_iff.1 HQ10.out).1 (by have := HS9.out.lt; have := HQ9.out.2; omega)).trans HQ10.out;obtain ⟨k0,k1,k2,k3,k4,k5,k6,k7,k8,k9,k10⟩ := Dr.cells11 hqW;have KL := Lib.hid (Dr.list_any ts t (.slice oa k oc) _ W (fun q => w1.heap.size ≤ q) hrow hIW (by have := HLL.out; have := HLE.out; have := HS.out; omega));have HBX5 := Lib.hid (fun w12 (hb12 : Below W.heap.size W w12) => HBX.out w12 (H5.out.kept.trans (Dr.Kept.of_below hb12)))
          have HOUT := Lib.hid (fun (w12 : World) (hb12 : Below W.heap.size W w12) (v' : Value) (hI : Tr.In w12 (fun q => w1.heap.size ≤ q ∨ W.heap.size ≤ q) (Dr.listT ts t) v') (Y : World) (hzY : Y.heap.size = w12.heap.size) (hoY : ∀ q,q ≠ B → Y.heap[q]? = w12.heap[q]?) (hwY : ∀ (K : Nat) (z : World),Below K z w12 → K ≤ B → Below K z Y) => show Dr.PostPr b S g w R (.returned v') Y from by
            rw [HJ.out,hRR];show ∃ v,Ending.returned v' = .returned v ∧ Tr.In Y (fun q => w.heap.size ≤ q) (Dr.listT (ts ++ []) t) v ∧ Dr.At b S _ (g || (acc || big)) Y ∧ Dr.Kept b w Y;rw [List.append_nil,← Bool.or_assoc];have hsz := H5.out.kept.size;have hb1 := HB1.out;refine ⟨_,rfl,?_,(H5.out.rd.below hb12).put HNB.out.symm hoY,(HK1.out.trans (H5.out.kept.trans (Dr.Kept.of_below hb12))).put hb1.1 hzY hwY⟩
            exact Tr.In.mono (S := fun q => w1.heap.size ≤ q ∨ W.heap.size ≤ q) (fun q hq => by show w.heap.size ≤ q; omega) _ _ (Tr.In.kept ⟨Nat.le_of_eq hzY.symm,fun q hq _ => hoY q (by omega)⟩ _ _ hI))
          clear hb11 KP5 hAt hKW hz HAT5 HSET d2 d0 hrow hRR hIW hqW hK1W;go_wp2_with fail;refine (KL.out).mono ?_;rintro x w8 ⟨v',rfl,hI8,hb8⟩;obtain ⟨C8,rfl⟩ := Dr.in_agg hI8;obtain ⟨hv,lv,b3,b4,b6,b7,b9,b10,m3,m4,m6,m7,m9,m10,d3',d4,d6,d7,d9,d10,eC8,et8,_,_⟩ := Tr.In.form2 hI8;subst eC8;have HI8 := Lib.hid hI8;have hbx8 := (HBX5).out w8 hb8;obtain ⟨Y1,Y2,Y3,Y4,Y5,Y6,Y7,Y8,Y9,Y10,Y11,⟨g0,z0,s0⟩,⟨g1,z1,s1'⟩,⟨g2,z2,s2'⟩,⟨g3,z3,s3'⟩,⟨g4,z4,s4'⟩,⟨g5,z5,s5'⟩,⟨g6,z6,s6'⟩,⟨g7,z7,s7'⟩,⟨g8,z8,s8'⟩,⟨g9,z9,s9'⟩,⟨g10,z10,s10'⟩,⟨r0,r1,r2',r3,r4,r5,r6,r7,r8,r9,r10⟩,HY⟩ := hbx8.put (.int .i64 hv.k) (.int .i64 hv.n) (.bool hv.s1) (.slice b3 m3 d3') (.slice b4 m4 d4) (.bool hv.s2) (.slice b6 m6 d6) (.slice b7 m7 d7) (.string hv.x) (.slice b9 m9 d9) (.slice b10 m10 d10);unfold Tr.cells at *;have HE := Lib.hid (HOUT.out w8 hb8 _ HI8.out Y11 HY.out.2.1 HY.out.2.2.1 HY.out.2.2.2);clear hI8 hb8 et8 hbx8 HOUT HY HI8;go_wp2_with fail;refine bodyPost_ret (v := .agg #[.int .i64 hv.k,.int .i64 hv.n,.bool hv.s1,.slice b3 m3 d3',.slice b4 m4 d4,.bool hv.s2,.slice b6 m6 d6,.slice b7 m7 d7,.string hv.x,.slice b9 m9 d9,.slice b10 m10 d10]) (by simp [results,Tryz.results38,go_sem,r0,r1,r2',r3,r4,r5,r6,r7,r8,r9,r10]) rfl HE.out
        obtain ⟨c5,n5,hcn5,hcc5,KP5⟩ := Dr.peek_not b S r5 (g || acc || big) e w10 hA10 (by
          by_cases h0 : r5 = []
          · exact .inl h0
          · refine .inr ⟨?_,fun h => hstop5 ⟨h0,h⟩⟩;cases hq : Dr.bad r5 with
            | false => rfl
            | true => exact absurd ⟨h0,hq⟩ hbad5) hT10
        have hRf : R' = .fault := by
         rcases HREST3.out with ⟨_,h⟩ | ⟨r6,h,_⟩
         · exact h
         · obtain ⟨h0,_,h1,_⟩ := Dr.stop_inv h;exact absurd ⟨h0,h1⟩ hstop5
        have HD5 := Lib.hid (fun w11 (hb11 : Below w10.heap.size w10 w11) => HDEAD.out w11 hRf (HS10.out.kept.trans (Dr.Kept.of_below hb11)));have KS := Lib.hid (fun v w' => Dr.stop_any v w');clear hA10 hT10 hbad5 hstop5 hRf hcc5;rcases hcn5 with rfl | ⟨hn0,hcb5⟩
        · go_wp2_with fail;refine KP5.mono ?_;rintro x w11 ⟨rfl,hb11⟩;have HE := Lib.hid (HD5.out w11 hb11);clear hb11 KP5 HD5;go_wp2_with fail;refine (KS.out _ _).mono ?_;rintro x w12 ⟨rfl,rfl⟩;unfold Dr.dead at *;go_wp2_with fail;exact ⟨rfl,HE.out⟩
        · have hbne5 : (c5 != e) = true := by rw [bne,hcb5]; rfl
          clear hcb5;have hnz5 : ¬ n5 = 0 := by omega
          go_wp2_with fail;refine KP5.mono ?_;rintro x w11 ⟨rfl,hb11⟩;have HE := Lib.hid (HD5.out w11 hb11);clear hb11 KP5 HD5;go_wp2_with fail;refine (KS.out _ _).mono ?_;rintro x w12 ⟨rfl,rfl⟩;unfold Dr.dead at *;go_wp2_with fail;exact ⟨rfl,HE.out⟩
      · have hpk2 : Dr.pk e false r = .item := by rw [HPK.out,htk]; exact if_neg hup
        obtain ⟨T,hT0⟩ : ∃ z : ByteArray,z = ⟨(Dr.upto r r2).toArray⟩ := ⟨_,rfl⟩;have KT2 : Calls Tryz.prog 45 #[.pointer (some ⟨b,0,none⟩)] w5 (fun x w' => x = .returned (.string T) ∧ Dr.At b S r2 (g || acc) w' ∧ Dr.Kept b w5 w') := KT1.mono fun x w' h => ⟨by rw [h.1,hT0],h.2.1,h.2.2⟩;obtain ⟨nl1,nl2⟩ := Dr.not_lit (t := T) (c := [46]) (by rw [hT0]; simpa using hup);have HINV := Lib.hid (Dr.pr_inv H1.out hpk2 HRF.out);have HDI := HIH.out (.datum r) (by have := HLL.out; have := HL1.out; show 2 * r.length < 2 * l.length + 1; omega) b S (g || acc);have KD := Lib.hid (fun W R2 (hAW : Dr.At b S r (g || acc) W) (hkW : Dr.Kept b w1 W) h2 => HDI W R2 hAW HS.out (HT.out W hkW) h2);have hts1 : Dr.pk e ts.isEmpty r = Dr.pk e ts.isEmpty r := rfl;clear htk HPK hle2 hup hpk2 KT1 hT0 HDI hts1;go_wp2_with fail;refine KT2.mono ?_;rintro x w6 ⟨rfl,hA6,hK6⟩;obtain ⟨x6,W,g1,hW,hfz,hAW,hKW,hzW⟩ := HBACK.out w6 r2 hA6;have HS6 := Lib.hid (HS5.out.move hAW (hK6.trans hKW));clear HS5;have HS5 := HS6;have KD1 := Lib.hid (fun R2 h2 => KD.out W R2 hAW HS5.out.kept h2);clear KD hA6 hK6 hAW hKW hzW HBACK KT2 d1 HS6;go_wp2_with fail;rcases HINV.out with ⟨h2,hRf⟩ | ⟨t,r2,big,R3,h2,hl2,h3,hRj⟩
        · refine (KD1.out _ h2).mono ?_;rintro x w6 ⟨rfl,hK6⟩;have HE := Lib.hid (show Dr.PostPr b S g w R Dr.dead w6 by
            rw [HJ.out,hRf]
            exact ⟨rfl,HK1.out.trans (HS5.out.kept.trans hK6)⟩)
          clear h2 hRf hK6 KD1 HINV;unfold Dr.dead at *;go_wp2_with fail;exact ⟨rfl,HE.out⟩
        · refine (KD1.out _ h2).mono ?_;rintro x w6 ⟨v,rfl,hI6,hA6,hK6⟩;obtain ⟨C6,rfl⟩ := Dr.in_agg hI6;obtain ⟨hf,lf,ar3,ar4,ar6,ar7,ar9,ar10,nr3,nr4,nr6,nr7,nr9,nr10,cr3,cr4,cr6,cr7,cr9,cr10,eC6,et6,_,_⟩ := Tr.In.form2 hI6;subst eC6;have H6 := Lib.hid (And.intro hI6 (And.intro hA6 hK6));have H3 := Lib.hid (And.intro h3 (And.intro hRj hl2));have hrow6 := (HS5.out.move hA6 hK6).row.1;obtain ⟨O,hO⟩ : ∃ z,Obj.cells (Tr.cells hf (.slice ar3 nr3 cr3) (.slice ar4 nr4 cr4) (.slice ar6 nr6 cr6) (.slice ar7 nr7 cr7) (.slice ar9 nr9 cr9) (.slice ar10 nr10 cr10)) 30 = z := ⟨_,rfl⟩;have hown6 : (w6.alloc O).ownsRow w1.heap.size 30 11 (.slice oa k oc) k xs := by
           have := Dr.own_kept (w' := w6.alloc O) hrow6 (fun q _ hq => ((Below.refl w6.heap.size w6).alloc (Nat.le_refl _) O).block q hq);rwa [HK.out] at this
          have hkb : k ≤ 1048576 := by have := HS.out; have := HLL.out; have := HLE.out; have := HK.out; omega
          have hsz6 : w1.heap.size ≤ (w6.alloc O).heap.size := by
           have h1 := (HS5.out.move hA6 hK6).kept.size;have h2 : (w6.alloc O).heap.size = w6.heap.size + 1 := by simp
           omega
          subst hO;unfold Tr.cells at *;have HOWN := Lib.hid hown6;have HSZ := Lib.hid hsz6;clear hI6 hA6 hK6 hrow6 h2 h3 hRj et6 KD1 HINV hl2 hown6 hsz6;go_wp2_with (at_builtin; refine Ls.wpList_append _ rfl _ _ 28 rfl w1.heap.size 30 i0 Dr.zeroV 11 192 Tryz.underlying28 hi hz0 hz1' hz2 rfl (by decide) (.slice oa k oc) k xs (by rfl) HOWN.out (.slice (some ⟨w6.heap.size,0,none⟩) 1 1) 1 [.int .i64 hf.k,.int .i64 hf.n,.bool hf.s1,.slice ar3 nr3 cr3,.slice ar4 nr4 cr4,.bool hf.s2,.slice ar6 nr6 cr6,.slice ar7 nr7 cr7,.string hf.x,.slice ar9 nr9 cr9,.slice ar10 nr10 cr10] (by rfl) (.inr ⟨_,_,rfl,rfl,World.news_of_block (heap_alloc_new _ _)⟩) (by intro u hu; simp only [List.mem_cons,List.not_mem_nil,or_false] at hu; rcases hu with rfl | rfl | rfl | rfl | rfl | rfl | rfl | rfl | rfl | rfl | rfl <;> rfl) (by simp only [maxLen]; omega) (by omega) HSZ.out ?_);intro v7 w7 hown7 hgr7 hfr7;have HE := Lib.hid (show (∃ (l' : List UInt8) (acc : Bool) (ts : List Tr) (xs : List Value) (R' : Dr.Res),Dr.ItSt b S w1 l' (g || acc) w7 v7 ts xs ∧ Dr.Rel (.pairs e ts.isEmpty l') R' ∧ R = Dr.joinR ts acc R' ∧ ts.length + l'.length ≤ l.length) ∧ Dr.left b S w7 < Dr.left b S wr from by
            have hnx := HS5.out.next H6.out.1 H6.out.2.1 H6.out.2.2 (v' := v7) (by rw [HK.out,← HB1.out.2]; exact hown7) hgr7 hfr7;refine ⟨⟨r2,acc || big,ts ++ [t],_,R3,by rw [← Bool.or_assoc]; exact hnx,by rw [Dr.snoc_empty]; exact H3.out.1,by rw [HJ.out,H3.out.2.1,Dr.joinR_snoc],?_⟩,?_⟩
            · have := HLL.out; have := HL1.out; have := H3.out.2.2;rw [List.length_append,List.length_singleton]; omega
            · rw [hnx.rd.left,HM.out]
              have := HL1.out; have := H3.out.2.2; omega)
          obtain ⟨a7,c7,rfl⟩ := Dr.own_slice hown7;clear hown7 hgr7 hfr7;go_wp2_with fail;exact HE.out
  have hpk : Dr.pk e ts.isEmpty r = .item := Dr.pk_not46 hitem (by
    by_cases h46 : Dr.pc r = 46
    · refine .inr ?_;have hk0 : k = 0 := Nat.eq_zero_of_not_pos (fun h => hdot ⟨h46,h⟩);have := HK.out;rw [hk0] at this;rw [List.length_eq_zero_iff.1 this];rfl
    · exact .inl h46)
  have HINV := Lib.hid (Dr.pr_inv H1.out hpk HR.out);have KD := Lib.hid (fun W R2 (hAW : Dr.At b S r (g || acc) W) (hkW : Dr.Kept b w1 W) h2 => HDI W R2 hAW HS.out (HT.out W hkW) h2);have HA4 := Lib.hid hA4;have hc46 : ((c == 46) = false) ∨ ((c == 46) = true ∧ decide (0 < k) = false ∧ decide ((0 : Int) < (k : Int)) = false) := by
   by_cases h46 : c = 46
   · have hk0 : ¬ 0 < k := fun h => hdot ⟨hc.symm.trans h46,h⟩;exact .inr ⟨beq_iff_eq.2 h46,decide_eq_false hk0,decide_eq_false (by omega)⟩
   · exact .inl (beq_eq_false_iff_ne.2 h46)
  clear hA4 hK4 hT4 hbad hstop hitem HDI hdot hc hpk hlen hsuf hp;have hways : (n = 0 ∧ (c == 46) = false) ∨ (0 < n ∧ (c == e) = false ∧ (c == 46) = false) ∨ (0 < n ∧ (c == e) = false ∧ (c == 46) = true ∧ decide (0 < k) = false ∧ decide ((0 : Int) < (k : Int)) = false) ∨ (n = 0 ∧ (c == 46) = true ∧ decide (0 < k) = false ∧ decide ((0 : Int) < (k : Int)) = false) := by
   rcases hcn with h | ⟨h,h'⟩ <;> rcases hc46 with h2 | ⟨h2,h3⟩
   · exact .inl ⟨h,h2⟩
   · exact .inr (.inr (.inr ⟨h,h2,h3⟩))
   · exact .inr (.inl ⟨h,h',h2⟩)
   · exact .inr (.inr (.inl ⟨h,h',h2,h3⟩))
  clear hcn hc46;rcases hways with ⟨rfl,q46⟩ | ⟨hn0,hcb,q46⟩ | ⟨hn0,hcb,q46,q0,q1⟩ | ⟨rfl,q46,q0,q1⟩;all_goals
   go_wp2_with fail;refine KP.mono ?_;rintro x w5 ⟨rfl,hb5⟩;obtain ⟨d0,d1,d2⟩ := HAT.out w5 hb5;obtain ⟨x5,W,g1,hW,hfz,hAW,hKW,hzW⟩ := HBACK.out w5 r (HA4.out.below hb5);have HS5 := Lib.hid (HS4.out.move hAW ((Dr.Kept.of_below hb5).trans hKW));have KD1 := Lib.hid (fun R2 h2 => KD.out W R2 hAW HS5.out.kept h2);clear KP hb5 KD HS4 HST hAW hKW hzW HAT HBACK d2 d0;go_wp2_with fail;rcases HINV.out with ⟨h2,hRf⟩ | ⟨t,r2,big,R3,h2,hl2,h3,hRj⟩
   · refine (KD1.out _ h2).mono ?_;rintro x w6 ⟨rfl,hK6⟩;have HE := Lib.hid (show Dr.PostPr b S g w R Dr.dead w6 by
       rw [HJ.out,hRf]
       exact ⟨rfl,HK1.out.trans (HS5.out.kept.trans hK6)⟩)
     clear h2 hRf hK6 KD1 HINV;unfold Dr.dead at *;go_wp2_with fail;exact ⟨rfl,HE.out⟩
   · refine (KD1.out _ h2).mono ?_;rintro x w6 ⟨v,rfl,hI6,hA6,hK6⟩;obtain ⟨C6,rfl⟩ := Dr.in_agg hI6;obtain ⟨hf,lf,ar3,ar4,ar6,ar7,ar9,ar10,nr3,nr4,nr6,nr7,nr9,nr10,cr3,cr4,cr6,cr7,cr9,cr10,eC6,et6,_,_⟩ := Tr.In.form2 hI6;subst eC6;have H6 := Lib.hid (And.intro hI6 (And.intro hA6 hK6));have H3 := Lib.hid (And.intro h3 (And.intro hRj hl2));have hrow6 := (HS5.out.move hA6 hK6).row.1;obtain ⟨O,hO⟩ : ∃ z,Obj.cells (Tr.cells hf (.slice ar3 nr3 cr3) (.slice ar4 nr4 cr4) (.slice ar6 nr6 cr6) (.slice ar7 nr7 cr7) (.slice ar9 nr9 cr9) (.slice ar10 nr10 cr10)) 30 = z := ⟨_,rfl⟩;have hown6 : (w6.alloc O).ownsRow w1.heap.size 30 11 (.slice oa k oc) k xs := by
      have := Dr.own_kept (w' := w6.alloc O) hrow6 (fun q _ hq => ((Below.refl w6.heap.size w6).alloc (Nat.le_refl _) O).block q hq);rwa [HK.out] at this
     have hkb : k ≤ 1048576 := by have := HS.out; have := HLL.out; have := HLE.out; have := HK.out; omega
     have hsz6 : w1.heap.size ≤ (w6.alloc O).heap.size := by
      have h1 := (HS5.out.move hA6 hK6).kept.size;have h2 : (w6.alloc O).heap.size = w6.heap.size + 1 := by simp
      omega
     subst hO;unfold Tr.cells at *;have HOWN := Lib.hid hown6;have HSZ := Lib.hid hsz6;clear hI6 hA6 hK6 hrow6 h2 h3 hRj et6 KD1 HINV hl2 hown6 hsz6;go_wp2_with (at_builtin; refine Ls.wpList_append _ rfl _ _ 28 rfl w1.heap.size 30 i0 Dr.zeroV 11 192 Tryz.underlying28 hi hz0 hz1' hz2 rfl (by decide) (.slice oa k oc) k xs (by rfl) HOWN.out (.slice (some ⟨w6.heap.size,0,none⟩) 1 1) 1 [.int .i64 hf.k,.int .i64 hf.n,.bool hf.s1,.slice ar3 nr3 cr3,.slice ar4 nr4 cr4,.bool hf.s2,.slice ar6 nr6 cr6,.slice ar7 nr7 cr7,.string hf.x,.slice ar9 nr9 cr9,.slice ar10 nr10 cr10] (by rfl) (.inr ⟨_,_,rfl,rfl,World.news_of_block (heap_alloc_new _ _)⟩) (by intro u hu; simp only [List.mem_cons,List.not_mem_nil,or_false] at hu; rcases hu with rfl | rfl | rfl | rfl | rfl | rfl | rfl | rfl | rfl | rfl | rfl <;> rfl) (by simp only [maxLen]; omega) (by omega) HSZ.out ?_);intro v7 w7 hown7 hgr7 hfr7;have HE := Lib.hid (show (∃ (l' : List UInt8) (acc : Bool) (ts : List Tr) (xs : List Value) (R' : Dr.Res),Dr.ItSt b S w1 l' (g || acc) w7 v7 ts xs ∧ Dr.Rel (.pairs e ts.isEmpty l') R' ∧ R = Dr.joinR ts acc R' ∧ ts.length + l'.length ≤ l.length) ∧ Dr.left b S w7 < Dr.left b S wr from by
       have hnx := HS5.out.next H6.out.1 H6.out.2.1 H6.out.2.2 (v' := v7) (by rw [HK.out,← HB1.out.2]; exact hown7) hgr7 hfr7;refine ⟨⟨r2,acc || big,ts ++ [t],_,R3,by rw [← Bool.or_assoc]; exact hnx,by rw [Dr.snoc_empty]; exact H3.out.1,by rw [HJ.out,H3.out.2.1,Dr.joinR_snoc],?_⟩,?_⟩
       · have := HLL.out; have := HL1.out; have := H3.out.2.2;rw [List.length_append,List.length_singleton]; omega
       · rw [hnx.rd.left,HM.out]
         have := HL1.out; have := H3.out.2.2; omega)
     obtain ⟨a7,c7,rfl⟩ := Dr.own_slice hown7;clear hown7 hgr7 hfr7;go_wp2_with fail;exact HE.out
end Go.Proofs.YteklhapffplohaaGreatDoor
