/-
  The reader's datum.
-/
import Derived.Test.YteklhapffplohaaGreatDoorVy
import Derived.Test.YteklhapffplohaaGreatDoorVw
import Derived.Test.YteklhapffplohaaGreatDoorVz
import Derived.Test.YteklhapffplohaaGreatDoorVv
import Derived.Test.YteklhapffplohaaGreatDoorVj
set_option linter.unusedVariables false
set_option linter.unusedSimpArgs false
namespace Go.Proofs.YteklhapffplohaaGreatDoor
open Go.RowKit
theorem Dr.txt1_len {l b r : List UInt8} (h : Dr.txt1 l = .go b r) : b.length ≤ 4 := by
 unfold Dr.txt1 at h;split at h
 · cases h
 · split at h
   · cases h
   · split at h
     · split at h
       · cases h
       · split at h
         · split at h
           · cases h
           · simp only [Dr.Step.go.injEq] at h;rw [← h.1];exact (Dr.enc_len _).2
         · split at h
           · cases h
           · simp only [Dr.Step.go.injEq] at h;rw [← h.1];simp
     · split at h
       · split at h
         · cases h
         · simp only [Dr.Step.go.injEq] at h;rw [← h.1];simp
       · split at h
         · simp only [Dr.Step.go.injEq] at h;rw [← h.1];simp
         · simp only [Dr.Step.go.injEq] at h;rw [← h.1];exact (Dr.enc_len _).2
theorem Dr.text_len0 : ∀ (n : Nat) (l : List UInt8) (x : List UInt8 × List UInt8),l.length ≤ n → Dr.text l = some x → x.1.length ≤ 4 * l.length
 | n,l,x,hn,h => by
   rw [Dr.text_eq] at h;split at h
   · cases h
   · simp only [Option.some.injEq] at h;rw [← h];simp
   · rename_i b r h1;have k1 := Dr.txt1_lt h1;have k2 := Dr.txt1_len h1;cases hr : Dr.text r with
     | none => rw [hr] at h; cases h
     | some y =>
       rw [hr] at h;simp only [Option.map_some,Option.some.injEq] at h;cases n with
       | zero => omega
       | succ n =>
         have k3 := Dr.text_len0 n r y (by omega) hr;rw [← h];show (b ++ y.1).length ≤ _;rw [List.length_append];omega
theorem Dr.text_len {l x r : List UInt8} (h : Dr.text l = some (x,r)) : x.length ≤ 4 * l.length := Dr.text_len0 _ l _ (Nat.le_refl _) h
theorem Dr.char_range {l r : List UInt8} {x : Int} (h : Dr.char l = some (x,r)) : 0 ≤ x ∧ x ≤ 2147483647 := by
 unfold Dr.char at h;split at h
 · cases h
 · rename_i c r1 hn;obtain ⟨_,hc,hl⟩ := Dr.next_drop hn;have hcr := Dr.cp_i32 l hl;rw [← hc] at hcr;split at h
   · split at h
     · cases h; omega
     · split at h
       · cases h
       · split at h
         · cases h; omega
         · cases h
   · split at h
     · cases h
     · split at h
       · cases h; omega
       · split at h
         · cases h; omega
         · split at h
           · rename_i n hnm;cases h;unfold Dr.named at hnm;cases hf : (List.range 128).find? fun (n : Nat) => decide (Wt.name ((n : Nat) : Int) = Lib.encodeRune c ++ Dr.upto r1 r) with
             | none => rw [hf] at hnm; cases hnm
             | some k =>
               rw [hf] at hnm;simp only [Option.map_some,Option.some.injEq] at hnm;have := List.mem_range.1 (List.mem_of_find?_eq_some hf);omega
           · split at h
             · cases hh : Dr.hex (Dr.upto r1 _) with
               | none => rw [hh] at h; cases h
               | some d =>
                 rw [hh] at h;simp only [Option.map_some,Option.some.injEq,Prod.mk.injEq] at h;have := Dr.hex_char hh;omega
             · cases h
theorem Dr.dk_eq {l : List UInt8} (h : l ≠ []) (hb : Dr.bad l = false) : Dr.dk l = if Dr.cp l = 40 ∨ Dr.cp l = 91 then .pairs (Dr.close (Dr.cp l)) (l.drop (Dr.wd l))
 else if Dr.cp l = 34 then (match Dr.text (l.drop (Dr.wd l)) with | none => .fault | some x => .done (Dr.leaf 5 0 x.1) x.2 false)
 else if Dr.cp l = 39 then .quote (l.drop (Dr.wd l))
 else if l.take 2 = [35,40] then .vec (l.drop 2)
 else if l.take 5 = [35,118,117,56,40] then .bytes (l.drop 5)
 else if l.take 2 = [35,92] then (match Dr.char (l.drop 2) with | none => .fault | some x => .done (Dr.leaf 4 x.1 []) x.2 false)
 else match Dr.token l with
  | none => .fault
  | some r => (match Dr.atom (Dr.upto l r) with | none => .fault | some x => .done x.1 r x.2) := by
 rw [Dr.dk,if_neg h,if_neg (by rw [hb]; simp)]
 rfl
theorem Dr.dk_nil : Dr.dk [] = .fault := by rw [Dr.dk,if_pos rfl]
theorem Dr.dk_bad {l : List UInt8} (h : l ≠ []) (hb : Dr.bad l = true) : Dr.dk l = .fault := by rw [Dr.dk,if_neg h,if_pos hb]
theorem Dr.dk_inv_pairs {l r : List UInt8} {e : Int} {R : Dr.Res} (h : Dr.dk l = .pairs e r) (k : Dr.Rel (.datum l) R) : (Dr.Rel (.pairs e true r) .fault ∧ R = .fault) ∨ ∃ ts last r2 big,Dr.Rel (.pairs e true r) (.lst ts last r2 big) ∧ R = .got (Dr.listT ts last) r2 big := by
 obtain ⟨R1,h1⟩ := Dr.total (.pairs e true r);have hless := h1.less;cases R1 with
 | fault => exact .inl ⟨h1,k.det (.dPairs1 h h1)⟩
 | lst ts last r2 big => exact .inr ⟨ts,last,r2,big,h1,k.det (.dPairs2 h h1)⟩
 | skip => exact absurd hless id
 | got => exact absurd hless id
 | list => exact absurd hless id
theorem Dr.dk_inv_quote {l r : List UInt8} {R : Dr.Res} (h : Dr.dk l = .quote r) (k : Dr.Rel (.datum l) R) : (Dr.Rel (.blanks r) .fault ∧ R = .fault) ∨ ∃ r1,Dr.Rel (.blanks r) (.skip r1) ∧ r1.length ≤ r.length ∧
 ((Dr.Rel (.datum r1) .fault ∧ R = .fault) ∨ ∃ t r2 big,Dr.Rel (.datum r1) (.got t r2 big) ∧ R = .got (Dr.listT [Dr.leaf 6 0 [113,117,111,116,101],t] Dr.nil) r2 big) := by
 obtain ⟨R1,h1⟩ := Dr.total (.blanks r)
 rcases Dr.skips h1 with rfl | ⟨r1,rfl,hl⟩
 · exact .inl ⟨h1,k.det (.dQuote1 h h1)⟩
 · refine .inr ⟨r1,h1,hl,?_⟩;obtain ⟨R2,h2⟩ := Dr.total (.datum r1);rcases Dr.gots h2 with rfl | ⟨t,r2,b,rfl,hl2⟩
   · exact .inl ⟨h2,k.det (.dQuote2 h h1 h2)⟩
   · exact .inr ⟨t,r2,b,h2,k.det (.dQuote3 h h1 h2)⟩
theorem Dr.vec_in {w : World} {S : Nat → Prop} {ts : List Tr} {v : Value} (h : Tr.LIn w S ts v) : Tr.In w S (Dr.vec ts) (.agg #[.int .i64 9,.int .i64 0,.bool false,.slice none 0 0,.slice none 0 0,.bool false,.slice none 0 0,.slice none 0 0,.string ⟨#[]⟩,.slice none 0 0,v]) := by
 unfold Dr.vec;rw [Tr.In_mk];exact ⟨.slice none 0 0,.slice none 0 0,.slice none 0 0,.slice none 0 0,.slice none 0 0,v,rfl,⟨⟨by decide,by decide,by decide,by decide,fun x h => by simp at h,fun x h => by simp at h,fun x h => by simp at h,fun x h => by simp at h,Nat.zero_le _,Nat.zero_le _,Nat.zero_le _,Nat.zero_le _,Nat.zero_le _,Nat.zero_le _⟩,.inl ⟨rfl,rfl⟩,.inl ⟨rfl,rfl⟩,.inl ⟨rfl,rfl⟩,.inl ⟨rfl,rfl⟩,.inl ⟨rfl,rfl⟩,fun h => absurd h (Nat.lt_irrefl 0),fun h => absurd h (Nat.lt_irrefl 0),fun h => absurd h (Nat.lt_irrefl 0),fun h => absurd h (Nat.lt_irrefl 0),fun h => absurd h (Nat.lt_irrefl 0)⟩,h⟩
theorem Dr.two_in {w : World} {S : Nat → Prop} {a r : Tr} {C1 C2 : Array Value} {b : Nat} (h1 : Tr.In w S a (.agg C1)) (h2 : Tr.In w S r (.agg C2)) (m1 : Tr.Mem w b 0 C1) (m2 : Tr.Mem w b 11 C2) (hb : b < w.heap.size) (hS : S b) : Tr.LIn w S [a,r] (.slice (some ⟨b,0,none⟩) 2 2) := by
 refine .inr (.inr ⟨by simp,b,0,2,rfl,by simp,by omega,hb,hS,?_⟩);show Tr.All w S [a,r] b 0;rw [Tr.All_cons,Tr.All_cons];exact ⟨⟨C1,h1,m1⟩,⟨C2,h2,m2⟩,Tr.All_nil⟩
set_option maxHeartbeats 8000000
set_option maxRecDepth 1000000
theorem Dr.datum_con (l : List UInt8) (IH : ∀ j : Dr.Job,j.len < (Dr.Job.datum l).len → Dr.Con j) : Dr.Con (.datum l) := by
 intro b S g w R h hs hT hR;have HIH := Lib.hid IH;obtain ⟨B,hB⟩ : ∃ z,w.heap.size = z := ⟨_,rfl⟩;have hal : Below w.heap.size w (w.alloc (.cells #[.int .i64 0,.int .i64 0,.bool false,.slice none 0 0,.slice none 0 0,.bool false,.slice none 0 0,.slice none 0 0,.string ⟨#[]⟩,.slice none 0 0,.slice none 0 0] 30)) := (Below.refl _ _).alloc (Nat.le_refl _) _;have hz1 : (w.alloc (.cells #[.int .i64 0,.int .i64 0,.bool false,.slice none 0 0,.slice none 0 0,.bool false,.slice none 0 0,.slice none 0 0,.string ⟨#[]⟩,.slice none 0 0,.slice none 0 0] 30)).heap.size = B + 1 := by simp [hB]
 have hq1 := heap_alloc_new w (.cells #[.int .i64 0,.int .i64 0,.bool false,.slice none 0 0,.slice none 0 0,.bool false,.slice none 0 0,.slice none 0 0,.string ⟨#[]⟩,.slice none 0 0,.slice none 0 0] 30);obtain ⟨w1,hw1⟩ : ∃ z,(w.alloc (.cells #[.int .i64 0,.int .i64 0,.bool false,.slice none 0 0,.slice none 0 0,.bool false,.slice none 0 0,.slice none 0 0,.string ⟨#[]⟩,.slice none 0 0,.slice none 0 0] 30)) = z := ⟨_,rfl⟩;rw [hw1] at hal hq1 hz1;have hbB : B ≠ b := by have := h.lt; omega
 have hbx1 : Dr.Box0 w.heap.size w1 := hq1;rw [hB] at hbx1;have hA := h.below hal;have hK1 : Dr.Kept b w w1 := Dr.Kept.of_below hal;have HNE := Lib.hid (And.intro hT (h.tabs_ne hT));have HBX := Lib.hid (fun (w' : World) (hk : Dr.Kept b w1 w') => hbx1.kept hk hbB);have HTK := Lib.hid (fun (w' : World) (hk : Dr.Kept b w1 w') => Dr.tabs_kept HNE.out.1 HNE.out.2.1 HNE.out.2.2 (hK1.trans hk));have HDEAD := Lib.hid (fun (hr : R = .fault) (w' : World) (hk : Dr.Kept b w1 w') => show Dr.PostDm b S g w R Dr.dead w' from by rw [hr]; exact ⟨rfl,hK1.trans hk⟩);have HPUT := Lib.hid (fun (d : Tr) (r : List UInt8) (big : Bool) (v : Value) (hr : R = .got d r big) (w' : World) (hk : Dr.Kept b w1 w') (hA' : Dr.At b S r (g || big) w') (hi : Tr.In w' (fun q => B + 1 ≤ q) d v) (W : World) (hz : W.heap.size = w'.heap.size) (ho : ∀ q,q ≠ B → W.heap[q]? = w'.heap[q]?) (hw : ∀ (K : Nat) (z : World),Below K z w' → K ≤ B → Below K z W) => show Dr.PostDm b S g w R (.returned v) W from by
   rw [hr];refine ⟨v,rfl,?_,hA'.put hbB.symm ho,(hK1.trans hk).put (Nat.le_of_eq hB) hz hw⟩
   exact Tr.In.mono (S := fun q => B + 1 ≤ q) (fun q hq => by show w.heap.size ≤ q; omega) d v (Tr.In.kept ⟨Nat.le_of_eq hz.symm,fun q hq _ => ho q (by omega)⟩ d v hi))
 have hT1 := HTK.out w1 (Dr.Kept.refl _ _);have HZ1 := Lib.hid hz1;have HS := Lib.hid hs;have hs2 : S.size ≤ 9223372036854775807 := Nat.le_trans hs (by decide);have HS2 := Lib.hid hs2;clear hal hq1 hbx1 hK1 hz1 hT h hs hs2 IH;have HR := Lib.hid hR;clear hR;by_cases hl : l = []
 · subst hl;have KP := Dr.peek_end b S g w1 hA;have HD := Lib.hid (HDEAD.out (HR.out.det (.dFault Dr.dk_nil)));have KS := Lib.hid (fun v w' => Dr.stop_any v w');clear HBX HPUT HDEAD HTK hA hT1 HR HIH HNE;go_enter Tryz.func21,Tryz.ntmps21;go_wp2_with fail;refine KP.mono ?_;rintro x w2 ⟨rfl,hb2⟩;have HE := Lib.hid (HD.out w2 (Dr.Kept.of_below hb2));clear KP hb2 HD;go_wp2_with fail;refine (KS.out _ _).mono ?_;rintro x w7 ⟨rfl,rfl⟩;unfold Dr.dead at *;go_wp2_with fail;exact ⟨rfl,HE.out⟩
 cases hb : Dr.bad l with
 | true =>
   have KP := Dr.peek_bad b S l g w1 hA hl hb hT1;have HD := Lib.hid (HDEAD.out (HR.out.det (.dFault (Dr.dk_bad hl hb))));clear HBX HPUT HDEAD HTK hA hT1 HR HIH HNE hl hb;go_enter Tryz.func21,Tryz.ntmps21;go_wp2_with fail;refine KP.mono ?_;rintro x w2 ⟨rfl,hb2⟩;have HE := Lib.hid (HD.out w2 (Dr.Kept.of_below hb2));clear KP hb2 HD;unfold Dr.dead at *;go_wp2_with fail;exact ⟨rfl,HE.out⟩
 | false =>
   have KP := Dr.peek_ok b S l g w1 hA hl hb hT1;have hwp := Dr.wd_pos hl;have hwl := Dr.wd_le hl;have heq := Dr.dk_eq hl hb;have hnz : ((Dr.wd l : Int) == 0) = false := beq_eq_false_iff_ne.2 (by omega);have hdl : (l.drop (Dr.wd l)).length < l.length := Dr.drop_lt hl;have hAle := hA.le;obtain ⟨p,hp⟩ : ∃ z,S.size - l.length = z := ⟨_,rfl⟩;have hsum : (p : Int) + (Dr.wd l : Int) ≤ 9223372036854775807 ∧ 0 ≤ (Dr.wd l : Int) ∧ 0 ≤ (p : Int) ∧ (p : Int) ≤ (S.size : Int) ∧ (p : Int) + 2 ≤ 9223372036854775807 ∧ (p : Int) + 5 ≤ 9223372036854775807 := by have := HS.out; omega
   obtain ⟨hsum1,hsum2,hp0,hps,hps2,hps5⟩ := hsum;have HC := Lib.hid (fun (w' : World) (hb : Below w1.heap.size w1 w') => (hA.below hb).cells);rw [hp] at HC;have HST := Lib.hid (fun w2 (hb2 : Below w1.heap.size w1 w2) => Dr.setAt (hA.below hb2) hp hwl ((Dr.wd l : Nat) : Int) rfl);have HA := Lib.hid hA;have HP := Lib.hid hp;by_cases h40 : Dr.cp l = 40 ∨ Dr.cp l = 91
   · rw [if_pos h40] at heq;have hg : ((Dr.cp l == 40) = true) ∨ ((Dr.cp l == 40) = false ∧ (Dr.cp l == 91) = true) := by
      rcases h40 with h | h
      · exact .inl (beq_iff_eq.2 h)
      · exact .inr ⟨beq_eq_false_iff_ne.2 (by omega),beq_iff_eq.2 h⟩
     have HREL := Lib.hid (Dr.dk_inv_pairs heq HR.out);have HIP := HIH.out (.pairs (Dr.close (Dr.cp l)) true (l.drop (Dr.wd l))) (by show 2 * (l.drop (Dr.wd l)).length + 1 < 2 * l.length; omega) b S g;have KPA := Lib.hid (fun W R2 (hAt : Dr.At b S (l.drop (Dr.wd l)) g W) (hKW : Dr.Kept b w1 W) h2 => HIP W R2 (Dr.cp l) hAt HS.out (HTK.out W hKW) h2 rfl h40 rfl);clear heq HIP h40 hl hb hwp hwl hdl hAle hA hT1 HR HIH HNE HTK hp;generalize Dr.cp l = c at *;generalize Dr.wd l = n at *;go_enter Tryz.func21,Tryz.ntmps21;go_wp2_with fail;refine KP.mono ?_;rintro x w2 ⟨rfl,hb2⟩;obtain ⟨d0,d1,d2⟩ := HC.out w2 hb2;obtain ⟨W,hW,hfz,hAt,hKW,hz⟩ := HST.out w2 hb2;have HKW := Lib.hid ((Dr.Kept.of_below hb2).trans hKW);have KPA1 := Lib.hid (fun R2 h2 => KPA.out W R2 hAt HKW.out h2);clear KP hb2 HC HST hAt hKW hz KPA d0 d2;rcases hg with hg | ⟨hg,hg2⟩;all_goals
      go_wp2_with fail;rcases HREL.out with ⟨h2,hRf⟩ | ⟨ts,last,r2,big,h2,hRg⟩
      · refine (KPA1.out _ h2).mono ?_;rintro x w5 ⟨rfl,hK5⟩;have HE := Lib.hid (HDEAD.out hRf w5 (HKW.out.trans hK5));clear HBX HPUT HDEAD h2 hRf hK5 HREL KPA1;unfold Dr.dead at *;go_wp2_with fail;exact ⟨rfl,HE.out⟩
      · refine (KPA1.out _ h2).mono ?_;rintro x w5 ⟨v,rfl,hI5,hA5,hK5⟩;have hI6 := Tr.In.mono (S' := fun q => B + 1 ≤ q) (fun q hq => by have := HKW.out.size; have := HZ1.out; omega) _ _ hI5;have HK5 := Lib.hid (HKW.out.trans hK5);clear hI5 KPA1 h2 HREL;obtain ⟨C8,rfl⟩ := Dr.in_agg hI6;obtain ⟨hv,lv,b3,b4,b6,b7,b9,b10,m3,m4,m6,m7,m9,m10,d3',d4,d6,d7,d9,d10,eC8,et8,_,_⟩ := Tr.In.form2 hI6;subst eC8;clear et8;unfold Tr.cells at *;have hbx8 := HBX.out _ (HK5.out);obtain ⟨Y1,Y2,Y3,Y4,Y5,Y6,Y7,Y8,Y9,Y10,Y11,⟨g0,z0,s0⟩,⟨g1,z1,s1'⟩,⟨g2,z2,s2'⟩,⟨g3,z3,s3'⟩,⟨g4,z4,s4'⟩,⟨g5,z5,s5'⟩,⟨g6,z6,s6'⟩,⟨g7,z7,s7'⟩,⟨g8,z8,s8'⟩,⟨g9,z9,s9'⟩,⟨g10,z10,s10'⟩,⟨r0,r1,r2',r3,r4,r5,r6,r7,r8,r9,r10⟩,HY⟩ := hbx8.put (.int .i64 hv.k) (.int .i64 hv.n) (.bool hv.s1) (.slice b3 m3 d3') (.slice b4 m4 d4) (.bool hv.s2) (.slice b6 m6 d6) (.slice b7 m7 d7) (.string hv.x) (.slice b9 m9 d9) (.slice b10 m10 d10);have HE := Lib.hid (HPUT.out _ _ _ _ hRg w5 HK5.out hA5 hI6 Y11 HY.out.2.1 HY.out.2.2.1 HY.out.2.2.2);clear hbx8 HY HBX HPUT HDEAD hI6 hA5 hK5;go_wp2_with fail;refine bodyPost_ret (v := .agg #[.int .i64 hv.k,.int .i64 hv.n,.bool hv.s1,.slice b3 m3 d3',.slice b4 m4 d4,.bool hv.s2,.slice b6 m6 d6,.slice b7 m7 d7,.string hv.x,.slice b9 m9 d9,.slice b10 m10 d10]) (by simp [results,Tryz.results21,go_sem,r0,r1,r2',r3,r4,r5,r6,r7,r8,r9,r10]) rfl HE.out
   by_cases h34 : Dr.cp l = 34
   · rw [if_neg h40,if_pos h34] at heq;have c1 : (Dr.cp l == 40) = false := beq_eq_false_iff_ne.2 (by omega);have c2 : (Dr.cp l == 91) = false := beq_eq_false_iff_ne.2 (by omega);have c3 : (Dr.cp l == 34) = true := beq_iff_eq.2 h34;have KTX := Lib.hid (fun W (hAt : Dr.At b S (l.drop (Dr.wd l)) g W) (hKW : Dr.Kept b w1 W) => Dr.text_any b S g _ W hAt HS.out (HTK.out W hKW));have HEQ := Lib.hid heq;have HLEN := Lib.hid (show (l.drop (Dr.wd l)).length ≤ 1048576 from by have := HS.out; omega);clear heq h40 h34 hl hb hwp hwl hdl hAle hA hT1 HIH HNE HTK hp;obtain ⟨ld,hld⟩ : ∃ z,l.drop (Dr.wd l) = z := ⟨_,rfl⟩;rw [hld] at KTX HEQ HLEN HST;obtain ⟨c,hc⟩ : ∃ z,z = Dr.cp l := ⟨_,rfl⟩;obtain ⟨n,hn⟩ : ∃ z,z = Dr.wd l := ⟨_,rfl⟩;rw [← hc] at KP c1 c2 c3;rw [← hn] at KP hnz hsum1 hsum2 HST;clear hc hn hld;go_enter Tryz.func21,Tryz.ntmps21;go_wp2_with fail;refine KP.mono ?_;rintro x w2 ⟨rfl,hb2⟩;obtain ⟨d0,d1,d2⟩ := HC.out w2 hb2;obtain ⟨W,hW,hfz,hAt,hKW,hz⟩ := HST.out w2 hb2;have HKW := Lib.hid ((Dr.Kept.of_below hb2).trans hKW);have KTX1 := KTX.out W hAt HKW.out;clear KP hb2 HC HST hAt hKW hz KTX d0 d2;cases htx : Dr.text ld with
     | none =>
       rw [htx] at KTX1;have hRf := HR.out.det (.dFault (by rw [HEQ.out,htx]));clear htx HEQ;go_wp2_with fail;refine KTX1.mono ?_;rintro x w5 ⟨rfl,hK5⟩;have HE := Lib.hid (HDEAD.out hRf w5 (HKW.out.trans hK5));clear HBX HPUT HDEAD hRf hK5 KTX1 HR;unfold Dr.dead at *;go_wp2_with fail;exact ⟨rfl,HE.out⟩
     | some y =>
       obtain ⟨x,r⟩ := y;rw [htx] at KTX1;have hRg := HR.out.det (.dDone (by rw [HEQ.out,htx]));have hxl := Dr.text_len htx;have HXL := Lib.hid (show x.length ≤ 4294967296 from by have := HLEN.out; omega);clear htx HEQ hxl;go_wp2_with fail;refine KTX1.mono ?_;rintro y w5 ⟨rfl,hA5,hK5⟩;have HK5 := Lib.hid (HKW.out.trans hK5);have HA5 := Lib.hid hA5;clear KTX1 HR hA5 hK5;have hbx8 := HBX.out _ (HK5.out);obtain ⟨Y1,Y2,Y3,Y4,Y5,Y6,Y7,Y8,Y9,Y10,Y11,⟨g0,z0,s0⟩,⟨g1,z1,s1'⟩,⟨g2,z2,s2'⟩,⟨g3,z3,s3'⟩,⟨g4,z4,s4'⟩,⟨g5,z5,s5'⟩,⟨g6,z6,s6'⟩,⟨g7,z7,s7'⟩,⟨g8,z8,s8'⟩,⟨g9,z9,s9'⟩,⟨g10,z10,s10'⟩,⟨r0,r1,r2',r3,r4,r5,r6,r7,r8,r9,r10⟩,HY⟩ := hbx8.put (.int .i64 5) (.int .i64 0) (.bool false) (.slice none 0 0) (.slice none 0 0) (.bool false) (.slice none 0 0) (.slice none 0 0) (.string ⟨x.toArray⟩) (.slice none 0 0) (.slice none 0 0);have HE := Lib.hid (HPUT.out _ _ _ (Dr.leafV 5 0 x) hRg w5 HK5.out (by rw [Bool.or_false]; exact HA5.out) (Dr.leaf_in 5 0 x w5 (by omega) (by omega) HXL.out) Y11 HY.out.2.1 HY.out.2.2.1 HY.out.2.2.2);clear hbx8 HY HBX HPUT HDEAD;go_wp2_with fail;refine bodyPost_ret (v := .agg #[.int .i64 5,.int .i64 0,.bool false,.slice none 0 0,.slice none 0 0,.bool false,.slice none 0 0,.slice none 0 0,.string ⟨x.toArray⟩,.slice none 0 0,.slice none 0 0]) (by simp [results,Tryz.results21,go_sem,r0,r1,r2',r3,r4,r5,r6,r7,r8,r9,r10]) rfl HE.out
   by_cases h39 : Dr.cp l = 39
   · rw [if_neg h40,if_neg h34,if_pos h39] at heq;have c1 : (Dr.cp l == 40) = false := beq_eq_false_iff_ne.2 (by omega);have c2 : (Dr.cp l == 91) = false := beq_eq_false_iff_ne.2 (by omega);have c3 : (Dr.cp l == 34) = false := beq_eq_false_iff_ne.2 (by omega);have c4 : (Dr.cp l == 39) = true := beq_iff_eq.2 h39;have HREL := Lib.hid (Dr.dk_inv_quote heq HR.out);have HIB := HIH.out (.blanks (l.drop (Dr.wd l))) (by show 2 * (l.drop (Dr.wd l)).length < 2 * l.length; omega) b S g;have KB := Lib.hid (fun W R2 (hAt : Dr.At b S (l.drop (Dr.wd l)) g W) (hKW : Dr.Kept b w1 W) h2 => HIB W R2 hAt HS.out (HTK.out W hKW) h2);have KD := Lib.hid (fun (r1 : List UInt8) (hr1 : r1.length ≤ (l.drop (Dr.wd l)).length) W R2 (hAt : Dr.At b S r1 g W) (hKW : Dr.Kept b w1 W) h2 => HIH.out (.datum r1) (by show 2 * r1.length < 2 * l.length; omega) b S g W R2 hAt HS.out (HTK.out W hKW) h2);clear heq h40 h34 h39 HIB hl hb hwp hwl hdl hAle hA hT1 HR HIH HNE HTK hp;obtain ⟨ld,hld⟩ : ∃ z,l.drop (Dr.wd l) = z := ⟨_,rfl⟩;rw [hld] at KB KD HST HREL;obtain ⟨c,hc⟩ : ∃ z,z = Dr.cp l := ⟨_,rfl⟩;obtain ⟨n,hn⟩ : ∃ z,z = Dr.wd l := ⟨_,rfl⟩;rw [← hc] at KP c1 c2 c3 c4;rw [← hn] at KP hnz hsum1 hsum2 HST;clear hc hn hld;go_enter Tryz.func21,Tryz.ntmps21;go_wp2_with fail;refine KP.mono ?_;rintro x w2 ⟨rfl,hb2⟩;obtain ⟨d0,d1,d2⟩ := HC.out w2 hb2;obtain ⟨W,hW,hfz,hAt,hKW,hz⟩ := HST.out w2 hb2;have HKW := Lib.hid ((Dr.Kept.of_below hb2).trans hKW)
     have KB1 := Lib.hid (fun R2 h2 => KB.out W R2 hAt HKW.out h2);clear KP hb2 HC HST hAt hKW hz KB d0 d2;go_wp2_with fail;rcases HREL.out with ⟨h2,hRf⟩ | ⟨r1,h2,hl1,h3⟩
     · refine (KB1.out _ h2).mono ?_;rintro x w5 ⟨rfl,hK5⟩;have HE := Lib.hid (HDEAD.out hRf w5 (HKW.out.trans hK5));clear HBX HPUT HDEAD h2 hRf hK5 HREL KB1 KD;unfold Dr.dead at *;go_wp2_with fail;exact ⟨rfl,HE.out⟩
     refine (KB1.out _ h2).mono ?_;rintro x w5 ⟨rfl,hA5,hK5⟩;have HK5 := Lib.hid (HKW.out.trans hK5);have KD1 := Lib.hid (fun R2 h => KD.out r1 hl1 w5 R2 hA5 HK5.out h);have H3 := Lib.hid h3;clear h2 hl1 h3 HREL KB1 KD hA5 hK5;go_wp2_with fail;rcases H3.out with ⟨h4,hRf⟩ | ⟨t,r2,big,h4,hRg⟩
     · refine (KD1.out _ h4).mono ?_;rintro x w6 ⟨rfl,hK6⟩;have HE := Lib.hid (HDEAD.out hRf w6 (HK5.out.trans hK6));clear HBX HPUT HDEAD h4 hRf hK6 H3 KD1;unfold Dr.dead at *;go_wp2_with fail;exact ⟨rfl,HE.out⟩
     refine (KD1.out _ h4).mono ?_;rintro x w6 ⟨v,rfl,hI6,hA6,hK6⟩;obtain ⟨C6,rfl⟩ := Dr.in_agg hI6;obtain ⟨hf,lf,ar3,ar4,ar6,ar7,ar9,ar10,nr3,nr4,nr6,nr7,nr9,nr10,cr3,cr4,cr6,cr7,cr9,cr10,eC6,et6,_,_⟩ := Tr.In.form2 hI6;subst eC6;unfold Tr.cells at *;have hal6 : Below w6.heap.size w6 (w6.alloc (.cells #[.int .i64 6,.int .i64 0,.bool false,.slice none 0 0,.slice none 0 0,.bool false,.slice none 0 0,.slice none 0 0,.string ⟨#[113,117,111,116,101]⟩,.slice none 0 0,.slice none 0 0,.int .i64 hf.k,.int .i64 hf.n,.bool hf.s1,.slice ar3 nr3 cr3,.slice ar4 nr4 cr4,.bool hf.s2,.slice ar6 nr6 cr6,.slice ar7 nr7 cr7,.string hf.x,.slice ar9 nr9 cr9,.slice ar10 nr10 cr10] 30)) := (Below.refl _ _).alloc (Nat.le_refl _) _;have hqa := heap_alloc_new w6 (.cells #[.int .i64 6,.int .i64 0,.bool false,.slice none 0 0,.slice none 0 0,.bool false,.slice none 0 0,.slice none 0 0,.string ⟨#[113,117,111,116,101]⟩,.slice none 0 0,.slice none 0 0,.int .i64 hf.k,.int .i64 hf.n,.bool hf.s1,.slice ar3 nr3 cr3,.slice ar4 nr4 cr4,.bool hf.s2,.slice ar6 nr6 cr6,.slice ar7 nr7 cr7,.string hf.x,.slice ar9 nr9 cr9,.slice ar10 nr10 cr10] 30)
     obtain ⟨w7,hw7⟩ : ∃ z,w6.alloc (.cells #[.int .i64 6,.int .i64 0,.bool false,.slice none 0 0,.slice none 0 0,.bool false,.slice none 0 0,.slice none 0 0,.string ⟨#[113,117,111,116,101]⟩,.slice none 0 0,.slice none 0 0,.int .i64 hf.k,.int .i64 hf.n,.bool hf.s1,.slice ar3 nr3 cr3,.slice ar4 nr4 cr4,.bool hf.s2,.slice ar6 nr6 cr6,.slice ar7 nr7 cr7,.string hf.x,.slice ar9 nr9 cr9,.slice ar10 nr10 cr10] 30) = z := ⟨_,rfl⟩;rw [hw7] at hal6 hqa;have hz7 : w6.heap.size < w7.heap.size := (Array.getElem?_eq_some_iff.1 hqa).1;obtain ⟨mm1,mm2⟩ := Dr.mem_of hqa;have hB16 : B + 1 ≤ w6.heap.size := by have := HK5.out.size; have := hK6.size; have := HZ1.out; omega
     have hI7 := Tr.In.mono (S' := fun q => B + 1 ≤ q) (fun q hq => by have := HK5.out.size; have := HZ1.out; omega) _ _ (Tr.In.below hI6 hal6 (Nat.le_refl _));have hrow := Dr.two_in (Dr.leaf_in 6 0 [113,117,111,116,101] w7 (by omega) (by omega) (by simp)) hI7 mm1 mm2 hz7 hB16;have KL := Lib.hid (show Calls Tryz.prog 40 #[.slice (some ⟨w6.heap.size,0,none⟩) 2 2,.agg #[.int .i64 1,.int .i64 0,.bool false,.slice none 0 0,.slice none 0 0,.bool false,.slice none 0 0,.slice none 0 0,.string ⟨#[]⟩,.slice none 0 0,.slice none 0 0]] w7 _ from Dr.list_any _ Dr.nil _ _ w7 (fun q => B + 1 ≤ q) hrow (Dr.leaf_in 1 0 [] w7 (by omega) (by omega) (by simp)) (by simp));have HK7 := Lib.hid ((HK5.out.trans hK6).trans (Dr.Kept.of_below hal6));have HA7 := Lib.hid (hA6.below hal6);have HB7 := Lib.hid (show B + 1 ≤ w7.heap.size from by omega);clear hI6 hA6 hK6 et6 hal6 hqa hz7 mm1 mm2 hB16 hI7 hrow h4 H3 KD1;go_wp2_with fail;refine KL.out.mono ?_;rintro x w8 ⟨v',rfl,hI8,hb8⟩;have hI9 := Tr.In.mono (S' := fun q => B + 1 ≤ q) (fun q hq => by have := HB7.out; omega) _ _ hI8;have HK8 := Lib.hid (HK7.out.trans (Dr.Kept.of_below hb8));have HA8 := Lib.hid (HA7.out.below hb8);clear hI8 hb8 KL;obtain ⟨C8,rfl⟩ := Dr.in_agg hI9;obtain ⟨hv,lv,b3,b4,b6,b7,b9,b10,m3,m4,m6,m7,m9,m10,d3',d4,d6,d7,d9,d10,eC8,et8,_,_⟩ := Tr.In.form2 hI9;subst eC8;clear et8;unfold Tr.cells at *;have hbx8 := HBX.out _ (HK8.out)
     obtain ⟨Y1,Y2,Y3,Y4,Y5,Y6,Y7,Y8,Y9,Y10,Y11,⟨g0,z0,s0⟩,⟨g1,z1,s1'⟩,⟨g2,z2,s2'⟩,⟨g3,z3,s3'⟩,⟨g4,z4,s4'⟩,⟨g5,z5,s5'⟩,⟨g6,z6,s6'⟩,⟨g7,z7,s7'⟩,⟨g8,z8,s8'⟩,⟨g9,z9,s9'⟩,⟨g10,z10,s10'⟩,⟨r0,r1,r2',r3,r4,r5,r6,r7,r8,r9,r10⟩,HY⟩ := hbx8.put (.int .i64 hv.k) (.int .i64 hv.n) (.bool hv.s1) (.slice b3 m3 d3') (.slice b4 m4 d4) (.bool hv.s2) (.slice b6 m6 d6) (.slice b7 m7 d7) (.string hv.x) (.slice b9 m9 d9) (.slice b10 m10 d10);have HE := Lib.hid (HPUT.out _ _ _ _ hRg w8 HK8.out HA8.out hI9 Y11 HY.out.2.1 HY.out.2.2.1 HY.out.2.2.2);clear hbx8 HY HBX HPUT HDEAD hI9;go_wp2_with fail;refine bodyPost_ret (v := .agg #[.int .i64 hv.k,.int .i64 hv.n,.bool hv.s1,.slice b3 m3 d3',.slice b4 m4 d4,.bool hv.s2,.slice b6 m6 d6,.slice b7 m7 d7,.string hv.x,.slice b9 m9 d9,.slice b10 m10 d10]) (by simp [results,Tryz.results21,go_sem,r0,r1,r2',r3,r4,r5,r6,r7,r8,r9,r10]) rfl HE.out
   have c1 : (Dr.cp l == 40) = false := beq_eq_false_iff_ne.2 (by omega);have c2 : (Dr.cp l == 91) = false := beq_eq_false_iff_ne.2 (by omega);have c3 : (Dr.cp l == 34) = false := beq_eq_false_iff_ne.2 (by omega);have c4 : (Dr.cp l == 39) = false := beq_eq_false_iff_ne.2 (by omega);rw [if_neg h40,if_neg h34,if_neg h39] at heq;have hsub := hA.sub;rw [hp] at hsub;have KH := fun (p : ByteArray) (w' : World) => Tryz.strings_HasPrefix ⟨l.toArray⟩ p w';have HC2 := Lib.hid (fun (w' : World) (hb : Below w1.heap.size w1 w') => (show w'.cell? ⟨b,0,none⟩ = some (.string S) ∧ w'.cell? ⟨b,1,none⟩ = some (.int .i64 (p : Int)) from ⟨(HC.out w' hb).1,(HC.out w' hb).2.1⟩));clear HST HC hsum1 hsum2 hwp hwl hdl;have KH1 := Lib.hid (fun w' => KH ⟨#[35,40]⟩ w');have KH2 := Lib.hid (fun w' => KH ⟨#[35,118,117,56,40]⟩ w');have KH3 := Lib.hid (fun w' => KH ⟨#[35,92]⟩ w');simp only [Dr.hasP,List.length_cons,List.length_nil] at KH1 KH2 KH3;clear KH;have hlen : p + l.length = S.size := by omega
   by_cases k1 : l.take 2 = [35,40]
   · rw [if_pos k1] at heq;simp only [k1,decide_true] at KH1;have hl2 := Dr.take_two k1;have hlen2 : (l.drop 2).length = l.length - 2 := List.length_drop;have HST2 := Lib.hid (fun w1' (hb1 : Below w1.heap.size w1 w1') => Dr.setAt (hA.below hb1) hp hl2 2 rfl);have HII := HIH.out (.items 41 (l.drop 2)) (by show 2 * (l.drop 2).length + 1 < 2 * l.length; omega) b S g;have KI := Lib.hid (fun W R2 (hAt : Dr.At b S (l.drop 2) g W) (hKW : Dr.Kept b w1 W) h2 => HII W R2 hAt HS.out (HTK.out W hKW) h2 rfl);have HEQ := Lib.hid heq;clear heq h40 h34 h39 HII hl hb hAle hA hT1 HIH HNE HTK hp hl2 hlen2 k1 KH2 KH3 hlen;generalize l.drop 2 = ld at *;obtain ⟨c,hc⟩ : ∃ z,z = Dr.cp l := ⟨_,rfl⟩;obtain ⟨n,hn⟩ : ∃ z,z = Dr.wd l := ⟨_,rfl⟩;rw [← hc] at KP c1 c2 c3 c4;rw [← hn] at KP hnz;clear hc hn;go_enter Tryz.func21,Tryz.ntmps21;go_wp2_with fail;refine KP.mono ?_;rintro x w2 ⟨rfl,hb2⟩;have hbd : Below w1.heap.size w1 w2.drew := Below.drew hb2;go_wp2_with fail;have hkeep := HC2.out w2.drew hbd;go_region_held3 (fun w' => w'.cell? ⟨b,0,none⟩ = some (.string S) ∧ w'.cell? ⟨b,1,none⟩ = some (.int .i64 (p : Int)))
      (first | exact hkeep)
      (first
        | (go_at_call 35
           refine (KH1.out _).mono ?_
           rintro x w2' ⟨rfl,rfl⟩))
     obtain ⟨W,hW,hfz,hAt,hKW,hz⟩ := HST2.out w2.drew hbd;have HKW := Lib.hid ((Dr.Kept.of_below hbd).trans hKW);have KI1 := Lib.hid (fun R2 h2 => KI.out W R2 hAt HKW.out h2);obtain ⟨d0,d1⟩ := hkeep;clear HC2 HST2 KI hAt hKW hz hbd hb2 KP KH1;generalize w2.drew = w3 at *;go_wp2_with fail;obtain ⟨R1,h1⟩ := Dr.total (.items 41 ld);rcases Dr.its h1 with hR1 | ⟨ts,r2,big,hR1⟩
     · subst hR1;refine (KI1.out _ h1).mono ?_;rintro x w5 ⟨rfl,hK5⟩;have HE := Lib.hid (HDEAD.out (HR.out.det (.dVec1 HEQ.out h1)) w5 (HKW.out.trans hK5));clear HBX HPUT HDEAD h1 hK5 KI1 HR HEQ;unfold Dr.dead at *;go_wp2_with fail;exact ⟨rfl,HE.out⟩
     subst hR1;refine (KI1.out _ h1).mono ?_;rintro x w5 ⟨v,rfl,hI5,_,hA5,hK5⟩;have hRg := HR.out.det (.dVec2 HEQ.out h1);have HI5 := Lib.hid (Tr.LIn.mono (S' := fun q => B + 1 ≤ q) hI5 (fun q hq => by have := HKW.out.size; have := HZ1.out; omega));have HK5 := Lib.hid (HKW.out.trans hK5);have HA5 := Lib.hid hA5;obtain ⟨ad,cap,rfl,_,_⟩ := Tr.Sl.slice hI5;clear h1 hI5 hA5 hK5 KI1 HR HEQ;have hbx8 := HBX.out _ (HK5.out);obtain ⟨Y1,Y2,Y3,Y4,Y5,Y6,Y7,Y8,Y9,Y10,Y11,⟨g0,z0,s0⟩,⟨g1,z1,s1'⟩,⟨g2,z2,s2'⟩,⟨g3,z3,s3'⟩,⟨g4,z4,s4'⟩,⟨g5,z5,s5'⟩,⟨g6,z6,s6'⟩,⟨g7,z7,s7'⟩,⟨g8,z8,s8'⟩,⟨g9,z9,s9'⟩,⟨g10,z10,s10'⟩,⟨r0,r1,r2',r3,r4,r5,r6,r7,r8,r9,r10⟩,HY⟩ := hbx8.put (.int .i64 9) (.int .i64 0) (.bool false) (.slice none 0 0) (.slice none 0 0) (.bool false) (.slice none 0 0) (.slice none 0 0) (.string ⟨#[]⟩) (.slice none 0 0) (.slice ad ts.length cap);have HE := Lib.hid (HPUT.out _ _ _ _ hRg w5 HK5.out HA5.out (Dr.vec_in HI5.out) Y11 HY.out.2.1 HY.out.2.2.1 HY.out.2.2.2);clear hbx8 HY HBX HPUT HDEAD;go_wp2_with fail;refine bodyPost_ret (v := .agg #[.int .i64 9,.int .i64 0,.bool false,.slice none 0 0,.slice none 0 0,.bool false,.slice none 0 0,.slice none 0 0,.string ⟨#[]⟩,.slice none 0 0,.slice ad ts.length cap]) (by simp [results,Tryz.results21,go_sem,r0,r1,r2',r3,r4,r5,r6,r7,r8,r9,r10]) rfl HE.out
   rw [if_neg k1] at heq;simp only [k1,decide_false] at KH1;by_cases k2 : l.take 5 = [35,118,117,56,40]
   · rw [if_pos k2] at heq;simp only [k2,decide_true] at KH2;have hl5 : 5 ≤ l.length := by
      have := congrArg List.length k2;rw [List.length_take] at this;simp at this;omega
     have hlen2 : (l.drop 5).length = l.length - 5 := List.length_drop;have HST2 := Lib.hid (fun w1' (hb1 : Below w1.heap.size w1 w1') => Dr.setAt (hA.below hb1) hp hl5 5 rfl);have HII := HIH.out (.items 41 (l.drop 5)) (by show 2 * (l.drop 5).length + 1 < 2 * l.length; omega);have KI := Lib.hid (fun W R2 (hAt : Dr.At b S (l.drop 5) g W) (hKW : Dr.Kept b w1 W) h2 => Dr.bytes_any (l.drop 5) HII b S g W R2 hAt HS.out (HTK.out W hKW) h2);have HEQ := Lib.hid heq;clear heq h40 h34 h39 HII hl hb hAle hA hT1 HIH HNE HTK hp hl5 hlen2 k1 k2 KH3 hlen;generalize l.drop 5 = ld at *;obtain ⟨c,hc⟩ : ∃ z,z = Dr.cp l := ⟨_,rfl⟩;obtain ⟨n,hn⟩ : ∃ z,z = Dr.wd l := ⟨_,rfl⟩;rw [← hc] at KP c1 c2 c3 c4;rw [← hn] at KP hnz;clear hc hn;go_enter Tryz.func21,Tryz.ntmps21;go_wp2_with fail;refine KP.mono ?_;rintro x w2 ⟨rfl,hb2⟩;have hbd : Below w1.heap.size w1 w2.drew := Below.drew hb2;go_wp2_with fail;have hkeep := HC2.out w2.drew hbd;go_region_held3 (fun w' => w'.cell? ⟨b,0,none⟩ = some (.string S) ∧ w'.cell? ⟨b,1,none⟩ = some (.int .i64 (p : Int)))
      (first | exact hkeep)
      (first
        | (go_at_call 35
           refine (KH1.out _).mono ?_
           rintro x w2' ⟨rfl,rfl⟩))
     have hbd2 : Below w1.heap.size w1 w2.drew.drew := Below.drew hbd;go_wp2_with fail;have hkeep2 := HC2.out w2.drew.drew hbd2;go_region_held3 (fun w' => w'.cell? ⟨b,0,none⟩ = some (.string S) ∧ w'.cell? ⟨b,1,none⟩ = some (.int .i64 (p : Int)))
      (first | exact hkeep2)
      (first
        | (go_at_call 35
           refine (KH2.out _).mono ?_
           rintro x w2' ⟨rfl,rfl⟩))
     obtain ⟨W,hW,hfz,hAt,hKW,hz⟩ := HST2.out w2.drew.drew hbd2;have HKW := Lib.hid ((Dr.Kept.of_below hbd2).trans hKW);have KI1 := Lib.hid (fun R2 h2 => KI.out W R2 hAt HKW.out h2);obtain ⟨d0,d1⟩ := hkeep2;clear hkeep HC2 HST2 KI hAt hKW hz hbd hbd2 hb2 KP KH1 KH2;generalize w2.drew.drew = w3 at *;go_wp2_with fail;obtain ⟨R1,h1⟩ := Dr.total (.items 41 ld);rcases Dr.its h1 with hR1 | ⟨ts,r2,big,hR1⟩
     · subst hR1;refine (KI1.out _ h1).mono ?_;rintro x w5 ⟨rfl,hK5⟩;have HE := Lib.hid (HDEAD.out (HR.out.det (.dByt1 HEQ.out h1)) w5 (HKW.out.trans hK5));clear HBX HPUT HDEAD h1 hK5 KI1 HR HEQ;unfold Dr.dead at *;go_wp2_with fail;exact ⟨rfl,HE.out⟩
     subst hR1;have KI2 := KI1.out _ h1;cases hby : Dr.bytesOf ts with
     | none =>
       have hRf := HR.out.det (.dByt2 HEQ.out h1 hby);refine KI2.mono ?_;rintro x w5 hpost;obtain ⟨rfl,hK5⟩ := Dr.PostY.got_no hby hpost;have HE := Lib.hid (HDEAD.out hRf w5 (HKW.out.trans hK5));clear HBX HPUT HDEAD h1 hK5 KI1 HR HEQ hby hpost hRf KI2;unfold Dr.dead at *;go_wp2_with fail;exact ⟨rfl,HE.out⟩
     | some bs =>
       have hRg := HR.out.det (.dByt3 HEQ.out h1 hby);refine KI2.mono ?_;rintro x w5 hpost;obtain ⟨v,rfl,hI5,hA5,hK5⟩ := Dr.PostY.got_yes hby hpost;have hI6 := Tr.In.mono (S' := fun q => B + 1 ≤ q) (fun q hq => by have := HKW.out.size; have := HZ1.out; omega) _ _ hI5;have HK5 := Lib.hid (HKW.out.trans hK5);have HA5 := Lib.hid hA5;clear h1 hI5 hA5 hK5 KI1 HR HEQ hby hpost KI2;obtain ⟨C8,rfl⟩ := Dr.in_agg hI6;obtain ⟨hv,lv,b3,b4,b6,b7,b9,b10,m3,m4,m6,m7,m9,m10,d3',d4,d6,d7,d9,d10,eC8,et8,_,_⟩ := Tr.In.form2 hI6;subst eC8;clear et8;unfold Tr.cells at *;have hbx8 := HBX.out _ (HK5.out);obtain ⟨Y1,Y2,Y3,Y4,Y5,Y6,Y7,Y8,Y9,Y10,Y11,⟨g0,z0,s0⟩,⟨g1,z1,s1'⟩,⟨g2,z2,s2'⟩,⟨g3,z3,s3'⟩,⟨g4,z4,s4'⟩,⟨g5,z5,s5'⟩,⟨g6,z6,s6'⟩,⟨g7,z7,s7'⟩,⟨g8,z8,s8'⟩,⟨g9,z9,s9'⟩,⟨g10,z10,s10'⟩,⟨r0,r1,r2',r3,r4,r5,r6,r7,r8,r9,r10⟩,HY⟩ := hbx8.put (.int .i64 hv.k) (.int .i64 hv.n) (.bool hv.s1) (.slice b3 m3 d3') (.slice b4 m4 d4) (.bool hv.s2) (.slice b6 m6 d6) (.slice b7 m7 d7) (.string hv.x) (.slice b9 m9 d9) (.slice b10 m10 d10);have HE := Lib.hid (HPUT.out _ _ _ _ hRg w5 HK5.out HA5.out hI6 Y11 HY.out.2.1 HY.out.2.2.1 HY.out.2.2.2);clear hbx8 HY HBX HPUT HDEAD hI6;go_wp2_with fail
       refine bodyPost_ret (v := .agg #[.int .i64 hv.k,.int .i64 hv.n,.bool hv.s1,.slice b3 m3 d3',.slice b4 m4 d4,.bool hv.s2,.slice b6 m6 d6,.slice b7 m7 d7,.string hv.x,.slice b9 m9 d9,.slice b10 m10 d10]) (by simp [results,Tryz.results21,go_sem,r0,r1,r2',r3,r4,r5,r6,r7,r8,r9,r10]) rfl HE.out
   rw [if_neg k2] at heq;simp only [k2,decide_false] at KH2;by_cases k3 : l.take 2 = [35,92]
   · rw [if_pos k3] at heq;simp only [k3,decide_true] at KH3;have hl2 := Dr.take_two k3;have KC := Lib.hid (fun W (hAt : Dr.At b S l g W) (hKW : Dr.Kept b w1 W) => Dr.char_any b S g l W hAt HS.out hl2 (HTK.out W hKW));have HEQ := Lib.hid heq;have HAB := Lib.hid (fun W (hb : Below w1.heap.size w1 W) => hA.below hb);clear heq h40 h34 h39 hl hb hAle hA hT1 HIH HNE HTK hp hl2 k1 k2 k3 hlen;obtain ⟨c,hc⟩ : ∃ z,z = Dr.cp l := ⟨_,rfl⟩;obtain ⟨n,hn⟩ : ∃ z,z = Dr.wd l := ⟨_,rfl⟩;rw [← hc] at KP c1 c2 c3 c4;rw [← hn] at KP hnz;clear hc hn;go_enter Tryz.func21,Tryz.ntmps21;go_wp2_with fail;refine KP.mono ?_;rintro x w2 ⟨rfl,hb2⟩;have hbd : Below w1.heap.size w1 w2.drew := Below.drew hb2;go_wp2_with fail;have hkeep := HC2.out w2.drew hbd;go_region_held3 (fun w' => w'.cell? ⟨b,0,none⟩ = some (.string S) ∧ w'.cell? ⟨b,1,none⟩ = some (.int .i64 (p : Int)))
      (first | exact hkeep)
      (first
        | (go_at_call 35
           refine (KH1.out _).mono ?_
           rintro x w2' ⟨rfl,rfl⟩))
     have hbd2 : Below w1.heap.size w1 w2.drew.drew := Below.drew hbd;go_wp2_with fail;have hkeep2 := HC2.out w2.drew.drew hbd2;go_region_held3 (fun w' => w'.cell? ⟨b,0,none⟩ = some (.string S) ∧ w'.cell? ⟨b,1,none⟩ = some (.int .i64 (p : Int)))
      (first | exact hkeep2)
      (first
        | (go_at_call 35
           refine (KH2.out _).mono ?_
           rintro x w2' ⟨rfl,rfl⟩))
     have hbd3 : Below w1.heap.size w1 w2.drew.drew.drew := Below.drew hbd2;go_wp2_with fail;have hkeep3 := HC2.out w2.drew.drew.drew hbd3;go_region_held3 (fun w' => w'.cell? ⟨b,0,none⟩ = some (.string S) ∧ w'.cell? ⟨b,1,none⟩ = some (.int .i64 (p : Int)))
      (first | exact hkeep3)
      (first
        | (go_at_call 35
           refine (KH3.out _).mono ?_
           rintro x w2' ⟨rfl,rfl⟩))
     have KC1 := KC.out _ (HAB.out _ hbd3) (Dr.Kept.of_below hbd3);have HKW := Lib.hid (Dr.Kept.of_below (b := b) hbd3);clear hkeep hkeep2 hkeep3 HC2 KC hbd hbd2 hbd3 hb2 KP KH1 KH2 KH3 HAB;generalize w2.drew.drew.drew = w3 at *;cases hch : Dr.char (l.drop 2) with
     | none =>
       rw [hch] at KC1;have hRf := HR.out.det (.dFault (by rw [HEQ.out,hch]));clear hch HEQ;go_wp2_with fail;refine KC1.mono ?_;rintro x w5 ⟨rfl,hK5⟩;have HE := Lib.hid (HDEAD.out hRf w5 (HKW.out.trans hK5));clear HBX HPUT HDEAD hRf hK5 KC1 HR;unfold Dr.dead at *;go_wp2_with fail;exact ⟨rfl,HE.out⟩
     | some y =>
       obtain ⟨x,r⟩ := y;rw [hch] at KC1;have hRg := HR.out.det (.dDone (by rw [HEQ.out,hch]));have HXC := Lib.hid (Dr.char_range hch);clear hch HEQ;go_wp2_with fail;refine KC1.mono ?_;rintro y w5 ⟨rfl,hA5,hK5⟩;have HK5 := Lib.hid (HKW.out.trans hK5);have HA5 := Lib.hid hA5;clear KC1 HR hA5 hK5;unfold Dr.leafV;have hbx8 := HBX.out _ (HK5.out);obtain ⟨Y1,Y2,Y3,Y4,Y5,Y6,Y7,Y8,Y9,Y10,Y11,⟨g0,z0,s0⟩,⟨g1,z1,s1'⟩,⟨g2,z2,s2'⟩,⟨g3,z3,s3'⟩,⟨g4,z4,s4'⟩,⟨g5,z5,s5'⟩,⟨g6,z6,s6'⟩,⟨g7,z7,s7'⟩,⟨g8,z8,s8'⟩,⟨g9,z9,s9'⟩,⟨g10,z10,s10'⟩,⟨r0,r1,r2',r3,r4,r5,r6,r7,r8,r9,r10⟩,HY⟩ := hbx8.put (.int .i64 4) (.int .i64 x) (.bool false) (.slice none 0 0) (.slice none 0 0) (.bool false) (.slice none 0 0) (.slice none 0 0) (.string ⟨#[]⟩) (.slice none 0 0) (.slice none 0 0);have HE := Lib.hid (HPUT.out _ _ _ (Dr.leafV 4 x []) hRg w5 HK5.out (by rw [Bool.or_false]; exact HA5.out) (Dr.leaf_in 4 x [] w5 (by omega) (by have := HXC.out; omega) (by simp)) Y11 HY.out.2.1 HY.out.2.2.1 HY.out.2.2.2);clear hbx8 HY HBX HPUT HDEAD;go_wp2_with fail;refine bodyPost_ret (v := .agg #[.int .i64 4,.int .i64 x,.bool false,.slice none 0 0,.slice none 0 0,.bool false,.slice none 0 0,.slice none 0 0,.string ⟨#[]⟩,.slice none 0 0,.slice none 0 0]) (by simp [results,Tryz.results21,go_sem,r0,r1,r2',r3,r4,r5,r6,r7,r8,r9,r10]) rfl HE.out
   rw [if_neg k3] at heq;simp only [k3,decide_false] at KH3;have KT := Lib.hid (fun W (hAt : Dr.At b S l g W) (hKW : Dr.Kept b w1 W) => Dr.token_any b S g l W hAt HS2.out (HTK.out W hKW));have KA := Lib.hid (fun r W (hAt : Dr.At b S r g W) (hKW : Dr.Kept b w1 W) (ht : (Dr.upto l r).length ≤ 1048576) => Dr.atom_any b S g r ⟨(Dr.upto l r).toArray⟩ W hAt (by show (Dr.upto l r).toArray.size ≤ _; simpa using ht) (HTK.out W hKW));have HEQ := Lib.hid heq;have HAB := Lib.hid (fun W (hb : Below w1.heap.size w1 W) => hA.below hb);have HLS := Lib.hid (show l.length ≤ 1048576 from Nat.le_trans hAle HS.out);clear heq h40 h34 h39 hl hb hAle hA hT1 HIH HNE HTK hp k1 k2 k3 hlen;obtain ⟨c,hc⟩ : ∃ z,z = Dr.cp l := ⟨_,rfl⟩;obtain ⟨n,hn⟩ : ∃ z,z = Dr.wd l := ⟨_,rfl⟩;rw [← hc] at KP c1 c2 c3 c4;rw [← hn] at KP hnz;clear hc hn;go_enter Tryz.func21,Tryz.ntmps21;go_wp2_with fail;refine KP.mono ?_;rintro x w2 ⟨rfl,hb2⟩;have hbd : Below w1.heap.size w1 w2.drew := Below.drew hb2;go_wp2_with fail;have hkeep := HC2.out w2.drew hbd;go_region_held3 (fun w' => w'.cell? ⟨b,0,none⟩ = some (.string S) ∧ w'.cell? ⟨b,1,none⟩ = some (.int .i64 (p : Int)))
    (first | exact hkeep)
    (first
      | (go_at_call 35
         refine (KH1.out _).mono ?_
         rintro x w2' ⟨rfl,rfl⟩))
   have hbd2 : Below w1.heap.size w1 w2.drew.drew := Below.drew hbd;go_wp2_with fail;have hkeep2 := HC2.out w2.drew.drew hbd2;go_region_held3 (fun w' => w'.cell? ⟨b,0,none⟩ = some (.string S) ∧ w'.cell? ⟨b,1,none⟩ = some (.int .i64 (p : Int)))
    (first | exact hkeep2)
    (first
      | (go_at_call 35
         refine (KH2.out _).mono ?_
         rintro x w2' ⟨rfl,rfl⟩))
   have hbd3 : Below w1.heap.size w1 w2.drew.drew.drew := Below.drew hbd2;go_wp2_with fail;have hkeep3 := HC2.out w2.drew.drew.drew hbd3;go_region_held3 (fun w' => w'.cell? ⟨b,0,none⟩ = some (.string S) ∧ w'.cell? ⟨b,1,none⟩ = some (.int .i64 (p : Int)))
    (first | exact hkeep3)
    (first
      | (go_at_call 35
         refine (KH3.out _).mono ?_
         rintro x w2' ⟨rfl,rfl⟩))
   have KT1 := KT.out _ (HAB.out _ hbd3) (Dr.Kept.of_below hbd3);have HKW := Lib.hid (Dr.Kept.of_below (b := b) hbd3);clear hkeep hkeep2 hkeep3 HC2 KT hbd hbd2 hbd3 hb2 KP KH1 KH2 KH3 HAB;generalize w2.drew.drew.drew = w3 at *;cases htk : Dr.token l with
   | none =>
     rw [htk] at KT1;have hRf := HR.out.det (.dFault (by rw [HEQ.out,htk]));clear htk HEQ KA;go_wp2_with fail;refine KT1.mono ?_;rintro x w5 ⟨rfl,hK5⟩;have HE := Lib.hid (HDEAD.out hRf w5 (HKW.out.trans hK5));clear HBX HPUT HDEAD hRf hK5 KT1 HR;unfold Dr.dead at *;go_wp2_with fail;exact ⟨rfl,HE.out⟩
   | some r =>
     rw [htk] at KT1;have HTK := Lib.hid htk;have HUL := Lib.hid (show (Dr.upto l r).length ≤ 1048576 from by
       have := HLS.out;unfold Dr.upto
       rw [List.length_take]; omega)
     clear htk;go_wp2_with fail;refine KT1.mono ?_;rintro x w5 ⟨rfl,hA5,hK5⟩;have HK5 := Lib.hid (HKW.out.trans hK5);have KA1 := KA.out r w5 hA5 HK5.out HUL.out;clear KT1 KA hA5 hK5;cases hat : Dr.atom (Dr.upto l r) with
     | none =>
       have hRf := HR.out.det (.dFault (by rw [HEQ.out,HTK.out]; show (match Dr.atom (Dr.upto l r) with | none => Dr.Dk.fault | some x => .done x.1 r x.2) = _; rw [hat]));have KA2 : Calls Tryz.prog 44 #[.pointer (some ⟨b,0,none⟩),.string ⟨(Dr.upto l r).toArray⟩] w5 fun e w' => Dr.PostA b S r g w5 none e w' := by rw [← hat]; exact KA1
       clear hat HEQ KA1 HTK;go_wp2_with fail;refine KA2.mono ?_;rintro x w6 ⟨rfl,hK6⟩;have HE := Lib.hid (HDEAD.out hRf w6 (HK5.out.trans hK6));clear HBX HPUT HDEAD hRf hK6 KA2 HR;unfold Dr.dead at *;go_wp2_with fail;exact ⟨rfl,HE.out⟩
     | some y =>
       obtain ⟨t,big⟩ := y;have hRg := HR.out.det (.dDone (t := t) (r := r) (big := big) (by rw [HEQ.out,HTK.out]; show (match Dr.atom (Dr.upto l r) with | none => Dr.Dk.fault | some x => .done x.1 r x.2) = _; rw [hat]));have KA2 : Calls Tryz.prog 44 #[.pointer (some ⟨b,0,none⟩),.string ⟨(Dr.upto l r).toArray⟩] w5 fun e w' => Dr.PostA b S r g w5 (some (t,big)) e w' := by rw [← hat]; exact KA1
       clear hat HEQ KA1 HTK;go_wp2_with fail;refine KA2.mono ?_;rintro x w6 ⟨v,rfl,hI6,hA6,hK6⟩;have hI7 := Tr.In.mono (S' := fun q => B + 1 ≤ q) (fun q hq => by have := HK5.out.size; have := HZ1.out; omega) _ _ hI6;have HK6 := Lib.hid (HK5.out.trans hK6);have HA6 := Lib.hid hA6;clear hI6 hA6 hK6 KA2 HR;obtain ⟨C8,rfl⟩ := Dr.in_agg hI7;obtain ⟨hv,lv,b3,b4,b6,b7,b9,b10,m3,m4,m6,m7,m9,m10,d3',d4,d6,d7,d9,d10,eC8,et8,_,_⟩ := Tr.In.form2 hI7;subst eC8;clear et8;unfold Tr.cells at *;have hbx8 := HBX.out _ (HK6.out);obtain ⟨Y1,Y2,Y3,Y4,Y5,Y6,Y7,Y8,Y9,Y10,Y11,⟨g0,z0,s0⟩,⟨g1,z1,s1'⟩,⟨g2,z2,s2'⟩,⟨g3,z3,s3'⟩,⟨g4,z4,s4'⟩,⟨g5,z5,s5'⟩,⟨g6,z6,s6'⟩,⟨g7,z7,s7'⟩,⟨g8,z8,s8'⟩,⟨g9,z9,s9'⟩,⟨g10,z10,s10'⟩,⟨r0,r1,r2',r3,r4,r5,r6,r7,r8,r9,r10⟩,HY⟩ := hbx8.put (.int .i64 hv.k) (.int .i64 hv.n) (.bool hv.s1) (.slice b3 m3 d3') (.slice b4 m4 d4) (.bool hv.s2) (.slice b6 m6 d6) (.slice b7 m7 d7) (.string hv.x) (.slice b9 m9 d9) (.slice b10 m10 d10);have HE := Lib.hid (HPUT.out _ _ _ _ hRg w6 HK6.out HA6.out hI7 Y11 HY.out.2.1 HY.out.2.2.1 HY.out.2.2.2);clear hbx8 HY HBX HPUT HDEAD hI7;go_wp2_with fail
       refine bodyPost_ret (v := .agg #[.int .i64 hv.k,.int .i64 hv.n,.bool hv.s1,.slice b3 m3 d3',.slice b4 m4 d4,.bool hv.s2,.slice b6 m6 d6,.slice b7 m7 d7,.string hv.x,.slice b9 m9 d9,.slice b10 m10 d10]) (by simp [results,Tryz.results21,go_sem,r0,r1,r2',r3,r4,r5,r6,r7,r8,r9,r10]) rfl HE.out
end Go.Proofs.YteklhapffplohaaGreatDoor
