/-
  The reader's character.
-/
import Derived.Test.YteklhapffplohaaGreatDoorVu
import Derived.Test.YteklhapffplohaaGreatDoorVa
set_option linter.unusedVariables false
set_option linter.unusedSimpArgs false
namespace Go.Proofs.YteklhapffplohaaGreatDoor
open Go.RowKit
def Dr.PostH (b : Nat) (S : ByteArray) (g : Bool) (w : World) (R : Option (Int × List UInt8)) (e : Ending) (w' : World) : Prop :=
 match R with
 | none => e = Dr.dead ∧ Dr.Kept b w w'
 | some (c,r) => e = .returned (Dr.leafV 4 c []) ∧ Dr.At b S r g w' ∧ Dr.Kept b w w'
theorem Dr.named_some {name : List UInt8} {k : Nat} (hk : k < 128) (h : Wt.name (k : Int) = name) (hb : ∀ j,j < k → ¬ Wt.name (j : Int) = name) : Dr.named name = some (k : Int) := by
 unfold Dr.named;rw [show (List.range 128).find? (fun (n : Nat) => decide (Wt.name ((n : Nat) : Int) = name)) = some k from ?_]
 · rfl
 · rw [List.find?_range_eq_some];refine ⟨by simpa using h,by simpa using hk,fun j hj => by simpa using hb j hj⟩
theorem Dr.named_none {name : List UInt8} (hb : ∀ j : Nat,j < 128 → ¬ Wt.name (j : Int) = name) : Dr.named name = none := by
 unfold Dr.named;rw [show (List.range 128).find? (fun (n : Nat) => decide (Wt.name ((n : Nat) : Int) = name)) = none from ?_]
 · rfl
 · rw [List.find?_eq_none];intro j hj;simpa using hb j (List.mem_range.1 hj)
theorem Dr.hex_char {l : List UInt8} {d : Int} (h : Dr.hex l = some d) : 0 ≤ d ∧ d ≤ 1114111 := by
 unfold Dr.hex at h;split at h
 · rename_i hc;simp only [Bool.and_eq_true] at hc;have h2 := hc.2;simp only [Option.some.injEq] at h;rw [h] at h2;unfold Tr.isChar at h2;simp at h2;omega
 · cases h
theorem Dr.enc_len (r : Int) : 1 ≤ (Lib.encodeRune r).length ∧ (Lib.encodeRune r).length ≤ 4 := by
 rw [show (Lib.encodeRune r).length = (Lib.encodeRuneZ r).length by simp [Lib.encodeRune]];exact Lib.encodeRuneZ_length r
set_option maxHeartbeats 8000000
set_option maxRecDepth 1000000
theorem Dr.char_any (b : Nat) (S : ByteArray) (g : Bool) (l0 : List UInt8) (w : World) (h : Dr.At b S l0 g w) (hs : S.size ≤ 1048576) (h2 : 2 ≤ l0.length) (hT : Dr.Tabs w) :
 Calls Tryz.prog 43 #[.pointer (some ⟨b,0,none⟩)] w fun e w' => Dr.PostH b S g w (Dr.char (l0.drop 2)) e w' := by
 obtain ⟨l,hl⟩ : ∃ z,l0.drop 2 = z := ⟨_,rfl⟩
 rw [hl]
 obtain ⟨R,hR⟩ : ∃ z,Dr.char l = z := ⟨_,rfl⟩
 rw [hR]
 unfold Dr.char at hR
 have HR := Lib.hid hR
 obtain ⟨B,hB⟩ : ∃ z,w.heap.size = z := ⟨_,rfl⟩
 have hal : Below w.heap.size w (w.alloc (.cells #[.int .i64 0,.int .i64 0,.bool false,.slice none 0 0,.slice none 0 0,.bool false,.slice none 0 0,.slice none 0 0,.string ⟨#[]⟩,.slice none 0 0,.slice none 0 0] 30)) := (Below.refl _ _).alloc (Nat.le_refl _) _
 have hq1 := heap_alloc_new w (.cells #[.int .i64 0,.int .i64 0,.bool false,.slice none 0 0,.slice none 0 0,.bool false,.slice none 0 0,.slice none 0 0,.string ⟨#[]⟩,.slice none 0 0,.slice none 0 0] 30)
 obtain ⟨w1,hw1⟩ : ∃ z,w.alloc (.cells #[.int .i64 0,.int .i64 0,.bool false,.slice none 0 0,.slice none 0 0,.bool false,.slice none 0 0,.slice none 0 0,.string ⟨#[]⟩,.slice none 0 0,.slice none 0 0] 30) = z := ⟨_,rfl⟩
 rw [hw1] at hal hq1
 have hbB : B ≠ b := by have := h.lt; omega
 have hbx1 : Dr.Box0 w.heap.size w1 := hq1
 have hA1 := h.below hal
 have hK1 : Dr.Kept b w w1 := Dr.Kept.of_below hal
 have HNE := Lib.hid (And.intro hT (h.tabs_ne hT))
 obtain ⟨c0,c1,c2⟩ := hA1.cells
 have hle := h.le
 obtain ⟨p,hp⟩ : ∃ z,S.size - l0.length = z := ⟨_,rfl⟩
 obtain ⟨w2,e2,f2,hA2,hK2,hz2⟩ := Dr.setAt hA1 hp h2 2 rfl
 rw [hl] at hA2
 rw [hp] at c1
 have hp2 : (p : Int) + 2 ≤ 9223372036854775807 := by omega
 have hw2 : IntKind.i64.wrap ((p : Int) + 2) = (p : Int) + 2 := by rw [IntKind.wrap_i64]; omega
 rw [hB] at hbx1
 have HBX := Lib.hid (fun (w' : World) (hk : Dr.Kept b w2 w') => show Dr.Box0 B w' ∧ Dr.Kept b w w' ∧ Dr.Tabs w' from
   ⟨hbx1.kept (hK2.trans hk) hbB,(hK1.trans hK2).trans hk,Dr.tabs_kept HNE.out.1 HNE.out.2.1 HNE.out.2.2 ((hK1.trans hK2).trans hk)⟩)
 have HDEAD := Lib.hid (fun (hr : R = none) (w' : World) (hk : Dr.Kept b w2 w') => show Dr.PostH b S g w R Dr.dead w' from by rw [hr]; exact ⟨rfl,(hK1.trans hK2).trans hk⟩)
 have HPUT := Lib.hid (fun (c : Int) (r : List UInt8) (hr : R = some (c,r)) (w' : World) (hk : Dr.Kept b w w') (hA : Dr.At b S r g w') (W : World) (hz : W.heap.size = w'.heap.size) (ho : ∀ q,q ≠ B → W.heap[q]? = w'.heap[q]?) (hw : ∀ (K : Nat) (z : World),Below K z w' → K ≤ B → Below K z W) => show Dr.PostH b S g w R (.returned (Dr.leafV 4 c [])) W from by
   rw [hr]; exact ⟨rfl,hA.put hbB.symm ho,hk.put (Nat.le_of_eq hB) hz hw⟩)
 have hT2 := (HBX.out w2 (Dr.Kept.refl _ _)).2.2
 have HA2 := Lib.hid hA2
 have HOPT : S.size ≤ 9223372036854775807 := by omega
 clear hR hal hq1 hbx1 hA1 hK1 hK2 hz2 hT h hp hl hle h2
 cases hn : Dr.next l with
 | none =>
   have KN := Lib.hid (Dr.next_none b S l g w2 hA2 hn hT2)
   have hr : R = none := by rw [← HR.out,hn]
   have HE0 := Lib.hid (fun (w' : World) (hb : Below w2.heap.size w2 w') => HDEAD.out hr w' (Dr.Kept.of_below hb))
   clear hA2 hT2 hn hr HDEAD HPUT HBX
   go_enter Tryz.func43,Tryz.ntmps43
   go_wp2_with fail
   refine KN.out.mono ?_
   rintro x w3 ⟨rfl,hb3⟩
   have HE := Lib.hid (HE0.out w3 hb3)
   clear HE0 hb3
   unfold Dr.dead at *
   go_wp2_with fail
   exact ⟨rfl,HE.out⟩
 | some x =>
   obtain ⟨c,r⟩ := x
   have KN := Lib.hid (Dr.next_ok b S l g c r w2 hA2 HOPT hn hT2)
   have hc := Dr.next_ok32 hn
   have KD := Lib.hid (fun w' => Dr.delim_any c hc w')
   have hEl := Dr.enc_len c
   have henc : Utf8.encode c = ⟨(Lib.encodeRune c).toArray⟩ := Sl.encode_eq _
   obtain ⟨E,hE⟩ : ∃ z,Lib.encodeRune c = z := ⟨_,rfl⟩
   rw [hE] at henc hEl
   have hwc : IntKind.i64.wrap c = c := by unfold Ru.okR at hc; rw [IntKind.wrap_i64]; omega
   have hs1 : (9223372036854775807 < E.length) = False := eq_false (by omega)
   cases hd : Dr.delim c with
   | true =>
     have hr : R = if r = [] then some (c,r) else if Dr.bad r = true then none else if Dr.delim (Dr.cp r) = true then some (c,r) else none := by
      rw [← HR.out,hn]; simp only [hd,if_true]
     rw [hd] at KD
     by_cases hr0 : r = []
     · subst hr0;rw [if_pos rfl] at hr;go_enter Tryz.func43,Tryz.ntmps43;go_wp2_with fail;refine KN.out.mono ?_;rintro x w3 ⟨rfl,hA3,hK3⟩;go_wp2_with fail;refine (KD.out w3).mono ?_;rintro x w4 ⟨rfl,hb4⟩;have hA4 := hA3.below hb4;have hK4 := hK3.trans (Dr.Kept.of_below hb4);have hT4 := (HBX.out w4 hK4).2.2;have KP := Lib.hid (Dr.peek_end b S g w4 hA4);go_wp2_with fail;refine KP.out.mono ?_;rintro x w5 ⟨rfl,hb5⟩;have hA5 := hA4.below hb5;have hK5 := hK4.trans (Dr.Kept.of_below hb5);obtain ⟨hbx,hkw,hTx⟩ := HBX.out w5 hK5;obtain ⟨Y1,Y2,Y3,Y4,Y5,Y6,Y7,Y8,Y9,Y10,Y11,⟨g0,z0,s0⟩,⟨g1,z1,s1'⟩,⟨g2,z2,s2'⟩,⟨g3,z3,s3'⟩,⟨g4,z4,s4'⟩,⟨g5,z5,s5'⟩,⟨g6,z6,s6'⟩,⟨g7,z7,s7'⟩,⟨g8,z8,s8'⟩,⟨g9,z9,s9'⟩,⟨g10,z10,s10'⟩,⟨r0,r1,r2',r3,r4,r5,r6,r7,r8,r9,r10⟩,HY⟩ := hbx.put (.int .i64 4) (.int .i64 (c)) (.bool false) (.slice none 0 0) (.slice none 0 0) (.bool false) (.slice none 0 0) (.slice none 0 0) (.string ⟨#[]⟩) (.slice none 0 0) (.slice none 0 0);have HE := Lib.hid (HPUT.out (c) [] hr w5 hkw hA5 Y11 HY.out.2.1 HY.out.2.2.1 HY.out.2.2.2);clear hA3 hK3 hb4 hA4 hK4 hT4 KN KD hA2 hT2 hn hr hd hE hb5 hA5 hK5 KP hbx hkw hTx HBX HPUT HDEAD;go_wp2_with fail;refine bodyPost_ret (v := Dr.leafV 4 (c) []) (by simp [results,Tryz.results43,go_sem,r0,r1,r2',r3,r4,r5,r6,r7,r8,r9,r10,Dr.leafV]) rfl HE.out
     · rw [if_neg hr0] at hr;cases hbad : Dr.bad r with
       | true =>
         rw [hbad,if_pos rfl] at hr;go_enter Tryz.func43,Tryz.ntmps43;go_wp2_with fail;refine KN.out.mono ?_;rintro x w3 ⟨rfl,hA3,hK3⟩;go_wp2_with fail;refine (KD.out w3).mono ?_;rintro x w4 ⟨rfl,hb4⟩;have hA4 := hA3.below hb4;have hK4 := hK3.trans (Dr.Kept.of_below hb4);have hT4 := (HBX.out w4 hK4).2.2;have KP := Lib.hid (Dr.peek_bad b S r g w4 hA4 hr0 hbad hT4);go_wp2_with fail;refine KP.out.mono ?_;rintro x w5 ⟨rfl,hb5⟩;have HE := Lib.hid (HDEAD.out hr w5 (hK4.trans (Dr.Kept.of_below hb5)));clear hA3 hK3 hb4 hA4 hK4 hT4 KN KD hA2 hT2 hn hr hd hE hb5 KP HBX HPUT HDEAD;unfold Dr.dead at *;go_wp2_with fail;exact ⟨rfl,HE.out⟩
       | false =>
         rw [hbad,if_neg (by simp)] at hr;have hcr : Ru.okR (Dr.cp r) := Ru.decode_ok r hr0;have hwd : 0 < ((Dr.wd r : Nat) : Int) := by have := Dr.wd_pos hr0; omega
         have hwd2 : Dr.wd r ≠ 0 := by have := Dr.wd_pos hr0; omega
         have hwd3 : 0 < Dr.wd r := Dr.wd_pos hr0;have KD2 := Lib.hid (fun w' => Dr.delim_any (Dr.cp r) hcr w');cases hd2 : Dr.delim (Dr.cp r) with
         | true =>
           rw [hd2,if_pos rfl] at hr;rw [hd2] at KD2;go_enter Tryz.func43,Tryz.ntmps43;go_wp2_with fail;refine KN.out.mono ?_;rintro x w3 ⟨rfl,hA3,hK3⟩;go_wp2_with fail;refine (KD.out w3).mono ?_;rintro x w4 ⟨rfl,hb4⟩;have hA4 := hA3.below hb4;have hK4 := hK3.trans (Dr.Kept.of_below hb4);have hT4 := (HBX.out w4 hK4).2.2;have KP := Lib.hid (Dr.peek_ok b S r g w4 hA4 hr0 hbad hT4);go_wp2_with fail;refine KP.out.mono ?_;rintro x w5 ⟨rfl,hb5⟩;have hA5 := hA4.below hb5;have hK5 := hK4.trans (Dr.Kept.of_below hb5);generalize Dr.cp r = cr at *;generalize Dr.wd r = wr at *;go_wp2_with fail;refine (KD2.out w5).mono ?_;rintro x w6 ⟨rfl,hb6⟩;have hA6 := hA5.below hb6;have hK6 := hK5.trans (Dr.Kept.of_below hb6);obtain ⟨hbx,hkw,hTx⟩ := HBX.out w6 hK6;obtain ⟨Y1,Y2,Y3,Y4,Y5,Y6,Y7,Y8,Y9,Y10,Y11,⟨g0,z0,s0⟩,⟨g1,z1,s1'⟩,⟨g2,z2,s2'⟩,⟨g3,z3,s3'⟩,⟨g4,z4,s4'⟩,⟨g5,z5,s5'⟩,⟨g6,z6,s6'⟩,⟨g7,z7,s7'⟩,⟨g8,z8,s8'⟩,⟨g9,z9,s9'⟩,⟨g10,z10,s10'⟩,⟨r0,r1,r2',r3,r4,r5,r6,r7,r8,r9,r10⟩,HY⟩ := hbx.put (.int .i64 4) (.int .i64 (c)) (.bool false) (.slice none 0 0) (.slice none 0 0) (.bool false) (.slice none 0 0) (.slice none 0 0) (.string ⟨#[]⟩) (.slice none 0 0) (.slice none 0 0);have HE := Lib.hid (HPUT.out (c) r hr w6 hkw hA6 Y11 HY.out.2.1 HY.out.2.2.1 HY.out.2.2.2);clear hA3 hK3 hb4 hA4 hK4 hT4 KN KD hA2 hT2 hn hr hd hE hb5 hA5 hK5 hb6 hA6 hK6 KP KD2 hbx hkw hTx HBX HPUT HDEAD
           go_wp2_with fail;refine bodyPost_ret (v := Dr.leafV 4 (c) []) (by simp [results,Tryz.results43,go_sem,r0,r1,r2',r3,r4,r5,r6,r7,r8,r9,r10,Dr.leafV]) rfl HE.out
         | false =>
           rw [hd2,if_neg (by simp)] at hr;rw [hd2] at KD2;go_enter Tryz.func43,Tryz.ntmps43;go_wp2_with fail;refine KN.out.mono ?_;rintro x w3 ⟨rfl,hA3,hK3⟩;go_wp2_with fail;refine (KD.out w3).mono ?_;rintro x w4 ⟨rfl,hb4⟩;have hA4 := hA3.below hb4;have hK4 := hK3.trans (Dr.Kept.of_below hb4);have hT4 := (HBX.out w4 hK4).2.2;have KP := Lib.hid (Dr.peek_ok b S r g w4 hA4 hr0 hbad hT4);go_wp2_with fail;refine KP.out.mono ?_;rintro x w5 ⟨rfl,hb5⟩;have hA5 := hA4.below hb5;have hK5 := hK4.trans (Dr.Kept.of_below hb5);generalize Dr.cp r = cr at *;generalize Dr.wd r = wr at *;go_wp2_with fail;refine (KD2.out w5).mono ?_;rintro x w6 ⟨rfl,hb6⟩;have hA6 := hA5.below hb6;have hK6 := hK5.trans (Dr.Kept.of_below hb6);have KS := Lib.hid (fun v => Dr.stop_any v w6);have HE := Lib.hid (HDEAD.out hr w6 hK6);clear hA3 hK3 hb4 hA4 hK4 hT4 KN KD hA2 hT2 hn hr hd hE hb5 hA5 hK5 hb6 hA6 hK6 KP KD2 HBX HPUT HDEAD;go_wp2_with fail;refine (KS.out _).mono ?_;rintro x w7 ⟨rfl,rfl⟩;unfold Dr.dead at *;go_wp2_with fail;exact ⟨rfl,HE.out⟩
   | false =>
     have hr : R = match Dr.token r with
      | none => none
      | some r2 =>
        if Dr.upto r r2 = [] then some (c,r2)
        else if E ++ Dr.upto r r2 = [108,105,110,101,102,101,101,100] then some (10,r2)
        else match Dr.named (E ++ Dr.upto r r2) with
         | some n => some (n,r2)
         | none => if c = 120 then (Dr.hex (Dr.upto r r2)).map fun n => (n,r2) else none := by
      rw [← HR.out,hn]; simp only [hd,hE]; rfl
     rw [hd] at KD
     have KT := Lib.hid (fun (w' : World) (hA : Dr.At b S r g w') (hT' : Dr.Tabs w') => Dr.token_any b S g r w' hA HOPT hT')
     cases ht : Dr.token r with
     | none =>
       rw [ht] at hr KT
       go_enter Tryz.func43,Tryz.ntmps43
       go_wp2_with fail
       refine KN.out.mono ?_
       rintro x w3 ⟨rfl,hA3,hK3⟩
       go_wp2_with fail
       refine (KD.out w3).mono ?_
       rintro x w4 ⟨rfl,hb4⟩
       have hA4 := hA3.below hb4
       have hK4 := hK3.trans (Dr.Kept.of_below hb4)
       have hT4 := (HBX.out w4 hK4).2.2
       have KT4 := Lib.hid (show Calls Tryz.prog 45 #[.pointer (some ⟨b,0,none⟩)] w4 (fun e w' => e = Dr.dead ∧ Dr.Kept b w4 w') from KT.out w4 hA4 hT4)
       go_wp2_with fail
       refine KT4.out.mono ?_
       rintro x w5 ⟨rfl,hk5⟩
       have HE := Lib.hid (HDEAD.out hr w5 (hK4.trans hk5))
       clear hA3 hK3 hb4 hA4 hK4 hT4 KN KD hA2 hT2 hn hr hd hE KT KT4 hk5 HBX HPUT HDEAD ht
       unfold Dr.dead at *
       go_wp2_with fail
       exact ⟨rfl,HE.out⟩
     | some r2 =>
       rw [ht] at hr KT
       obtain ⟨X,hX⟩ : ∃ z,Dr.upto r r2 = z := ⟨_,rfl⟩
       have hXl : X.length ≤ 1048576 := by
        have h1 := hA2.le;have h2 := Dr.next_lt hn;rw [← hX];unfold Dr.upto;rw [List.length_take];omega
       have hr1 : R = if X = [] then some (c,r2)
        else if E ++ X = [108,105,110,101,102,101,101,100] then some (10,r2)
        else match Dr.named (E ++ X) with
         | some n => some (n,r2)
         | none => if c = 120 then (Dr.hex X).map fun n => (n,r2) else none := by rw [hr,← hX]
       have KT2 := Lib.hid (fun (w' : World) (hA : Dr.At b S r g w') (hT' : Dr.Tabs w') => show Calls Tryz.prog 45 #[.pointer (some ⟨b,0,none⟩)] w' (fun e w'' => e = .returned (.string ⟨X.toArray⟩) ∧ Dr.At b S r2 g w'' ∧ Dr.Kept b w' w'') from by
         have := KT.out w' hA hT';rw [← hX]
         exact this)
       have hs2 : (9223372036854775807 < E.length + X.length) = False := eq_false (by omega)
       clear hr KT hX
       by_cases hX0 : X = []
       · subst hX0;rw [if_pos rfl] at hr1;go_enter Tryz.func43,Tryz.ntmps43;go_wp2_with fail;refine KN.out.mono ?_;rintro x w3 ⟨rfl,hA3,hK3⟩;go_wp2_with fail;refine (KD.out w3).mono ?_;rintro x w4 ⟨rfl,hb4⟩;have hA4 := hA3.below hb4;have hK4 := hK3.trans (Dr.Kept.of_below hb4);have hT4 := (HBX.out w4 hK4).2.2;have KT4 := Lib.hid (KT2.out w4 hA4 hT4);go_wp2_with fail;refine KT4.out.mono ?_;rintro x w5 ⟨rfl,hA5,hk5⟩;have hK5 := hK4.trans hk5;obtain ⟨hbx,hkw,hTx⟩ := HBX.out w5 hK5;obtain ⟨Y1,Y2,Y3,Y4,Y5,Y6,Y7,Y8,Y9,Y10,Y11,⟨g0,z0,s0⟩,⟨g1,z1,s1'⟩,⟨g2,z2,s2'⟩,⟨g3,z3,s3'⟩,⟨g4,z4,s4'⟩,⟨g5,z5,s5'⟩,⟨g6,z6,s6'⟩,⟨g7,z7,s7'⟩,⟨g8,z8,s8'⟩,⟨g9,z9,s9'⟩,⟨g10,z10,s10'⟩,⟨r0,r1,r2',r3,r4,r5,r6,r7,r8,r9,r10⟩,HY⟩ := hbx.put (.int .i64 4) (.int .i64 (c)) (.bool false) (.slice none 0 0) (.slice none 0 0) (.bool false) (.slice none 0 0) (.slice none 0 0) (.string ⟨#[]⟩) (.slice none 0 0) (.slice none 0 0);have HE := Lib.hid (HPUT.out (c) r2 hr1 w5 hkw hA5 Y11 HY.out.2.1 HY.out.2.2.1 HY.out.2.2.2);clear hA3 hK3 hb4 hA4 hK4 hT4 KN KD hA2 hT2 hn hd hE hA5 hk5 hK5 KT2 KT4 hr1 ht hbx hkw hTx HBX HPUT HDEAD;go_wp2_with fail;refine bodyPost_ret (v := Dr.leafV 4 (c) []) (by simp [results,Tryz.results43,go_sem,r0,r1,r2',r3,r4,r5,r6,r7,r8,r9,r10,Dr.leafV]) rfl HE.out
       · rw [if_neg hX0] at hr1;obtain ⟨xs,hxs⟩ : ∃ z : ByteArray,z = ⟨X.toArray⟩ := ⟨_,rfl⟩;have hxl : xs.data.toList = X := by rw [hxs]
         have hxz : xs.size = X.length := by rw [hxs]; simp [ByteArray.size]
         have hse : xs.toList.isEmpty = false := by rw [ByteArray.toList_eq,hxl]; cases X <;> simp_all
         have hse2 : ¬ xs.toList = [] := by rw [ByteArray.toList_eq,hxl]; exact hX0
         obtain ⟨N,hN⟩ : ∃ z : ByteArray,(⟨E.toArray⟩ ++ xs : ByteArray) = z := ⟨_,rfl⟩;have hNl : N.data.toList = E ++ X := by rw [← hN,hxs]; simp
         have hs3 : (9223372036854775807 < E.length + xs.size) = False := eq_false (by omega);rw [← hxs] at KT2;rw [← hNl] at hr1;by_cases hlf : N.data.toList = [108,105,110,101,102,101,101,100]
         · rw [if_pos hlf] at hr1;have hN2 : N = ⟨#[108,105,110,101,102,101,101,100]⟩ := by apply ByteArray.ext; apply Array.ext'; rw [hlf]
           subst hN2;clear hNl hlf;go_enter Tryz.func43,Tryz.ntmps43;go_wp2_with fail;refine KN.out.mono ?_;rintro x w3 ⟨rfl,hA3,hK3⟩;go_wp2_with fail;refine (KD.out w3).mono ?_;rintro x w4 ⟨rfl,hb4⟩;have hA4 := hA3.below hb4;have hK4 := hK3.trans (Dr.Kept.of_below hb4);have hT4 := (HBX.out w4 hK4).2.2;have KT4 := Lib.hid (KT2.out w4 hA4 hT4);go_wp2_with fail;refine KT4.out.mono ?_;rintro x w5 ⟨rfl,hA5,hk5⟩;have hK5 := hK4.trans hk5;obtain ⟨hbx,hkw,hTx⟩ := HBX.out w5 hK5;obtain ⟨Y1,Y2,Y3,Y4,Y5,Y6,Y7,Y8,Y9,Y10,Y11,⟨g0,z0,s0⟩,⟨g1,z1,s1'⟩,⟨g2,z2,s2'⟩,⟨g3,z3,s3'⟩,⟨g4,z4,s4'⟩,⟨g5,z5,s5'⟩,⟨g6,z6,s6'⟩,⟨g7,z7,s7'⟩,⟨g8,z8,s8'⟩,⟨g9,z9,s9'⟩,⟨g10,z10,s10'⟩,⟨r0,r1,r2',r3,r4,r5,r6,r7,r8,r9,r10⟩,HY⟩ := hbx.put (.int .i64 4) (.int .i64 (10)) (.bool false) (.slice none 0 0) (.slice none 0 0) (.bool false) (.slice none 0 0) (.slice none 0 0) (.string ⟨#[]⟩) (.slice none 0 0) (.slice none 0 0);have HE := Lib.hid (HPUT.out (10) r2 hr1 w5 hkw hA5 Y11 HY.out.2.1 HY.out.2.2.1 HY.out.2.2.2);clear hA3 hK3 hb4 hA4 hK4 hT4 KN KD hA2 hT2 hn hd hE hA5 hk5 hK5 KT2 KT4 hr1 ht hxl hxz hxs hX0 hbx hkw hTx HBX HPUT HDEAD;go_wp2_with fail;refine bodyPost_ret (v := Dr.leafV 4 (10) []) (by simp [results,Tryz.results43,go_sem,r0,r1,r2',r3,r4,r5,r6,r7,r8,r9,r10,Dr.leafV]) rfl HE.out
         · rw [if_neg hlf] at hr1;have hnlf : (N.toList == [108,105,110,101,102,101,101,100]) = false := by rw [ByteArray.toList_eq]; exact beq_eq_false_iff_ne.2 hlf
           have hnlf2 : ¬ N.toList = [108,105,110,101,102,101,101,100] := by rw [ByteArray.toList_eq]; exact hlf
           have HNL := Lib.hid hNl;have HXL := Lib.hid hxl;have KN2 := fun (n : Int) (w' : World) => Wt.CharName_any n w';have hxz2 : xs.size ≤ 9223372036854775807 := by omega
           clear hNl hxl hlf hX0;go_enter Tryz.func43,Tryz.ntmps43;go_wp2_with fail;refine KN.out.mono ?_;rintro x w3 ⟨rfl,hA3,hK3⟩;go_wp2_with fail;refine (KD.out w3).mono ?_;rintro x w4 ⟨rfl,hb4⟩;have hA4 := hA3.below hb4;have hK4 := hK3.trans (Dr.Kept.of_below hb4);have hT4 := (HBX.out w4 hK4).2.2;have KT4 := Lib.hid (KT2.out w4 hA4 hT4);go_wp2_with fail;refine KT4.out.mono ?_;rintro x w5 ⟨rfl,hA5,hk5⟩;have hK5 := hK4.trans hk5;obtain ⟨hbx,hkw,hTx⟩ := HBX.out w5 hK5;have HB5 := Lib.hid (And.intro hbx (And.intro hkw (And.intro hA5 hK5)));clear hA3 hK3 hb4 hA4 hK4 hT4 KN KD hA2 hT2 hn hd hE hA5 hk5 hK5 KT2 KT4 ht hxz hxs hbx hkw hTx HBX;have HR1 := Lib.hid hr1;clear hr1;go_wp2_with fail;go_loopw [50] (fun v50 wr => ∃ k : Nat,v50 = .int .i64 (k : Int) ∧ k ≤ 128 ∧ wr = w5 ∧ ∀ j : Nat,j < k → ¬ Wt.name (j : Int) = N.data.toList) (fun v _ => 128 - (intOf v).toNat);case atStart => exact ⟨0,rfl,by omega,rfl,fun j hj => absurd hj (Nat.not_lt_zero j)⟩
           case round =>
            obtain ⟨k,hv,hk,hw,hnot⟩ := hrel;subst hv hw;obtain ⟨hbx,hkw,hA5,hK5⟩ := HB5.out;clear HB5;by_cases hk1 : k = 128
            · subst hk1;have hr := HR1.out;rw [Dr.named_none hnot] at hr;clear hnot HR1 hk;by_cases h120 : c = 120
              · rw [if_pos h120] at hr;subst h120;have KH := Lib.hid (fun (v : Value) (w' : World) => Dr.hex_any v xs w' hxz2);rw [HXL.out] at KH;cases hx : Dr.hex X with
                | none =>
                  rw [hx] at hr KH;have KH1 := Lib.hid (fun (v : Value) (w' : World) => show Calls Tryz.prog 73 #[v,.string xs] w' (fun e w'' => e = Dr.dead ∧ w' = w'') from KH.out v w');have HE := Lib.hid (HDEAD.out hr wr hK5);clear hx hr KH hbx hkw hA5 hK5 HPUT HDEAD;go_wp2_with fail;refine (KH1.out _ _).mono ?_;rintro x w7 ⟨rfl,rfl⟩;unfold Dr.dead at *;go_wp2_with fail;exact ⟨rfl,HE.out⟩
                | some d =>
                  rw [hx] at hr KH;have hr2 : R = some (d,r2) := hr;have hdb := Dr.hex_char hx;have hwd : IntKind.i64.wrap d = d := by rw [IntKind.wrap_i64]; omega
                  have KH1 := Lib.hid (fun (v : Value) (w' : World) => show Calls Tryz.prog 73 #[v,.string xs] w' (fun e w'' => e = .returned (.int .i32 d) ∧ w' = w'') from KH.out v w');obtain ⟨Y1,Y2,Y3,Y4,Y5,Y6,Y7,Y8,Y9,Y10,Y11,⟨g0,z0,s0⟩,⟨g1,z1,s1'⟩,⟨g2,z2,s2'⟩,⟨g3,z3,s3'⟩,⟨g4,z4,s4'⟩,⟨g5,z5,s5'⟩,⟨g6,z6,s6'⟩,⟨g7,z7,s7'⟩,⟨g8,z8,s8'⟩,⟨g9,z9,s9'⟩,⟨g10,z10,s10'⟩,⟨r0,r1,r2',r3,r4,r5,r6,r7,r8,r9,r10⟩,HY⟩ := hbx.put (.int .i64 4) (.int .i64 (d)) (.bool false) (.slice none 0 0) (.slice none 0 0) (.bool false) (.slice none 0 0) (.slice none 0 0) (.string ⟨#[]⟩) (.slice none 0 0) (.slice none 0 0);have HE := Lib.hid (HPUT.out d r2 hr2 wr hkw hA5 Y11 HY.out.2.1 HY.out.2.2.1 HY.out.2.2.2);clear hx hr hr2 hdb KH hbx hkw hA5 hK5 HPUT HDEAD;go_wp2_with fail;refine (KH1.out _ _).mono ?_;rintro x w7 ⟨rfl,rfl⟩;go_wp2_with fail;refine bodyPost_ret (v := Dr.leafV 4 (d) []) (by simp [results,Tryz.results43,go_sem,r0,r1,r2',r3,r4,r5,r6,r7,r8,r9,r10,Dr.leafV]) rfl HE.out
              · have hr2 : R = none := by rw [hr]; exact if_neg h120
                have hcb : (c != 120) = true := bne_iff_ne.2 h120;have KS := Lib.hid (fun v => Dr.stop_any v wr);have HE := Lib.hid (HDEAD.out hr2 wr hK5);clear hr hr2 hbx hkw hA5 hK5 HPUT HDEAD;go_wp2_with fail;refine (KS.out _).mono ?_;rintro x w7 ⟨rfl,rfl⟩;unfold Dr.dead at *;go_wp2_with fail;exact ⟨rfl,HE.out⟩
            · have hk2 : (k : Int) < 128 := by omega
              have hk3 : 0 ≤ (k : Int) := by omega
              have hwk : IntKind.i64.wrap ((k : Int) + 1) = (k : Int) + 1 := by rw [IntKind.wrap_i64]; omega
              have KC := Lib.hid (KN2 (k : Int) wr);by_cases hname : Wt.name (k : Int) = N.data.toList
              · have hr := HR1.out;rw [Dr.named_some (by omega) hname (fun j hj => hnot j hj)] at hr;have hr2 : R = some ((k : Int),r2) := hr;have hNN : (⟨(Wt.name (k : Int)).toArray⟩ : ByteArray) = N := by rw [hname]
                obtain ⟨Y1,Y2,Y3,Y4,Y5,Y6,Y7,Y8,Y9,Y10,Y11,⟨g0,z0,s0⟩,⟨g1,z1,s1'⟩,⟨g2,z2,s2'⟩,⟨g3,z3,s3'⟩,⟨g4,z4,s4'⟩,⟨g5,z5,s5'⟩,⟨g6,z6,s6'⟩,⟨g7,z7,s7'⟩,⟨g8,z8,s8'⟩,⟨g9,z9,s9'⟩,⟨g10,z10,s10'⟩,⟨r0,r1,r2',r3,r4,r5,r6,r7,r8,r9,r10⟩,HY⟩ := hbx.put (.int .i64 4) (.int .i64 ((k : Int))) (.bool false) (.slice none 0 0) (.slice none 0 0) (.bool false) (.slice none 0 0) (.slice none 0 0) (.string ⟨#[]⟩) (.slice none 0 0) (.slice none 0 0);have HE := Lib.hid (HPUT.out (k : Int) r2 hr2 wr hkw hA5 Y11 HY.out.2.1 HY.out.2.2.1 HY.out.2.2.2);rw [hNN] at KC;clear hr hr2 hbx hkw hA5 hK5 HPUT HDEAD hnot HR1 hname hNN KN2;go_wp2_with fail;refine KC.out.mono ?_;rintro x w7 ⟨rfl,rfl⟩;go_wp2_with fail;refine bodyPost_ret (v := Dr.leafV 4 ((k : Int)) []) (by simp [results,Tryz.results43,go_sem,r0,r1,r2',r3,r4,r5,r6,r7,r8,r9,r10,Dr.leafV]) rfl HE.out
              · obtain ⟨C,hC⟩ : ∃ z : ByteArray,z = ⟨(Wt.name (k : Int)).toArray⟩ := ⟨_,rfl⟩;rw [← hC] at KC;have hCN : ¬ C = N := fun e => hname (by rw [← e,hC]);have hCN3 : (C.toList == N.toList) = false := by rw [ByteArray.toList_eq,ByteArray.toList_eq]; exact beq_eq_false_iff_ne.2 (fun e => hCN (by apply ByteArray.ext; apply Array.ext'; exact e))
                have HGO := Lib.hid (show ∃ k2 : Nat,Value.int .i64 ((k : Int) + 1) = .int .i64 (k2 : Int) ∧ k2 ≤ 128 ∧ wr = wr ∧ ∀ j : Nat,j < k2 → ¬ Wt.name (j : Int) = N.data.toList from
                  ⟨k + 1,rfl,by omega,rfl,fun j hj => by
                    by_cases hjk : j = k
                    · rw [hjk]; exact hname
                    · exact hnot j (by omega)⟩)
                clear hbx hkw hA5 hK5 HPUT HDEAD hnot HR1 hname KN2 hC;go_wp2_with fail;refine KC.out.mono ?_;rintro x w7 ⟨rfl,rfl⟩;go_wp2_with fail;obtain ⟨k2,q1,q2,q3,q4⟩ := HGO.out;refine ⟨⟨k2,q1,q2,trivial,q4⟩,?_⟩;show 128 - ((k : Int) + 1).toNat < 128 - ((k : Int)).toNat;omega
end Go.Proofs.YteklhapffplohaaGreatDoor
