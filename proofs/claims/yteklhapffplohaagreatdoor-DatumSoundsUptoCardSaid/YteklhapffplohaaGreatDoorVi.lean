/-
  The number that the reader of numbers reads.
-/
import Derived.Deep.RegionWith
import Derived.Deep.DrawnRows
import Derived.Test.YteklhapffplohaaGreatDoorVh
set_option linter.unusedVariables false
set_option linter.unusedSimpArgs false
namespace Go.Proofs.YteklhapffplohaaGreatDoor
open Go.RowKit
attribute [local go_sem ↓] Go.wp_at_zero Go.wp_at_succ
theorem Dr.frac_le {rx : Nat} {neg : Bool} {l r : List UInt8} {u u' : Int} {fr : Dr.Fr} (h : Dr.frac rx neg l u = some (fr,r,u')) : r.length ≤ l.length := by
 cases h1 : Dr.digs rx l u with
 | none => rw [Dr.frac_1 h1] at h; cases h
 | some x =>
   obtain ⟨t,r1,u1⟩ := x;have g1 := (Dr.digs_len h1).2;by_cases hs : r1.take 1 = [47]
   · cases r1 with
     | nil => simp at hs
     | cons y r2 =>
       simp at hs;subst hs;rw [Dr.frac_3 h1] at h;cases h2 : Dr.digs rx r2 u1 with
       | none => rw [h2] at h; cases h
       | some x2 =>
         obtain ⟨bt,r3,u2⟩ := x2;have g2 := (Dr.digs_len h2).2;rw [h2] at h;simp only at h;simp only [List.length_cons] at g1;split at h
         · simp only [Option.some.injEq,Prod.mk.injEq] at h;rw [← h.2.1]; omega
         · simp only [Option.some.injEq,Prod.mk.injEq] at h;rw [← h.2.1]; omega
   · rw [Dr.frac_2 h1 hs] at h;simp only [Option.some.injEq,Prod.mk.injEq] at h;rw [← h.2.1]; exact g1
theorem Dr.one_new (w : World) : Nt.N (w.alloc (.cells #[.int .u32 1] 57)).drew (.slice (some ⟨w.heap.size,0,none⟩) 1 1) 1 := by
 have e : (#[.int .u32 1] : Array Value) = Nt.row [1] := rfl;have h : Nt.N (w.alloc (.cells #[.int .u32 1] 57)) (.slice (some ⟨w.heap.size,0,none⟩) 1 1) 1 := by
  unfold Nt.N;rw [Nt.dig_small (by decide) (by decide),e];exact Nt.In.of_row (heap_alloc_new w _)
 exact h.below (Below.drew (Below.refl _ _)) (Nat.le_refl _)
theorem Dr.sign_le (l : List UInt8) : (Dr.sign l).2.2.length ≤ l.length := by
 unfold Dr.sign;split
 · exact Nat.le_succ _
 · exact Nat.le_succ _
 · exact Nat.le_refl _
set_option maxHeartbeats 16000000
set_option maxRecDepth 1000000
theorem Dr.number_any (b rx : Nat) (s : ByteArray) (w : World) (h : Dr.XA b s rx 0 w) (hr1 : 2 ≤ rx) (hr2 : rx ≤ 36) (hs : s.size ≤ 1048576) :
 Calls Tryz.prog 102 #[.pointer (some ⟨b,0,none⟩)] w fun e w' => Dr.PostM b rx w (Dr.number rx s.data.toList) e w' := by
 obtain ⟨R,hR⟩ : ∃ z,Dr.number rx s.data.toList = z := ⟨_,rfl⟩
 rw [hR]
 have HR := Lib.hid hR
 obtain ⟨B,hB⟩ : ∃ z,w.heap.size = z := ⟨_,rfl⟩
 have hbB : b < B := by rw [← hB]; exact h.lt
 have hal1 : Below w.heap.size w (w.alloc (.cells #[.bool false,.slice none 0 0,.slice none 0 0] 24)) := (Below.refl _ _).alloc (Nat.le_refl _) _
 have hq1 := heap_alloc_new w (.cells #[.bool false,.slice none 0 0,.slice none 0 0] 24)
 have hz1 : (w.alloc (.cells #[.bool false,.slice none 0 0,.slice none 0 0] 24)).heap.size = B + 1 := by simp [hB]
 obtain ⟨w1,hw1⟩ : ∃ z,w.alloc (.cells #[.bool false,.slice none 0 0,.slice none 0 0] 24) = z := ⟨_,rfl⟩
 rw [hw1] at hal1 hq1 hz1
 have hal2 : Below w1.heap.size w1 (w1.alloc (.cells #[.bool false,.slice none 0 0,.slice none 0 0] 24)) := (Below.refl _ _).alloc (Nat.le_refl _) _
 have hq2 := heap_alloc_new w1 (.cells #[.bool false,.slice none 0 0,.slice none 0 0] 24)
 have hz2 : (w1.alloc (.cells #[.bool false,.slice none 0 0,.slice none 0 0] 24)).heap.size = B + 2 := by simp [hz1]
 obtain ⟨w2,hw2⟩ : ∃ z,w1.alloc (.cells #[.bool false,.slice none 0 0,.slice none 0 0] 24) = z := ⟨_,rfl⟩
 rw [hw2] at hal2 hq2 hz2
 rw [hz1] at hq2
 rw [hB] at hq1
 have hq1' : w2.heap[B]? = _ := (hal2.block B (by omega)).trans hq1
 have hbel : Below w.heap.size w w2 := hal1.trans (hal2.mono hal1.size)
 have hx2 := h.below hbel
 have HPRE := Lib.hid (And.intro hx2 (And.intro hbel (And.intro hq1' (And.intro hq2 hz2))))
 have HB := Lib.hid (And.intro hB hbB)
 clear h hR hal1 hal2 hq1 hq2 hq1' hbel hx2
 go_enter Tryz.func102,Tryz.ntmps102
 go_wp2_with fail
 refine (Rt.whole_any false 0 _ _ (Nt.N.zero _) (by rw [Nt.dig_zero]; decide)).mono ?_
 rintro x w3 ⟨v0,rfl,hR0,hb0⟩
 obtain ⟨s0,a0,N0,c0,d0,M0,e0,rfl,HR0⟩ := Dr.R_open hR0
 obtain ⟨w5,hw5⟩ : ∃ z,w3.alloc (.cells #[.bool false,.slice none 0 0,.slice none 0 0] 24) = z := ⟨_,rfl⟩
 have hq5 : w5.heap[w3.heap.size]? = _ := hw5 ▸ heap_alloc_new w3 (.cells #[.bool false,.slice none 0 0,.slice none 0 0] 24)
 have hb5 : Below w3.heap.size w3 w5 := hw5 ▸ (Below.refl _ _).alloc (Nat.le_refl _) _
 obtain ⟨p,hp⟩ : ∃ p,w3.heap.size = p := ⟨_,rfl⟩
 have hpB : B + 1 < p := by have := hb0.size; have := HPRE.out.2.2.2.2; omega
 have h25 : Below w2.heap.size w2 w5 := hb0.trans (hb5.mono hb0.size)
 rw [hp] at hq5
 obtain ⟨X1,X2,X3,⟨f0,z0,t0⟩,⟨f1,z1,t1⟩,⟨f2,z2,t2⟩,_,HX⟩ := Rt.put3 hq5 (.bool s0) (.slice a0 N0 c0) (.slice d0 M0 e0)
 have hNS : Dr.NS b rx w B p #[.bool false,.slice none 0 0,.slice none 0 0] #[.bool false,.slice none 0 0,.slice none 0 0] #[.bool s0,.slice a0 N0 c0,.slice d0 M0 e0] s 0 X3 := by
  obtain ⟨k1,k2,k3,k4,k5⟩ := HPRE.out;have hl := k1.lt;refine ⟨(HX.out.2.2.1 b (by omega)).trans (k1.below h25),Dr.kept_put ((Dr.Kept.of_below k2).trans (Dr.Kept.of_below h25)) HX.out.2.1 HX.out.2.2.1 HX.out.2.2.2 (by have := HB.out; omega),(HX.out.2.2.1 B (by omega)).trans ((h25.block B (by omega)).trans k3),(HX.out.2.2.1 (B + 1) (by omega)).trans ((h25.block (B + 1) (by omega)).trans k4),HX.out.1,HB.out.2,HB.out.1,hpB⟩
 have HN := Lib.hid hNS
 have HR5 := Lib.hid (Dr.Num2.R (w := w5) (w' := X3) (fun v n hn => Nt.In.othr hn hq5 Rt.noWords HX.out.2.2.1 HX.out.2.1) (Dr.Num2.R (Dr.Num2.below hb5) HR0.out))
 have KS := Lib.hid (Dr.sign_any b rx s 0 X3 hNS.x hs)
 clear hR0 hb0 hq5 hb5 h25 HX hNS HR0 HPRE
 go_wp2_with fail
 clear hp hB hw1 hw2 hz1 hz2 hw5 f0 z0 t0 f1 z1 t1 f2 z2 t2
 refine KS.out.mono ?_
 rintro x y1 ⟨s1,rfl,hs1l,hx1,hk1⟩
 obtain ⟨hN1,hM1⟩ := HN.out.step hk1 hx1
 have HN1 := Lib.hid hN1
 have HR1 := Lib.hid (hM1.R HR5.out)
 have hsg1 : (Dr.sign s.data.toList).2.2.length ≤ s.data.toList.length := Dr.sign_le _
 obtain ⟨ng,hng⟩ : ∃ z,(Dr.sign s.data.toList).1 = z := ⟨_,rfl⟩
 obtain ⟨sg,hsg⟩ : ∃ z,(Dr.sign s.data.toList).2.1 = z := ⟨_,rfl⟩
 obtain ⟨l1,hl1⟩ : ∃ z,(Dr.sign s.data.toList).2.2 = z := ⟨_,rfl⟩
 have hnum : R = if (sg && Dr.unit l1) = true then some (Dr.whole false 0,Dr.whole ng 1,0) else
  match Dr.frac rx ng l1 0 with
  | none => none
  | some (re,s2,u) =>
    if s2 = [] then some (re,Dr.whole false 0,u)
    else if (sg && Dr.unit s2) = true then some (Dr.whole false 0,re,u)
    else
     if (Dr.sign s2).2.1 = false then none
     else if Dr.unit (Dr.sign s2).2.2 = true then some (re,Dr.whole (Dr.sign s2).1 1,u)
     else match Dr.frac rx (Dr.sign s2).1 (Dr.sign s2).2.2 u with
      | none => none
      | some (im,s4,w4) => if Dr.unit s4 = true then some (re,im,w4) else none := by
  rw [← HR.out]
  unfold Dr.number
  rw [← hng,← hsg,← hl1]
  rfl
 rw [hng,hsg]
 rw [hl1] at hs1l hsg1
 have HL1 := Lib.hid (And.intro hs1l hsg1)
 have hz1s : s1.size ≤ 1048576 := by
  rw [Dr.size_of hs1l];have : s.data.toList.length = s.size := by simp
  omega
 have HNUM := Lib.hid hnum
 have KU1 := Lib.hid (hs1l ▸ Dr.unit_any b rx s1 0 y1 hx1)
 clear hx1 hk1 hN1 hM1 hng hsg hl1 hs1l hsg1 hnum KS HN HR5
 cases hsu : (sg && Dr.unit l1) with
 | true =>
   have hnum := HNUM.out
   rw [hsu,if_pos rfl] at hnum
   simp only [Bool.and_eq_true] at hsu
   obtain ⟨rfl,hun⟩ := hsu
   rw [hun] at KU1
   have HFIN := Lib.hid hnum
   have hdr : Below y1.heap.size y1 y1.drew := Below.drew (Below.refl _ _)
   obtain ⟨hNd,hMd⟩ := HN1.out.below hdr
   have hk0 := Rt.cells3 hNd.c5
   have hda : Below y1.heap.size y1 (y1.alloc (.cells #[.int .u32 1] 57)).drew := ((Below.refl _ _).alloc (Nat.le_refl _) _).drew
   obtain ⟨hNa,hMa⟩ := HN1.out.below hda
   have hkA := Rt.cells3 hNa.c5
   have hone : Nt.N (y1.alloc (.cells #[.int .u32 1] 57)).drew (.slice (some ⟨y1.heap.size,0,none⟩) 1 1) 1 := Dr.one_new y1
   have HNa := Lib.hid (And.intro hNa (And.intro hMa hone))
   have HSTORE := Lib.hid (fun (wc : World) (hc : Below (y1.alloc (.cells #[.int .u32 1] 57)).drew.heap.size (y1.alloc (.cells #[.int .u32 1] 57)).drew wc) => Dr.NS.below HNa.out.1 hc)
   have HFIN1 := Lib.hid (fun (W : World) (v1 v2 : Value) (C2 C3 : Array Value) (hN : Dr.NS b rx w B p C2 C3 #[.bool s0,.slice a0 N0 c0,.slice d0 M0 e0] s1 0 W) (h1 : Rt.R W v1 (false && decide (0 < 0)) 0 1) (h2 : Rt.R W v2 (ng && decide (0 < 1)) 1 1) => show Dr.PostM b rx w R (.returned (.tuple #[v1,v2,.bool true])) W from by
     rw [hnum]
     exact ⟨v1,v2,s1,rfl,h1,h2,hN.x,hN.k⟩)
   clear hnum HNUM hun hNd hdr hMd hNa hMa hone hda HFIN
   go_wp2_with (first | (go_at_call 124; refine KU1.out.mono ?_; rintro x w' ⟨rfl,hw'⟩; subst hw'))
   go_region_held3 (fun w' => w'.cell? ⟨p,0,none⟩ = some (.bool s0) ∧ w'.cell? ⟨p,1,none⟩ = some (.slice a0 N0 c0) ∧ w'.cell? ⟨p,2,none⟩ = some (.slice d0 M0 e0))
    (assumption)
    (first
      | (go_at_call 122
         refine (Rt.whole_any ng 1 _ _ HNa.out.2.2 (by rw [Nt.dig_small (by decide) (by decide)]; decide)).mono ?_
         rintro x wc ⟨v1,rfl,hRw,hbc⟩
         obtain ⟨s9,a9,N9,c9,d9,M9,e9,rfl,HR9⟩ := Dr.R_open hRw
         obtain ⟨hNc,hMc⟩ := HSTORE.out wc hbc
         have hkB := Rt.cells3 hNc.c5
         obtain ⟨A1,A2,A3,⟨p1,p2,p3⟩,⟨p4,p5,p6⟩,⟨p7,p8,p9⟩,HA⟩ := hNc.put2 (.bool s0) (.slice a0 N0 c0) (.slice d0 M0 e0)
         have hkA3 := Rt.cells3 HA.out.1.c5
         obtain ⟨D1,D2,D3,⟨p10,p11,p12⟩,⟨p13,p14,p15⟩,⟨p16,p17,p18⟩,HD⟩ := HA.out.1.put3 (.bool s9) (.slice a9 N9 c9) (.slice d9 M9 e9)
         have hkD3 := Rt.cells3 HD.out.1.c5
         have HR0c := Lib.hid (hMc.R (HNa.out.2.1.R HR1.out))
         obtain ⟨l0,l1',l2⟩ := Rt.cells3 HD.out.1.c2
         obtain ⟨l3,l4,l5⟩ := Rt.cells3 HD.out.1.c3
         have HE := Lib.hid (HFIN1.out D3 _ _ _ _ HD.out.1 (HD.out.2.R (HA.out.2.R HR0c.out)) (HD.out.2.R (HA.out.2.R HR9.out)))
         clear hNc hMc hbc hRw))
   go_wp2_with fail
   refine bodyPost_ret (v := .tuple #[.agg #[.bool s0,.slice a0 N0 c0,.slice d0 M0 e0],.agg #[.bool s9,.slice a9 N9 c9,.slice d9 M9 e9],.bool true]) (by simp [results,Tryz.results102,go_sem,l0,l1',l2,l3,l4,l5]) rfl HE.out
 | false =>
   have hcs : sg = false ∨ (sg = true ∧ Dr.unit l1 = false) := by
    cases sg
    · exact .inl rfl
    · exact .inr ⟨rfl,by simpa using hsu⟩
   have hnum := HNUM.out
   rw [hsu,if_neg (by simp)] at hnum
   have KF0 := Dr.frac_any b rx s1 0 ng y1 HN1.out.x hr1 hr2 hz1s
   rw [HL1.out.1] at KF0
   have HSG := Lib.hid hcs
   clear HNUM hsu
   cases hf1 : Dr.frac rx ng l1 0 with
   | none =>
     rw [hf1] at KF0 hnum
     have hnum2 : R = none := hnum
     have KF := Lib.hid (show Calls Tryz.prog 125 #[.pointer (some ⟨b,0,none⟩),.bool ng] y1 (fun e w' => ∃ v s' u' f t d,e = .returned (.tuple #[v,.bool false]) ∧ Rt.R w' v f t d ∧ Dr.XA b s' rx u' w' ∧ Dr.Kept b y1 w') from KF0)
     have HFIN := Lib.hid (fun (W : World) (v1 v2 : Value) (h1 : ∃ f t d,Rt.R W v1 f t d) (h2 : ∃ f t d,Rt.R W v2 f t d) (hk : Dr.Kept b w W) => show Dr.PostM b rx w R (.returned (.tuple #[v1,v2,.bool false])) W from by
       rw [hnum2]
       exact ⟨v1,v2,rfl,h1,h2,hk⟩)
     clear hnum hnum2 KF0 hf1 HSG
     rcases hcs with rfl | ⟨rfl,hun⟩
     all_goals
      try rw [hun] at KU1
      go_wp2_with (first | (go_at_call 124; refine KU1.out.mono ?_; rintro x w' ⟨rfl,hw'⟩; subst hw'))
      refine KF.out.mono ?_
      rintro x y2 ⟨v2,s2',u2,f2,t2,dd2,rfl,hR2,hX2,hK2⟩
      obtain ⟨s2,a2,N2,c2,d2,M2,e2,rfl,HR2⟩ := Dr.R_open hR2
      obtain ⟨hN2,hM2⟩ := HN1.out.step hK2 hX2
      have HR02 := Lib.hid (hM2.R HR1.out)
      obtain ⟨A1,A2,A3,⟨p1,p2,p3⟩,⟨p4,p5,p6⟩,⟨p7,p8,p9⟩,HA⟩ := hN2.put2 (.bool s2) (.slice a2 N2 c2) (.slice d2 M2 e2)
      clear hR2 hX2 hK2 hN2 hM2
      have hdr9 : Below A3.heap.size A3 A3.drew := Below.drew (Below.refl _ _)
      obtain ⟨hNd,hMd⟩ := HA.out.1.below hdr9
      obtain ⟨⟨q0,q1,q2⟩,q3,q4,q5⟩ := Dr.same3 hNd.c2
      obtain ⟨g0,g1,g2⟩ := Rt.cells3 hNd.c2
      obtain ⟨k0,k1,k2⟩ := Rt.cells3 hNd.c5
      obtain ⟨D1,D2,D3,⟨p10,p11,p12⟩,⟨p13,p14,p15⟩,⟨p16,p17,p18⟩,HD⟩ := hNd.put3 (.bool s0) (.slice a0 N0 c0) (.slice d0 M0 e0)
      obtain ⟨l0,l1',l2⟩ := Rt.cells3 HD.out.1.c2
      obtain ⟨l3,l4,l5⟩ := Rt.cells3 HD.out.1.c3
      have HE := Lib.hid (HFIN.out D3 _ _ ⟨_,_,_,HD.out.2.R (hMd.R (HA.out.2.R HR2.out))⟩ ⟨_,_,_,HD.out.2.R (hMd.R (HA.out.2.R HR02.out))⟩ HD.out.1.k)
      clear hNd hMd hdr9
      go_wp2_with fail
      go_region
      all_goals
       go_wp2_with fail
       refine bodyPost_ret (v := .tuple #[.agg #[.bool s2,.slice a2 N2 c2,.slice d2 M2 e2],.agg #[.bool s0,.slice a0 N0 c0,.slice d0 M0 e0],.bool false]) (by simp [results,Tryz.results102,go_sem,l0,l1',l2,l3,l4,l5]) rfl HE.out
   | some x1 =>
     obtain ⟨re,l2,u2⟩ := x1
     rw [hf1] at KF0 hnum
     have KF := Lib.hid (show Calls Tryz.prog 125 #[.pointer (some ⟨b,0,none⟩),.bool ng] y1 (fun e w' => ∃ v s',e = .returned (.tuple #[v,.bool true]) ∧ Rt.R w' v re.1 re.2.1 re.2.2 ∧ s'.data.toList = l2 ∧ Dr.XA b s' rx u2 w' ∧ Dr.Kept b y1 w') from KF0)
     have hl2 := Dr.frac_le hf1
     have HNUM := Lib.hid (show R = if l2 = [] then some (re,Dr.whole false 0,u2)
           else if (sg && Dr.unit l2) = true then some (Dr.whole false 0,re,u2)
           else
            if (Dr.sign l2).2.1 = false then none
            else if Dr.unit (Dr.sign l2).2.2 = true then some (re,Dr.whole (Dr.sign l2).1 1,u2)
            else match Dr.frac rx (Dr.sign l2).1 (Dr.sign l2).2.2 u2 with
             | none => none
             | some (im,s4,w4) => if Dr.unit s4 = true then some (re,im,w4) else none from hnum)
     have HL2 := Lib.hid hl2
     clear hnum KF0 hf1 hl2
     by_cases hnil : l2 = []
     · have hnum := HNUM.out;rw [if_pos hnil] at hnum;have HFIN := Lib.hid (fun (W : World) (v1 v2 : Value) (C2 C3 : Array Value) (s2' : ByteArray) (hN : Dr.NS b rx w B p C2 C3 #[.bool s0,.slice a0 N0 c0,.slice d0 M0 e0] s2' u2 W) (h1 : Rt.R W v1 re.1 re.2.1 re.2.2) (h2 : Rt.R W v2 (false && decide (0 < 0)) 0 1) => show Dr.PostM b rx w R (.returned (.tuple #[v1,v2,.bool true])) W from by
         rw [hnum]
         exact ⟨v1,v2,s2',rfl,h1,h2,hN.x,hN.k⟩)
       clear hnum HNUM HSG;rcases hcs with rfl | ⟨rfl,hun⟩;all_goals
        try rw [hun] at KU1
        go_wp2_with (first | (go_at_call 124; refine KU1.out.mono ?_; rintro x w' ⟨rfl,hw'⟩; subst hw'));refine KF.out.mono ?_;rintro x y2 ⟨v2,s2',rfl,hR2,hs2l,hX2,hK2⟩;obtain ⟨s2,a2,N2,c2,d2,M2,e2,rfl,HR2⟩ := Dr.R_open hR2;obtain ⟨hN2,hM2⟩ := HN1.out.step hK2 hX2;have HR02 := Lib.hid (hM2.R HR1.out);obtain ⟨A1,A2,A3,⟨p1,p2,p3⟩,⟨p4,p5,p6⟩,⟨p7,p8,p9⟩,HA⟩ := hN2.put2 (.bool s2) (.slice a2 N2 c2) (.slice d2 M2 e2);have hemp : s2'.toList.isEmpty = true := by rw [ByteArray.toList_eq,hs2l,hnil]; rfl
        have hemp2 : s2'.toList = [] := by rw [ByteArray.toList_eq,hs2l,hnil]
        obtain ⟨k6,k7,k8⟩ := HA.out.1.x.cells;clear hR2 hX2 hK2 hN2 hM2 hs2l;have hdr9 : Below A3.heap.size A3 A3.drew := Below.drew (Below.refl _ _);obtain ⟨hNd,hMd⟩ := HA.out.1.below hdr9;obtain ⟨⟨q0,q1,q2⟩,q3,q4,q5⟩ := Dr.same3 hNd.c2;obtain ⟨g0,g1,g2⟩ := Rt.cells3 hNd.c2;obtain ⟨k0,k1,k2⟩ := Rt.cells3 hNd.c5;obtain ⟨D1,D2,D3,⟨p10,p11,p12⟩,⟨p13,p14,p15⟩,⟨p16,p17,p18⟩,HD⟩ := hNd.put3 (.bool s0) (.slice a0 N0 c0) (.slice d0 M0 e0);obtain ⟨l0,l1',l2⟩ := Rt.cells3 HD.out.1.c2;obtain ⟨l3,l4,l5⟩ := Rt.cells3 HD.out.1.c3;have HE := Lib.hid (HFIN.out D3 _ _ _ _ _ HD.out.1 (HD.out.2.R (hMd.R (HA.out.2.R HR2.out))) (HD.out.2.R (hMd.R (HA.out.2.R HR02.out))));clear hNd hMd hdr9;go_wp2_with fail;go_region;all_goals
         go_wp2_with fail;refine bodyPost_ret (v := .tuple #[.agg #[.bool s2,.slice a2 N2 c2,.slice d2 M2 e2],.agg #[.bool s0,.slice a0 N0 c0,.slice d0 M0 e0],.bool true]) (by simp [results,Tryz.results102,go_sem,l0,l1',l2,l3,l4,l5]) rfl HE.out
     · have HNIL := Lib.hid hnil;have hnum := HNUM.out;rw [if_neg hnil] at hnum;clear HNUM hnil;cases hsu2 : (sg && Dr.unit l2) with
       | true =>
         rw [hsu2,if_pos rfl] at hnum;have HFIN := Lib.hid (fun (W : World) (v1 v2 : Value) (C2 C3 : Array Value) (s2' : ByteArray) (hN : Dr.NS b rx w B p C2 C3 #[.bool s0,.slice a0 N0 c0,.slice d0 M0 e0] s2' u2 W) (h1 : Rt.R W v1 (false && decide (0 < 0)) 0 1) (h2 : Rt.R W v2 re.1 re.2.1 re.2.2) => show Dr.PostM b rx w R (.returned (.tuple #[v1,v2,.bool true])) W from by
           rw [hnum]
           exact ⟨v1,v2,s2',rfl,h1,h2,hN.x,hN.k⟩)
         simp only [Bool.and_eq_true] at hsu2;obtain ⟨rfl,hun2⟩ := hsu2;have hun1 : Dr.unit l1 = false := by
          rcases hcs with h | ⟨_,h⟩
          · cases h
          · exact h
         rw [hun1] at KU1;clear hnum HSG hcs hun1;go_wp2_with (first | (go_at_call 124; refine KU1.out.mono ?_; rintro x w' ⟨rfl,hw'⟩; subst hw'));refine KF.out.mono ?_;rintro x y2 ⟨v2,s2',rfl,hR2,hs2l,hX2,hK2⟩;obtain ⟨s2,a2,N2,c2,d2,M2,e2,rfl,HR2⟩ := Dr.R_open hR2;obtain ⟨hN2,hM2⟩ := HN1.out.step hK2 hX2;have HR02 := Lib.hid (hM2.R HR1.out);obtain ⟨A1,A2,A3,⟨p1,p2,p3⟩,⟨p4,p5,p6⟩,⟨p7,p8,p9⟩,HA⟩ := hN2.put2 (.bool s2) (.slice a2 N2 c2) (.slice d2 M2 e2);have hemp : s2'.toList.isEmpty = false := by rw [ByteArray.toList_eq,hs2l,List.isEmpty_eq_false_iff]; exact HNIL.out
         have hemp2 : ¬ s2'.toList = [] := by rw [ByteArray.toList_eq,hs2l]; exact HNIL.out
         obtain ⟨k6,k7,k8⟩ := HA.out.1.x.cells;have hu2 := Dr.unit_any b rx s2' u2 A3 HA.out.1.x;rw [hs2l] at hu2;have KU2 := Lib.hid hu2;have HS2L := Lib.hid hs2l;clear hR2 hX2 hK2 hN2 hM2 hs2l hu2;rw [hun2] at KU2;obtain ⟨g0,g1,g2⟩ := Rt.cells3 HA.out.1.c2;obtain ⟨k0,k1,k2⟩ := Rt.cells3 HA.out.1.c5;obtain ⟨D1,D2,D3,⟨p10,p11,p12⟩,⟨p13,p14,p15⟩,⟨p16,p17,p18⟩,HD⟩ := HA.out.1.put2 (.bool s0) (.slice a0 N0 c0) (.slice d0 M0 e0);obtain ⟨G1,G2,G3,⟨p20,p21,p22⟩,⟨p23,p24,p25⟩,⟨p26,p27,p28⟩,HG⟩ := HD.out.1.put3 (.bool s2) (.slice a2 N2 c2) (.slice d2 M2 e2);obtain ⟨l0,l1',l2'⟩ := Rt.cells3 HG.out.1.c2;obtain ⟨l3,l4,l5⟩ := Rt.cells3 HG.out.1.c3;have HE := Lib.hid (HFIN.out G3 _ _ _ _ _ HG.out.1 (HG.out.2.R (HD.out.2.R (HA.out.2.R HR02.out))) (HG.out.2.R (HD.out.2.R (HA.out.2.R HR2.out))));clear hun2 HFIN;go_wp2_with (first | (go_at_call 124; refine KU2.out.mono ?_; rintro x w' ⟨rfl,hw'⟩; subst hw'));refine bodyPost_ret (v := .tuple #[.agg #[.bool s0,.slice a0 N0 c0,.slice d0 M0 e0],.agg #[.bool s2,.slice a2 N2 c2,.slice d2 M2 e2],.bool true]) (by simp [results,Tryz.results102,go_sem,l0,l1',l2',l3,l4,l5]) rfl HE.out
       | false =>
         rw [hsu2,if_neg (by simp)] at hnum;have hcs2 : sg = false ∨ (sg = true ∧ Dr.unit l1 = false ∧ Dr.unit l2 = false) := by
          rcases hcs with h | ⟨h1,h2⟩
          · exact .inl h
          · refine .inr ⟨h1,h2,?_⟩;rw [h1] at hsu2;simpa using hsu2
         clear hcs hsu2 HSG;obtain ⟨ng2,hng2⟩ : ∃ z,(Dr.sign l2).1 = z := ⟨_,rfl⟩;obtain ⟨sg2,hsg2⟩ : ∃ z,(Dr.sign l2).2.1 = z := ⟨_,rfl⟩;obtain ⟨l3',hl3⟩ : ∃ z,(Dr.sign l2).2.2 = z := ⟨_,rfl⟩;have hlen3 : l3'.length ≤ l2.length := hl3 ▸ Dr.sign_le l2;have HSGN := Lib.hid (And.intro hng2 (And.intro hsg2 (And.intro hl3 hlen3)));rw [hng2,hsg2,hl3] at hnum;clear hng2 hsg2 hl3 hlen3;cases sg2 with
         | false =>
           rw [if_pos rfl] at hnum;have HFIN := Lib.hid (fun (W : World) (v1 v2 : Value) (h1 : ∃ f t d,Rt.R W v1 f t d) (h2 : ∃ f t d,Rt.R W v2 f t d) (hk : Dr.Kept b w W) => show Dr.PostM b rx w R (.returned (.tuple #[v1,v2,.bool false])) W from by
             rw [hnum]
             exact ⟨v1,v2,rfl,h1,h2,hk⟩)
           clear hnum;rcases hcs2 with rfl | ⟨rfl,hun1,hun2⟩;all_goals
            try rw [hun1] at KU1
            go_wp2_with (first | (go_at_call 124; refine KU1.out.mono ?_; rintro x w' ⟨rfl,hw'⟩; subst hw'));refine KF.out.mono ?_;rintro x y2 ⟨v2,s2',rfl,hR2,hs2l,hX2,hK2⟩;obtain ⟨s2,a2,N2,c2,d2,M2,e2,rfl,HR2⟩ := Dr.R_open hR2;obtain ⟨hN2,hM2⟩ := HN1.out.step hK2 hX2;have HR02 := Lib.hid (hM2.R HR1.out);obtain ⟨A1,A2,A3,⟨p1,p2,p3⟩,⟨p4,p5,p6⟩,⟨p7,p8,p9⟩,HA⟩ := hN2.put2 (.bool s2) (.slice a2 N2 c2) (.slice d2 M2 e2);have hemp : s2'.toList.isEmpty = false := by rw [ByteArray.toList_eq,hs2l,List.isEmpty_eq_false_iff]; exact HNIL.out
            have hemp2 : ¬ s2'.toList = [] := by rw [ByteArray.toList_eq,hs2l]; exact HNIL.out
            obtain ⟨k6,k7,k8⟩ := HA.out.1.x.cells;have hu2 := Dr.unit_any b rx s2' u2 A3 HA.out.1.x;rw [hs2l] at hu2;have KU2 := Lib.hid hu2;have HS2L := Lib.hid hs2l;clear hR2 hX2 hK2 hN2 hM2 hs2l hu2;try rw [hun2] at KU2
            have hsz2 : s2'.size ≤ 1048576 := by
             rw [Dr.size_of HS2L.out];have g1 := HL2.out;have g2 := HL1.out.2;have g3 : s.data.toList.length = s.size := by simp
             omega
            have hsn := Dr.sign_any b rx s2' u2 A3 HA.out.1.x hsz2;rw [HS2L.out] at hsn;have KS2 := Lib.hid hsn;clear hsn;rw [HSGN.out.1,HSGN.out.2.1] at KS2;go_wp2_with (first | (go_at_call 124; refine KU2.out.mono ?_; rintro x w' ⟨rfl,hw'⟩; subst hw'));refine KS2.out.mono ?_;rintro x y3 ⟨s3',rfl,hs3l,hX3,hK3⟩;obtain ⟨hN3,hM3⟩ := HA.out.1.step hK3 hX3;have HR03 := Lib.hid (hM3.R (HA.out.2.R HR02.out));have HR23 := Lib.hid (hM3.R (HA.out.2.R HR2.out));have HN3 := Lib.hid hN3;have HS3L := Lib.hid hs3l;clear hX3 hK3 hN3 hM3 hs3l p1 p2 p3 p4 p5 p6 p7 p8 p9 k6 k7 k8 HA KS2 KU2;have hdr9 : Below y3.heap.size y3 y3.drew := Below.drew (Below.refl _ _);obtain ⟨hNd,hMd⟩ := HN3.out.below hdr9;obtain ⟨k0,k1,k2⟩ := Rt.cells3 hNd.c5;obtain ⟨D1,D2,D3,⟨p10,p11,p12⟩,⟨p13,p14,p15⟩,⟨p16,p17,p18⟩,HD⟩ := hNd.put2 (.bool s0) (.slice a0 N0 c0) (.slice d0 M0 e0);obtain ⟨k3,k4,k5⟩ := Rt.cells3 HD.out.1.c5;obtain ⟨G1,G2,G3,⟨p20,p21,p22⟩,⟨p23,p24,p25⟩,⟨p26,p27,p28⟩,HG⟩ := HD.out.1.put3 (.bool s0) (.slice a0 N0 c0) (.slice d0 M0 e0);obtain ⟨l0,l1',l2'⟩ := Rt.cells3 HG.out.1.c2;obtain ⟨l3,l4,l5⟩ := Rt.cells3 HG.out.1.c3;have HE := Lib.hid (HFIN.out G3 _ _ ⟨_,_,_,HG.out.2.R (HD.out.2.R (hMd.R HR03.out))⟩ ⟨_,_,_,HG.out.2.R (HD.out.2.R (hMd.R HR03.out))⟩ HG.out.1.k);clear hNd hMd hdr9 HFIN;go_wp2_with fail;go_region;all_goals
             go_wp2_with fail;refine bodyPost_ret (v := .tuple #[.agg #[.bool s0,.slice a0 N0 c0,.slice d0 M0 e0],.agg #[.bool s0,.slice a0 N0 c0,.slice d0 M0 e0],.bool false]) (by simp [results,Tryz.results102,go_sem,l0,l1',l2',l3,l4,l5]) rfl HE.out
         | true =>
           rw [if_neg (by simp)] at hnum;cases hu3 : Dr.unit l3' with
           | true =>
             rw [hu3,if_pos rfl] at hnum;have HFIN := Lib.hid (fun (W : World) (v1 v2 : Value) (C2 C3 : Array Value) (sx : ByteArray) (hN : Dr.NS b rx w B p C2 C3 #[.bool s0,.slice a0 N0 c0,.slice d0 M0 e0] sx u2 W) (h1 : Rt.R W v1 re.1 re.2.1 re.2.2) (h2 : Rt.R W v2 (ng2 && decide (0 < 1)) 1 1) => show Dr.PostM b rx w R (.returned (.tuple #[v1,v2,.bool true])) W from by
               rw [hnum]
               exact ⟨v1,v2,sx,rfl,h1,h2,hN.x,hN.k⟩)
             clear hnum;rcases hcs2 with rfl | ⟨rfl,hun1,hun2⟩;all_goals
              try rw [hun1] at KU1
              go_wp2_with (first | (go_at_call 124; refine KU1.out.mono ?_; rintro x w' ⟨rfl,hw'⟩; subst hw'));refine KF.out.mono ?_;rintro x y2 ⟨v2,s2',rfl,hR2,hs2l,hX2,hK2⟩;obtain ⟨s2,a2,N2,c2,d2,M2,e2,rfl,HR2⟩ := Dr.R_open hR2;obtain ⟨hN2,hM2⟩ := HN1.out.step hK2 hX2;have HR02 := Lib.hid (hM2.R HR1.out);obtain ⟨A1,A2,A3,⟨p1,p2,p3⟩,⟨p4,p5,p6⟩,⟨p7,p8,p9⟩,HA⟩ := hN2.put2 (.bool s2) (.slice a2 N2 c2) (.slice d2 M2 e2);have hemp : s2'.toList.isEmpty = false := by rw [ByteArray.toList_eq,hs2l,List.isEmpty_eq_false_iff]; exact HNIL.out
              have hemp2 : ¬ s2'.toList = [] := by rw [ByteArray.toList_eq,hs2l]; exact HNIL.out
              obtain ⟨k6,k7,k8⟩ := HA.out.1.x.cells;have hu2 := Dr.unit_any b rx s2' u2 A3 HA.out.1.x;rw [hs2l] at hu2;have KU2 := Lib.hid hu2;have HS2L := Lib.hid hs2l;clear hR2 hX2 hK2 hN2 hM2 hs2l hu2;try rw [hun2] at KU2
              have hsz2 : s2'.size ≤ 1048576 := by
               rw [Dr.size_of HS2L.out];have g1 := HL2.out;have g2 := HL1.out.2;have g3 : s.data.toList.length = s.size := by simp
               omega
              have hsn := Dr.sign_any b rx s2' u2 A3 HA.out.1.x hsz2;rw [HS2L.out] at hsn;have KS2 := Lib.hid hsn;clear hsn;rw [HSGN.out.1,HSGN.out.2.1] at KS2;go_wp2_with (first | (go_at_call 124; refine KU2.out.mono ?_; rintro x w' ⟨rfl,hw'⟩; subst hw'));refine KS2.out.mono ?_;rintro x y3 ⟨s3',rfl,hs3l,hX3,hK3⟩;obtain ⟨hN3,hM3⟩ := HA.out.1.step hK3 hX3;have HR03 := Lib.hid (hM3.R (HA.out.2.R HR02.out));have HR23 := Lib.hid (hM3.R (HA.out.2.R HR2.out));have HN3 := Lib.hid hN3;have HS3L := Lib.hid hs3l;clear hX3 hK3 hN3 hM3 hs3l p1 p2 p3 p4 p5 p6 p7 p8 p9 k6 k7 k8 HA KS2 KU2;have hu4 := Dr.unit_any b rx s3' u2 y3 HN3.out.x;rw [HS3L.out,HSGN.out.2.2.1,hu3] at hu4;have KU3 := Lib.hid hu4;have hdr9 : Below y3.heap.size y3 y3.drew := Below.drew (Below.refl _ _);obtain ⟨hNd,hMd⟩ := HN3.out.below hdr9;have hk0 := Rt.cells3 hNd.c2;have hda : Below y3.heap.size y3 (y3.alloc (.cells #[.int .u32 1] 57)).drew := ((Below.refl _ _).alloc (Nat.le_refl _) _).drew;obtain ⟨hNa,hMa⟩ := HN3.out.below hda;have hkA := Rt.cells3 hNa.c2;have hone : Nt.N (y3.alloc (.cells #[.int .u32 1] 57)).drew (.slice (some ⟨y3.heap.size,0,none⟩) 1 1) 1 := Dr.one_new y3;have HNa := Lib.hid (And.intro hNa (And.intro hMa hone));have HSTORE := Lib.hid (fun (wc : World) (hc : Below (y3.alloc (.cells #[.int .u32 1] 57)).drew.heap.size (y3.alloc (.cells #[.int .u32 1] 57)).drew wc) => Dr.NS.below HNa.out.1 hc);clear hNd hMd hdr9 hNa hMa hone hda hu4
              go_wp2_with (first | (go_at_call 124; refine KU3.out.mono ?_; rintro x w' ⟨rfl,hw'⟩; subst hw'));go_region_held3 (fun w' => w'.cell? ⟨B,0,none⟩ = some (.bool s2) ∧ w'.cell? ⟨B,1,none⟩ = some (.slice a2 N2 c2) ∧ w'.cell? ⟨B,2,none⟩ = some (.slice d2 M2 e2))
               (assumption)
               (first
                 | (go_at_call 122
                    refine (Rt.whole_any ng2 1 _ _ HNa.out.2.2 (by rw [Nt.dig_small (by decide) (by decide)]; decide)).mono ?_
                    rintro x wc ⟨v1,rfl,hRw,hbc⟩
                    obtain ⟨s9,a9,N9,c9,d9,M9,e9,rfl,HR9⟩ := Dr.R_open hRw
                    obtain ⟨hNc,hMc⟩ := HSTORE.out wc hbc
                    have hkB := Rt.cells3 hNc.c2
                    obtain ⟨⟨q0,q1,q2⟩,q3,q4,q5⟩ := Dr.same3 hNc.c2
                    obtain ⟨D1,D2,D3,⟨p10,p11,p12⟩,⟨p13,p14,p15⟩,⟨p16,p17,p18⟩,HD⟩ := hNc.put3 (.bool s9) (.slice a9 N9 c9) (.slice d9 M9 e9)
                    have hkD3 := Rt.cells3 HD.out.1.c2
                    obtain ⟨l0,l1',l2'⟩ := Rt.cells3 HD.out.1.c2
                    obtain ⟨l3,l4,l5⟩ := Rt.cells3 HD.out.1.c3
                    have HE := Lib.hid (HFIN.out D3 _ _ _ _ _ HD.out.1 (HD.out.2.R (hMc.R (HNa.out.2.1.R HR23.out))) (HD.out.2.R HR9.out))
                    clear hNc hMc hbc hRw))
              go_wp2_with fail;refine bodyPost_ret (v := .tuple #[.agg #[.bool s2,.slice a2 N2 c2,.slice d2 M2 e2],.agg #[.bool s9,.slice a9 N9 c9,.slice d9 M9 e9],.bool true]) (by simp [results,Tryz.results102,go_sem,l0,l1',l2',l3,l4,l5]) rfl HE.out
           | false =>
             rw [hu3,if_neg (by simp)] at hnum;cases hf2 : Dr.frac rx ng2 l3' u2 with
             | none =>
               rw [hf2] at hnum;have hnum2 : R = none := hnum;have HFIN := Lib.hid (fun (W : World) (v1 v2 : Value) (h1 : ∃ f t d,Rt.R W v1 f t d) (h2 : ∃ f t d,Rt.R W v2 f t d) (hk : Dr.Kept b w W) => show Dr.PostM b rx w R (.returned (.tuple #[v1,v2,.bool false])) W from by
                 rw [hnum2]
                 exact ⟨v1,v2,rfl,h1,h2,hk⟩)
               clear hnum hnum2;rcases hcs2 with rfl | ⟨rfl,hun1,hun2⟩;all_goals
                try rw [hun1] at KU1
                go_wp2_with (first | (go_at_call 124; refine KU1.out.mono ?_; rintro x w' ⟨rfl,hw'⟩; subst hw'));refine KF.out.mono ?_;rintro x y2 ⟨v2,s2',rfl,hR2,hs2l,hX2,hK2⟩;obtain ⟨s2,a2,N2,c2,d2,M2,e2,rfl,HR2⟩ := Dr.R_open hR2;obtain ⟨hN2,hM2⟩ := HN1.out.step hK2 hX2;have HR02 := Lib.hid (hM2.R HR1.out);obtain ⟨A1,A2,A3,⟨p1,p2,p3⟩,⟨p4,p5,p6⟩,⟨p7,p8,p9⟩,HA⟩ := hN2.put2 (.bool s2) (.slice a2 N2 c2) (.slice d2 M2 e2);have hemp : s2'.toList.isEmpty = false := by rw [ByteArray.toList_eq,hs2l,List.isEmpty_eq_false_iff]; exact HNIL.out
                have hemp2 : ¬ s2'.toList = [] := by rw [ByteArray.toList_eq,hs2l]; exact HNIL.out
                obtain ⟨k6,k7,k8⟩ := HA.out.1.x.cells;have hu2 := Dr.unit_any b rx s2' u2 A3 HA.out.1.x;rw [hs2l] at hu2;have KU2 := Lib.hid hu2;have HS2L := Lib.hid hs2l;clear hR2 hX2 hK2 hN2 hM2 hs2l hu2;try rw [hun2] at KU2
                have hsz2 : s2'.size ≤ 1048576 := by
                 rw [Dr.size_of HS2L.out];have g1 := HL2.out;have g2 := HL1.out.2;have g3 : s.data.toList.length = s.size := by simp
                 omega
                have hsn := Dr.sign_any b rx s2' u2 A3 HA.out.1.x hsz2;rw [HS2L.out] at hsn;have KS2 := Lib.hid hsn;clear hsn;rw [HSGN.out.1,HSGN.out.2.1] at KS2;go_wp2_with (first | (go_at_call 124; refine KU2.out.mono ?_; rintro x w' ⟨rfl,hw'⟩; subst hw'));refine KS2.out.mono ?_;rintro x y3 ⟨s3',rfl,hs3l,hX3,hK3⟩;obtain ⟨hN3,hM3⟩ := HA.out.1.step hK3 hX3;have HR03 := Lib.hid (hM3.R (HA.out.2.R HR02.out));have HR23 := Lib.hid (hM3.R (HA.out.2.R HR2.out));have HN3 := Lib.hid hN3;have HS3L := Lib.hid hs3l;clear hX3 hK3 hN3 hM3 hs3l p1 p2 p3 p4 p5 p6 p7 p8 p9 k6 k7 k8 HA KS2 KU2;have hu4 := Dr.unit_any b rx s3' u2 y3 HN3.out.x;rw [HS3L.out,HSGN.out.2.2.1,hu3] at hu4;have KU3 := Lib.hid hu4;have hsz3 : s3'.size ≤ 1048576 := by
                 rw [Dr.size_of HS3L.out,HSGN.out.2.2.1];have g1 := HL2.out;have g2 := HL1.out.2;have g3 : s.data.toList.length = s.size := by simp
                 have g4 := HSGN.out.2.2.2;omega
                have hfr2 := Dr.frac_any b rx s3' u2 ng2 y3 HN3.out.x hr1 hr2 hsz3;rw [HS3L.out,HSGN.out.2.2.1,hf2] at hfr2;have KF2 := Lib.hid (show Calls Tryz.prog 125 #[.pointer (some ⟨b,0,none⟩),.bool ng2] y3 (fun e w' => ∃ v s' u' f t d,e = .returned (.tuple #[v,.bool false]) ∧ Rt.R w' v f t d ∧ Dr.XA b s' rx u' w' ∧ Dr.Kept b y3 w') from hfr2);clear hu4 hfr2 hf2;go_wp2_with (first | (go_at_call 124; refine KU3.out.mono ?_; rintro x w' ⟨rfl,hw'⟩; subst hw'));refine KF2.out.mono ?_;rintro x y4 ⟨v4,s4',u4,f4,t4,dd4,rfl,hR4,hX4,hK4⟩;obtain ⟨s4,a4,N4,c4,d4,M4,e4,rfl,HR4⟩ := Dr.R_open hR4;obtain ⟨hN4,hM4⟩ := HN3.out.step hK4 hX4;obtain ⟨D1,D2,D3,⟨p10,p11,p12⟩,⟨p13,p14,p15⟩,⟨p16,p17,p18⟩,HD⟩ := hN4.put3 (.bool s4) (.slice a4 N4 c4) (.slice d4 M4 e4);have hdr9 : Below D3.heap.size D3 D3.drew := Below.drew (Below.refl _ _);obtain ⟨hNd,hMd⟩ := HD.out.1.below hdr9;obtain ⟨⟨q0,q1,q2⟩,q3,q4,q5⟩ := Dr.same3 hNd.c2;obtain ⟨⟨q6,q7,q8⟩,q9,q10,q11⟩ := Dr.same3 hNd.c3;obtain ⟨l0,l1',l2'⟩ := Rt.cells3 hNd.c2;obtain ⟨l3,l4,l5⟩ := Rt.cells3 hNd.c3;have HE := Lib.hid (HFIN.out D3.drew _ _ ⟨_,_,_,hMd.R (HD.out.2.R (hM4.R HR23.out))⟩ ⟨_,_,_,hMd.R (HD.out.2.R HR4.out)⟩ hNd.k);clear hNd hMd hdr9 HFIN hR4 hX4 hK4 hN4 hM4;go_wp2_with fail;go_region;all_goals
                 go_wp2_with fail;refine bodyPost_ret (v := .tuple #[.agg #[.bool s2,.slice a2 N2 c2,.slice d2 M2 e2],.agg #[.bool s4,.slice a4 N4 c4,.slice d4 M4 e4],.bool false]) (by simp [results,Tryz.results102,go_sem,l0,l1',l2',l3,l4,l5]) rfl HE.out
             | some x4 =>
               obtain ⟨im,l4,u4⟩ := x4;rw [hf2] at hnum;have hnum2 : R = if Dr.unit l4 = true then some (re,im,u4) else none := hnum;have HFIN := Lib.hid (fun (W : World) (v1 v2 : Value) (C2 C3 : Array Value) (sx : ByteArray) (hN : Dr.NS b rx w B p C2 C3 #[.bool s0,.slice a0 N0 c0,.slice d0 M0 e0] sx u4 W) (h1 : Rt.R W v1 re.1 re.2.1 re.2.2) (h2 : Rt.R W v2 im.1 im.2.1 im.2.2) => show Dr.PostM b rx w R (.returned (.tuple #[v1,v2,.bool (Dr.unit l4)])) W from by
                 rw [hnum2];cases Dr.unit l4
                 · exact ⟨v1,v2,rfl,⟨_,_,_,h1⟩,⟨_,_,_,h2⟩,hN.k⟩
                 · exact ⟨v1,v2,sx,rfl,h1,h2,hN.x,hN.k⟩)
               clear hnum hnum2;rcases hcs2 with rfl | ⟨rfl,hun1,hun2⟩;all_goals
                try rw [hun1] at KU1
                go_wp2_with (first | (go_at_call 124; refine KU1.out.mono ?_; rintro x w' ⟨rfl,hw'⟩; subst hw'));refine KF.out.mono ?_;rintro x y2 ⟨v2,s2',rfl,hR2,hs2l,hX2,hK2⟩;obtain ⟨s2,a2,N2,c2,d2,M2,e2,rfl,HR2⟩ := Dr.R_open hR2;obtain ⟨hN2,hM2⟩ := HN1.out.step hK2 hX2;have HR02 := Lib.hid (hM2.R HR1.out);obtain ⟨A1,A2,A3,⟨p1,p2,p3⟩,⟨p4,p5,p6⟩,⟨p7,p8,p9⟩,HA⟩ := hN2.put2 (.bool s2) (.slice a2 N2 c2) (.slice d2 M2 e2);have hemp : s2'.toList.isEmpty = false := by rw [ByteArray.toList_eq,hs2l,List.isEmpty_eq_false_iff]; exact HNIL.out
                have hemp2 : ¬ s2'.toList = [] := by rw [ByteArray.toList_eq,hs2l]; exact HNIL.out
                obtain ⟨k6,k7,k8⟩ := HA.out.1.x.cells;have hu2 := Dr.unit_any b rx s2' u2 A3 HA.out.1.x;rw [hs2l] at hu2;have KU2 := Lib.hid hu2;have HS2L := Lib.hid hs2l;clear hR2 hX2 hK2 hN2 hM2 hs2l hu2;try rw [hun2] at KU2
                have hsz2 : s2'.size ≤ 1048576 := by
                 rw [Dr.size_of HS2L.out];have g1 := HL2.out;have g2 := HL1.out.2;have g3 : s.data.toList.length = s.size := by simp
                 omega
                have hsn := Dr.sign_any b rx s2' u2 A3 HA.out.1.x hsz2;rw [HS2L.out] at hsn;have KS2 := Lib.hid hsn;clear hsn;rw [HSGN.out.1,HSGN.out.2.1] at KS2;go_wp2_with (first | (go_at_call 124; refine KU2.out.mono ?_; rintro x w' ⟨rfl,hw'⟩; subst hw'));refine KS2.out.mono ?_;rintro x y3 ⟨s3',rfl,hs3l,hX3,hK3⟩;obtain ⟨hN3,hM3⟩ := HA.out.1.step hK3 hX3;have HR03 := Lib.hid (hM3.R (HA.out.2.R HR02.out));have HR23 := Lib.hid (hM3.R (HA.out.2.R HR2.out));have HN3 := Lib.hid hN3;have HS3L := Lib.hid hs3l;clear hX3 hK3 hN3 hM3 hs3l p1 p2 p3 p4 p5 p6 p7 p8 p9 k6 k7 k8 HA KS2 KU2;have hu4 := Dr.unit_any b rx s3' u2 y3 HN3.out.x;rw [HS3L.out,HSGN.out.2.2.1,hu3] at hu4;have KU3 := Lib.hid hu4;have hsz3 : s3'.size ≤ 1048576 := by
                 rw [Dr.size_of HS3L.out,HSGN.out.2.2.1];have g1 := HL2.out;have g2 := HL1.out.2;have g3 : s.data.toList.length = s.size := by simp
                 have g4 := HSGN.out.2.2.2;omega
                have hfr2 := Dr.frac_any b rx s3' u2 ng2 y3 HN3.out.x hr1 hr2 hsz3;rw [HS3L.out,HSGN.out.2.2.1,hf2] at hfr2;have KF2 := Lib.hid (show Calls Tryz.prog 125 #[.pointer (some ⟨b,0,none⟩),.bool ng2] y3 (fun e w' => ∃ v s',e = .returned (.tuple #[v,.bool true]) ∧ Rt.R w' v im.1 im.2.1 im.2.2 ∧ s'.data.toList = l4 ∧ Dr.XA b s' rx u4 w' ∧ Dr.Kept b y3 w') from hfr2);clear hu4 hfr2 hf2;go_wp2_with (first | (go_at_call 124; refine KU3.out.mono ?_; rintro x w' ⟨rfl,hw'⟩; subst hw'));refine KF2.out.mono ?_;rintro x y4 ⟨v4,s4',rfl,hR4,hs4l,hX4,hK4⟩;obtain ⟨s4,a4,N4,c4,d4,M4,e4,rfl,HR4⟩ := Dr.R_open hR4;obtain ⟨hN4,hM4⟩ := HN3.out.step hK4 hX4;obtain ⟨D1,D2,D3,⟨p10,p11,p12⟩,⟨p13,p14,p15⟩,⟨p16,p17,p18⟩,HD⟩ := hN4.put3 (.bool s4) (.slice a4 N4 c4) (.slice d4 M4 e4);have hdr9 : Below D3.heap.size D3 D3.drew := Below.drew (Below.refl _ _);obtain ⟨hNd,hMd⟩ := HD.out.1.below hdr9;have hu5 := Dr.unit_any b rx s4' u4 D3.drew hNd.x;rw [hs4l] at hu5;have KU5 := Lib.hid hu5;obtain ⟨⟨q0,q1,q2⟩,q3,q4,q5⟩ := Dr.same3 hNd.c2;obtain ⟨⟨q6,q7,q8⟩,q9,q10,q11⟩ := Dr.same3 hNd.c3;obtain ⟨l0,l1',l2'⟩ := Rt.cells3 hNd.c2;obtain ⟨l3,l4',l5⟩ := Rt.cells3 hNd.c3;have HE := Lib.hid (HFIN.out D3.drew _ _ _ _ _ hNd (hMd.R (HD.out.2.R (hM4.R HR23.out))) (hMd.R (HD.out.2.R HR4.out)));obtain ⟨uu,huu⟩ : ∃ z,Dr.unit l4 = z := ⟨_,rfl⟩;rw [huu] at HE KU5
                clear hNd hMd hdr9 HFIN hR4 hX4 hK4 hN4 hM4 hu5 huu hs4l;go_wp2_with fail;go_region_with (go_at_call 124; refine KU5.out.mono ?_; rintro x w' ⟨rfl,hw'⟩; subst hw');all_goals
                 go_wp2_with fail;refine bodyPost_ret (v := .tuple #[.agg #[.bool s2,.slice a2 N2 c2,.slice d2 M2 e2],.agg #[.bool s4,.slice a4 N4 c4,.slice d4 M4 e4],.bool uu]) (by simp [results,Tryz.results102,go_sem,l0,l1',l2',l3,l4',l5]) rfl HE.out
end Go.Proofs.YteklhapffplohaaGreatDoor
