/-
  The reader's atom.
-/
import Derived.Test.YteklhapffplohaaGreatDoorVu
set_option linter.unusedVariables false
set_option linter.unusedSimpArgs false
namespace Go.Proofs.YteklhapffplohaaGreatDoor
open Go.RowKit
theorem Dr.lit_of {t : ByteArray} {c : List UInt8} (h : t.data.toList = c) : t = ⟨c.toArray⟩ := by
 apply ByteArray.ext; apply Array.ext'; rw [h]
theorem Dr.not_lit {t : ByteArray} {c : List UInt8} (h : ¬ t.data.toList = c) : (t.toList == c) = false ∧ ¬ t.toList = c := by
 rw [ByteArray.toList_eq]; exact ⟨beq_eq_false_iff_ne.2 h,h⟩
set_option maxHeartbeats 8000000
set_option maxRecDepth 1000000
theorem Dr.atom_any (b : Nat) (S : ByteArray) (g : Bool) (l : List UInt8) (t : ByteArray) (w : World) (h : Dr.At b S l g w) (hs : t.size ≤ 1048576) (hT : Dr.Tabs w) :
 Calls Tryz.prog 44 #[.pointer (some ⟨b,0,none⟩),.string t] w fun e w' => Dr.PostA b S l g w (Dr.atom t.data.toList) e w' := by
 obtain ⟨R,hR⟩ : ∃ z,Dr.atom t.data.toList = z := ⟨_,rfl⟩
 rw [hR]
 unfold Dr.atom at hR
 obtain ⟨B,hB⟩ : ∃ z,w.heap.size = z := ⟨_,rfl⟩
 have hal : Below w.heap.size w (w.alloc (.cells #[.int .i64 0,.int .i64 0,.bool false,.slice none 0 0,.slice none 0 0,.bool false,.slice none 0 0,.slice none 0 0,.string ⟨#[]⟩,.slice none 0 0,.slice none 0 0] 30)) := (Below.refl _ _).alloc (Nat.le_refl _) _
 have hz1 : (w.alloc (.cells #[.int .i64 0,.int .i64 0,.bool false,.slice none 0 0,.slice none 0 0,.bool false,.slice none 0 0,.slice none 0 0,.string ⟨#[]⟩,.slice none 0 0,.slice none 0 0] 30)).heap.size = B + 1 := by simp [hB]
 have hq1 := heap_alloc_new w (.cells #[.int .i64 0,.int .i64 0,.bool false,.slice none 0 0,.slice none 0 0,.bool false,.slice none 0 0,.slice none 0 0,.string ⟨#[]⟩,.slice none 0 0,.slice none 0 0] 30)
 obtain ⟨w1,hw1⟩ : ∃ z,(w.alloc (.cells #[.int .i64 0,.int .i64 0,.bool false,.slice none 0 0,.slice none 0 0,.bool false,.slice none 0 0,.slice none 0 0,.string ⟨#[]⟩,.slice none 0 0,.slice none 0 0] 30)) = z := ⟨_,rfl⟩
 rw [hw1] at hal hq1 hz1
 have hbB : B ≠ b := by have := h.lt; omega
 have hbx1 : Dr.Box0 w.heap.size w1 := hq1
 rw [hB] at hbx1
 have hA1 := h.below hal
 have hK1 : Dr.Kept b w w1 := Dr.Kept.of_below hal
 have HNE := Lib.hid (And.intro hT (h.tabs_ne hT))
 have HBX := Lib.hid (fun (w' : World) (hk : Below w1.heap.size w1 w') => show Dr.Box0 B w' ∧ Dr.At b S l g w' ∧ Dr.Kept b w w' ∧ Dr.Tabs w' from
   ⟨hbx1.kept (Dr.Kept.of_below hk) hbB,hA1.below hk,hK1.trans (Dr.Kept.of_below hk),Dr.tabs_kept HNE.out.1 HNE.out.2.1 HNE.out.2.2 (hK1.trans (Dr.Kept.of_below hk))⟩)
 have HDEAD := Lib.hid (fun (hr : R = none) (w' : World) (hk : Dr.Kept b w w') => show Dr.PostA b S l g w R Dr.dead w' from by rw [hr]; exact ⟨rfl,hk⟩)
 have HPUT := Lib.hid (fun (d : Tr) (big : Bool) (v : Value) (hr : R = some (d,big)) (w' : World) (hk : Dr.Kept b w w') (hA : Dr.At b S l (g || big) w') (hi : Tr.In w' (fun q => B + 1 ≤ q) d v) (W : World) (hz : W.heap.size = w'.heap.size) (ho : ∀ q,q ≠ B → W.heap[q]? = w'.heap[q]?) (hw : ∀ (K : Nat) (z : World),Below K z w' → K ≤ B → Below K z W) => show Dr.PostA b S l g w R (.returned v) W from by
   rw [hr];refine ⟨v,rfl,?_,hA.put hbB.symm ho,hk.put (Nat.le_of_eq hB) hz hw⟩
   refine Tr.In.mono (S := fun q => B + 1 ≤ q) (fun q hq => by show w.heap.size ≤ q; omega) d v (Tr.In.kept ⟨Nat.le_of_eq hz.symm,fun q hq _ => ho q (by omega)⟩ d v hi))
 obtain ⟨hbx,hA,hkw,hT1⟩ := HBX.out w1 (Below.refl _ _)
 have HZ1 := Lib.hid hz1
 have HT0 := Lib.hid hs
 clear hal hq1 hbx1 hA1 hK1 hz1 hT h
 by_cases e0 : t.data.toList = [35,116]
 · have hr : R = some (Dr.leaf 2 1 [],false) := by
    rw [← hR,e0];rfl
   obtain rfl := Dr.lit_of e0;obtain ⟨Y1,Y2,Y3,Y4,Y5,Y6,Y7,Y8,Y9,Y10,Y11,⟨g0,z0,s0⟩,⟨g1,z1,s1'⟩,⟨g2,z2,s2'⟩,⟨g3,z3,s3'⟩,⟨g4,z4,s4'⟩,⟨g5,z5,s5'⟩,⟨g6,z6,s6'⟩,⟨g7,z7,s7'⟩,⟨g8,z8,s8'⟩,⟨g9,z9,s9'⟩,⟨g10,z10,s10'⟩,⟨r0,r1,r2',r3,r4,r5,r6,r7,r8,r9,r10⟩,HY⟩ := hbx.put (.int .i64 2) (.int .i64 1) (.bool false) (.slice none 0 0) (.slice none 0 0) (.bool false) (.slice none 0 0) (.slice none 0 0) (.string ⟨#[]⟩) (.slice none 0 0) (.slice none 0 0);have HE := Lib.hid (HPUT.out _ false (Dr.leafV 2 1 []) hr w1 hkw (by rw [Bool.or_false]; exact hA) (Dr.leaf_in 2 1 [] w1 (by omega) (by omega) (by simp)) Y11 HY.out.2.1 HY.out.2.2.1 HY.out.2.2.2);clear hR e0 hr hbx hA hkw hT1 HBX HPUT HDEAD;go_enter Tryz.func44,Tryz.ntmps44;go_wp2_with fail;refine bodyPost_ret (v := Dr.leafV 2 1 []) (by simp [results,Tryz.results44,go_sem,r0,r1,r2',r3,r4,r5,r6,r7,r8,r9,r10,Dr.leafV,Dr.numV]) rfl HE.out
 obtain ⟨n0,m0⟩ := Dr.not_lit e0
 by_cases e1 : t.data.toList = [35,84]
 · have hr : R = some (Dr.leaf 2 1 [],false) := by
    rw [← hR,e1];rfl
   obtain rfl := Dr.lit_of e1;obtain ⟨Y1,Y2,Y3,Y4,Y5,Y6,Y7,Y8,Y9,Y10,Y11,⟨g0,z0,s0⟩,⟨g1,z1,s1'⟩,⟨g2,z2,s2'⟩,⟨g3,z3,s3'⟩,⟨g4,z4,s4'⟩,⟨g5,z5,s5'⟩,⟨g6,z6,s6'⟩,⟨g7,z7,s7'⟩,⟨g8,z8,s8'⟩,⟨g9,z9,s9'⟩,⟨g10,z10,s10'⟩,⟨r0,r1,r2',r3,r4,r5,r6,r7,r8,r9,r10⟩,HY⟩ := hbx.put (.int .i64 2) (.int .i64 1) (.bool false) (.slice none 0 0) (.slice none 0 0) (.bool false) (.slice none 0 0) (.slice none 0 0) (.string ⟨#[]⟩) (.slice none 0 0) (.slice none 0 0);have HE := Lib.hid (HPUT.out _ false (Dr.leafV 2 1 []) hr w1 hkw (by rw [Bool.or_false]; exact hA) (Dr.leaf_in 2 1 [] w1 (by omega) (by omega) (by simp)) Y11 HY.out.2.1 HY.out.2.2.1 HY.out.2.2.2);clear hR e1 hr hbx hA hkw hT1 HBX HPUT HDEAD e0 n0 m0;go_enter Tryz.func44,Tryz.ntmps44;go_wp2_with fail;refine bodyPost_ret (v := Dr.leafV 2 1 []) (by simp [results,Tryz.results44,go_sem,r0,r1,r2',r3,r4,r5,r6,r7,r8,r9,r10,Dr.leafV,Dr.numV]) rfl HE.out
 obtain ⟨n1,m1⟩ := Dr.not_lit e1
 by_cases e2 : t.data.toList = [35,102]
 · have hr : R = some (Dr.leaf 2 0 [],false) := by
    rw [← hR,e2];rfl
   obtain rfl := Dr.lit_of e2;obtain ⟨Y1,Y2,Y3,Y4,Y5,Y6,Y7,Y8,Y9,Y10,Y11,⟨g0,z0,s0⟩,⟨g1,z1,s1'⟩,⟨g2,z2,s2'⟩,⟨g3,z3,s3'⟩,⟨g4,z4,s4'⟩,⟨g5,z5,s5'⟩,⟨g6,z6,s6'⟩,⟨g7,z7,s7'⟩,⟨g8,z8,s8'⟩,⟨g9,z9,s9'⟩,⟨g10,z10,s10'⟩,⟨r0,r1,r2',r3,r4,r5,r6,r7,r8,r9,r10⟩,HY⟩ := hbx.put (.int .i64 2) (.int .i64 0) (.bool false) (.slice none 0 0) (.slice none 0 0) (.bool false) (.slice none 0 0) (.slice none 0 0) (.string ⟨#[]⟩) (.slice none 0 0) (.slice none 0 0);have HE := Lib.hid (HPUT.out _ false (Dr.leafV 2 0 []) hr w1 hkw (by rw [Bool.or_false]; exact hA) (Dr.leaf_in 2 0 [] w1 (by omega) (by omega) (by simp)) Y11 HY.out.2.1 HY.out.2.2.1 HY.out.2.2.2);clear hR e2 hr hbx hA hkw hT1 HBX HPUT HDEAD e0 n0 m0 e1 n1 m1;go_enter Tryz.func44,Tryz.ntmps44;go_wp2_with fail;refine bodyPost_ret (v := Dr.leafV 2 0 []) (by simp [results,Tryz.results44,go_sem,r0,r1,r2',r3,r4,r5,r6,r7,r8,r9,r10,Dr.leafV,Dr.numV]) rfl HE.out
 obtain ⟨n2,m2⟩ := Dr.not_lit e2
 by_cases e3 : t.data.toList = [35,70]
 · have hr : R = some (Dr.leaf 2 0 [],false) := by
    rw [← hR,e3];rfl
   obtain rfl := Dr.lit_of e3;obtain ⟨Y1,Y2,Y3,Y4,Y5,Y6,Y7,Y8,Y9,Y10,Y11,⟨g0,z0,s0⟩,⟨g1,z1,s1'⟩,⟨g2,z2,s2'⟩,⟨g3,z3,s3'⟩,⟨g4,z4,s4'⟩,⟨g5,z5,s5'⟩,⟨g6,z6,s6'⟩,⟨g7,z7,s7'⟩,⟨g8,z8,s8'⟩,⟨g9,z9,s9'⟩,⟨g10,z10,s10'⟩,⟨r0,r1,r2',r3,r4,r5,r6,r7,r8,r9,r10⟩,HY⟩ := hbx.put (.int .i64 2) (.int .i64 0) (.bool false) (.slice none 0 0) (.slice none 0 0) (.bool false) (.slice none 0 0) (.slice none 0 0) (.string ⟨#[]⟩) (.slice none 0 0) (.slice none 0 0);have HE := Lib.hid (HPUT.out _ false (Dr.leafV 2 0 []) hr w1 hkw (by rw [Bool.or_false]; exact hA) (Dr.leaf_in 2 0 [] w1 (by omega) (by omega) (by simp)) Y11 HY.out.2.1 HY.out.2.2.1 HY.out.2.2.2);clear hR e3 hr hbx hA hkw hT1 HBX HPUT HDEAD e0 n0 m0 e1 n1 m1 e2 n2 m2;go_enter Tryz.func44,Tryz.ntmps44;go_wp2_with fail;refine bodyPost_ret (v := Dr.leafV 2 0 []) (by simp [results,Tryz.results44,go_sem,r0,r1,r2',r3,r4,r5,r6,r7,r8,r9,r10,Dr.leafV,Dr.numV]) rfl HE.out
 obtain ⟨n3,m3⟩ := Dr.not_lit e3
 by_cases e4 : t.data.toList = [43]
 · have hr : R = some (Dr.leaf 6 0 [43],false) := by
    rw [← hR,e4];rfl
   obtain rfl := Dr.lit_of e4;obtain ⟨Y1,Y2,Y3,Y4,Y5,Y6,Y7,Y8,Y9,Y10,Y11,⟨g0,z0,s0⟩,⟨g1,z1,s1'⟩,⟨g2,z2,s2'⟩,⟨g3,z3,s3'⟩,⟨g4,z4,s4'⟩,⟨g5,z5,s5'⟩,⟨g6,z6,s6'⟩,⟨g7,z7,s7'⟩,⟨g8,z8,s8'⟩,⟨g9,z9,s9'⟩,⟨g10,z10,s10'⟩,⟨r0,r1,r2',r3,r4,r5,r6,r7,r8,r9,r10⟩,HY⟩ := hbx.put (.int .i64 6) (.int .i64 0) (.bool false) (.slice none 0 0) (.slice none 0 0) (.bool false) (.slice none 0 0) (.slice none 0 0) (.string ⟨#[43]⟩) (.slice none 0 0) (.slice none 0 0);have HE := Lib.hid (HPUT.out _ false (Dr.leafV 6 0 [43]) hr w1 hkw (by rw [Bool.or_false]; exact hA) (Dr.leaf_in 6 0 [43] w1 (by omega) (by omega) (by simp)) Y11 HY.out.2.1 HY.out.2.2.1 HY.out.2.2.2);clear hR e4 hr hbx hA hkw hT1 HBX HPUT HDEAD e0 n0 m0 e1 n1 m1 e2 n2 m2 e3 n3 m3;go_enter Tryz.func44,Tryz.ntmps44;go_wp2_with fail;refine bodyPost_ret (v := Dr.leafV 6 0 [43]) (by simp [results,Tryz.results44,go_sem,r0,r1,r2',r3,r4,r5,r6,r7,r8,r9,r10,Dr.leafV,Dr.numV]) rfl HE.out
 obtain ⟨n4,m4⟩ := Dr.not_lit e4
 by_cases e5 : t.data.toList = [45]
 · have hr : R = some (Dr.leaf 6 0 [45],false) := by
    rw [← hR,e5];rfl
   obtain rfl := Dr.lit_of e5;obtain ⟨Y1,Y2,Y3,Y4,Y5,Y6,Y7,Y8,Y9,Y10,Y11,⟨g0,z0,s0⟩,⟨g1,z1,s1'⟩,⟨g2,z2,s2'⟩,⟨g3,z3,s3'⟩,⟨g4,z4,s4'⟩,⟨g5,z5,s5'⟩,⟨g6,z6,s6'⟩,⟨g7,z7,s7'⟩,⟨g8,z8,s8'⟩,⟨g9,z9,s9'⟩,⟨g10,z10,s10'⟩,⟨r0,r1,r2',r3,r4,r5,r6,r7,r8,r9,r10⟩,HY⟩ := hbx.put (.int .i64 6) (.int .i64 0) (.bool false) (.slice none 0 0) (.slice none 0 0) (.bool false) (.slice none 0 0) (.slice none 0 0) (.string ⟨#[45]⟩) (.slice none 0 0) (.slice none 0 0);have HE := Lib.hid (HPUT.out _ false (Dr.leafV 6 0 [45]) hr w1 hkw (by rw [Bool.or_false]; exact hA) (Dr.leaf_in 6 0 [45] w1 (by omega) (by omega) (by simp)) Y11 HY.out.2.1 HY.out.2.2.1 HY.out.2.2.2);clear hR e5 hr hbx hA hkw hT1 HBX HPUT HDEAD e0 n0 m0 e1 n1 m1 e2 n2 m2 e3 n3 m3 e4 n4 m4;go_enter Tryz.func44,Tryz.ntmps44;go_wp2_with fail;refine bodyPost_ret (v := Dr.leafV 6 0 [45]) (by simp [results,Tryz.results44,go_sem,r0,r1,r2',r3,r4,r5,r6,r7,r8,r9,r10,Dr.leafV,Dr.numV]) rfl HE.out
 obtain ⟨n5,m5⟩ := Dr.not_lit e5
 by_cases e6 : t.data.toList = [46,46,46]
 · have hr : R = some (Dr.leaf 6 0 [46,46,46],false) := by
    rw [← hR,e6];rfl
   obtain rfl := Dr.lit_of e6;obtain ⟨Y1,Y2,Y3,Y4,Y5,Y6,Y7,Y8,Y9,Y10,Y11,⟨g0,z0,s0⟩,⟨g1,z1,s1'⟩,⟨g2,z2,s2'⟩,⟨g3,z3,s3'⟩,⟨g4,z4,s4'⟩,⟨g5,z5,s5'⟩,⟨g6,z6,s6'⟩,⟨g7,z7,s7'⟩,⟨g8,z8,s8'⟩,⟨g9,z9,s9'⟩,⟨g10,z10,s10'⟩,⟨r0,r1,r2',r3,r4,r5,r6,r7,r8,r9,r10⟩,HY⟩ := hbx.put (.int .i64 6) (.int .i64 0) (.bool false) (.slice none 0 0) (.slice none 0 0) (.bool false) (.slice none 0 0) (.slice none 0 0) (.string ⟨#[46,46,46]⟩) (.slice none 0 0) (.slice none 0 0);have HE := Lib.hid (HPUT.out _ false (Dr.leafV 6 0 [46,46,46]) hr w1 hkw (by rw [Bool.or_false]; exact hA) (Dr.leaf_in 6 0 [46,46,46] w1 (by omega) (by omega) (by simp)) Y11 HY.out.2.1 HY.out.2.2.1 HY.out.2.2.2);clear hR e6 hr hbx hA hkw hT1 HBX HPUT HDEAD e0 n0 m0 e1 n1 m1 e2 n2 m2 e3 n3 m3 e4 n4 m4 e5 n5 m5;go_enter Tryz.func44,Tryz.ntmps44;go_wp2_with fail;refine bodyPost_ret (v := Dr.leafV 6 0 [46,46,46]) (by simp [results,Tryz.results44,go_sem,r0,r1,r2',r3,r4,r5,r6,r7,r8,r9,r10,Dr.leafV,Dr.numV]) rfl HE.out
 obtain ⟨n6,m6⟩ := Dr.not_lit e6
 rw [if_neg (by rintro (h | h) <;> contradiction),if_neg (by rintro (h | h) <;> contradiction),if_neg (by rintro (h | h | h) <;> contradiction)] at hR
 clear e0 e1 e2 e3 e4 e5 e6
 have KR := Lib.hid (Dr.Read_any t w1 hs)
 cases hn : Dr.num t.data.toList with
 | ok re im =>
   have hr : R = some (Dr.numT re im,false) := by rw [← hR,hn]
   rw [hn] at KR
   have hlen := Dr.num_len hn
   have KR1 := Lib.hid (show Calls Tryz.prog 74 #[.string t,.int .i64 10] w1 (fun e w' => ∃ v,e = .returned (.tuple #[v,.int .i64 0]) ∧ Rt.Q w' v re.1 re.2.1 re.2.2 im.1 im.2.1 im.2.2 ∧ Rt.FrN w1.heap.size v ∧ Below w1.heap.size w1 w') from KR.out)
   clear KR hn hR hbx hA hkw hT1
   go_enter Tryz.func44,Tryz.ntmps44
   go_wp2_with fail
   refine KR1.out.mono ?_
   rintro x w2 ⟨v,rfl,⟨tv1,bv1,tv2,bv2,rfl,i1,i2,i3,i4⟩,hfr,hb2⟩
   obtain ⟨x1,y1,rfl⟩ := Nt.In.slice i1
   obtain ⟨x2,y2,rfl⟩ := Nt.In.slice i2
   obtain ⟨x3,y3,rfl⟩ := Nt.In.slice i3
   obtain ⟨x4,y4,rfl⟩ := Nt.In.slice i4
   obtain ⟨f3,f4,f6,f7⟩ := Dr.fr_open hfr
   rw [HZ1.out] at f3 f4 f6 f7
   have hin := Dr.num_in i1 i2 i3 i4 f3 f4 f6 f7 hlen
   clear i1 i2 i3 i4 f3 f4 f6 f7 hfr
   generalize (Nt.dig re.2.1).length = S1 at *
   generalize (Nt.dig re.2.2).length = S2 at *
   generalize (Nt.dig im.2.1).length = S3 at *
   generalize (Nt.dig im.2.2).length = S4 at *
   have hb3 : Below w2.heap.size w2 (w2.alloc (.cells #[.bool re.1,.slice x1 S1 y1,.slice x2 S2 y2,.bool im.1,.slice x3 S3 y3,.slice x4 S4 y4] 26)) := (Below.refl _ _).alloc (Nat.le_refl _) _
   have hb13 : Below w1.heap.size w1 (w2.alloc (.cells #[.bool re.1,.slice x1 S1 y1,.slice x2 S2 y2,.bool im.1,.slice x3 S3 y3,.slice x4 S4 y4] 26)) := hb2.trans (hb3.mono hb2.size)
   have hin3 := hin.below hb3 (Nat.le_refl _)
   obtain ⟨hbx,hA,hkw,hTx⟩ := HBX.out _ hb13
   obtain ⟨Y1,Y2,Y3,Y4,Y5,Y6,Y7,Y8,Y9,Y10,Y11,⟨g0,z0,s0⟩,⟨g1,z1,s1'⟩,⟨g2,z2,s2'⟩,⟨g3,z3,s3'⟩,⟨g4,z4,s4'⟩,⟨g5,z5,s5'⟩,⟨g6,z6,s6'⟩,⟨g7,z7,s7'⟩,⟨g8,z8,s8'⟩,⟨g9,z9,s9'⟩,⟨g10,z10,s10'⟩,⟨r0,r1,r2',r3,r4,r5,r6,r7,r8,r9,r10⟩,HY⟩ := hbx.put (.int .i64 3) (.int .i64 0) (.bool re.1) (.slice x1 S1 y1) (.slice x2 S2 y2) (.bool im.1) (.slice x3 S3 y3) (.slice x4 S4 y4) (.string ⟨#[]⟩) (.slice none 0 0) (.slice none 0 0)
   have HE := Lib.hid (HPUT.out _ false (Dr.numV re.1 (.slice x1 S1 y1) (.slice x2 S2 y2) im.1 (.slice x3 S3 y3) (.slice x4 S4 y4)) hr _ hkw (by rw [Bool.or_false]; exact hA) hin3 Y11 HY.out.2.1 HY.out.2.2.1 HY.out.2.2.2)
   clear hr hin hin3 hb2 hb3 hb13 hbx hA hkw hTx HBX HPUT HDEAD hlen
   go_wp2_with fail
   refine bodyPost_ret (v := Dr.numV re.1 (.slice x1 S1 y1) (.slice x2 S2 y2) im.1 (.slice x3 S3 y3) (.slice x4 S4 y4)) (by simp [results,Tryz.results44,go_sem,r0,r1,r2',r3,r4,r5,r6,r7,r8,r9,r10,Dr.leafV,Dr.numV]) rfl HE.out
 | err k =>
   rw [hn] at KR
   have hk0 := Dr.num_err hn
   have hr : R = if k = 4 then some (Dr.leaf 10 0 [],true) else if k = 3 then none else (Dr.symbol t.data.toList).map fun x => (Dr.leaf 6 0 x,false) := by rw [← hR,hn]
   have KR1 := Lib.hid (show Calls Tryz.prog 74 #[.string t,.int .i64 10] w1 (fun e w' => e = .returned (.tuple #[.agg #[.bool false,.slice none 0 0,.slice none 0 0,.bool false,.slice none 0 0,.slice none 0 0],.int .i64 k]) ∧ Below w1.heap.size w1 w') from KR.out)
   have hk0b : (k == 0) = false := beq_eq_false_iff_ne.2 hk0
   clear KR hn hR hbx hA hkw hT1
   by_cases h4 : k = 4
   · subst h4;rw [if_pos rfl] at hr;go_enter Tryz.func44,Tryz.ntmps44;go_wp2_with fail;refine KR1.out.mono ?_;rintro x w2 ⟨rfl,hb2⟩;have hb3 : Below w2.heap.size w2 (w2.alloc (.cells #[.bool false,.slice none 0 0,.slice none 0 0,.bool false,.slice none 0 0,.slice none 0 0] 26)) := (Below.refl _ _).alloc (Nat.le_refl _) _;have hb13 : Below w1.heap.size w1 (w2.alloc (.cells #[.bool false,.slice none 0 0,.slice none 0 0,.bool false,.slice none 0 0,.slice none 0 0] 26)) := hb2.trans (hb3.mono hb2.size);obtain ⟨hbx,hA,hkw,hTx⟩ := HBX.out _ hb13;obtain ⟨WL,eL,fL,hAL,hKL,hzL⟩ := hA.large;obtain ⟨c0,c1,c2⟩ := hA.cells;have hbL := hbx.kept hKL hbB;have hbx := hbL;obtain ⟨Y1,Y2,Y3,Y4,Y5,Y6,Y7,Y8,Y9,Y10,Y11,⟨g0,z0,s0⟩,⟨g1,z1,s1'⟩,⟨g2,z2,s2'⟩,⟨g3,z3,s3'⟩,⟨g4,z4,s4'⟩,⟨g5,z5,s5'⟩,⟨g6,z6,s6'⟩,⟨g7,z7,s7'⟩,⟨g8,z8,s8'⟩,⟨g9,z9,s9'⟩,⟨g10,z10,s10'⟩,⟨r0,r1,r2',r3,r4,r5,r6,r7,r8,r9,r10⟩,HY⟩ := hbx.put (.int .i64 10) (.int .i64 0) (.bool false) (.slice none 0 0) (.slice none 0 0) (.bool false) (.slice none 0 0) (.slice none 0 0) (.string ⟨#[]⟩) (.slice none 0 0) (.slice none 0 0);have HE := Lib.hid (HPUT.out _ true (Dr.leafV 10 0 []) hr WL (hkw.trans hKL) (by rw [Bool.or_true]; exact hAL) (Dr.leaf_in 10 0 [] WL (by omega) (by omega) (by simp)) Y11 HY.out.2.1 HY.out.2.2.1 HY.out.2.2.2);clear hr hb2 hb3 hb13 hbx hbL hA hAL hKL hkw hTx HBX HPUT HDEAD
     go_wp2_with fail;refine bodyPost_ret (v := Dr.leafV 10 0 []) (by simp [results,Tryz.results44,go_sem,r0,r1,r2',r3,r4,r5,r6,r7,r8,r9,r10,Dr.leafV,Dr.numV]) rfl HE.out
   have h4b : (k == 4) = false := beq_eq_false_iff_ne.2 h4
   rw [if_neg h4] at hr
   by_cases h3 : k = 3
   · subst h3;rw [if_pos rfl] at hr;go_enter Tryz.func44,Tryz.ntmps44;go_wp2_with fail;refine KR1.out.mono ?_;rintro x w2 ⟨rfl,hb2⟩;have hb3 : Below w2.heap.size w2 (w2.alloc (.cells #[.bool false,.slice none 0 0,.slice none 0 0,.bool false,.slice none 0 0,.slice none 0 0] 26)) := (Below.refl _ _).alloc (Nat.le_refl _) _;have hb13 : Below w1.heap.size w1 (w2.alloc (.cells #[.bool false,.slice none 0 0,.slice none 0 0,.bool false,.slice none 0 0,.slice none 0 0] 26)) := hb2.trans (hb3.mono hb2.size);obtain ⟨hbx,hA,hkw,hTx⟩ := HBX.out _ hb13;have KS := Lib.hid (fun v w' => Dr.stop_any v w');have HE := Lib.hid (HDEAD.out hr _ hkw);clear hr hb2 hb3 hb13 hbx hA hkw hTx HBX HPUT HDEAD;go_wp2_with fail;refine (KS.out _ _).mono ?_;rintro x w7 ⟨rfl,rfl⟩;unfold Dr.dead at *;go_wp2_with fail;exact ⟨rfl,HE.out⟩
   have h3b : (k == 3) = false := beq_eq_false_iff_ne.2 h3
   rw [if_neg h3] at hr
   go_enter Tryz.func44,Tryz.ntmps44
   go_wp2_with fail
   refine KR1.out.mono ?_
   rintro x w2 ⟨rfl,hb2⟩
   have hb3 : Below w2.heap.size w2 (w2.alloc (.cells #[.bool false,.slice none 0 0,.slice none 0 0,.bool false,.slice none 0 0,.slice none 0 0] 26)) := (Below.refl _ _).alloc (Nat.le_refl _) _
   have hb13 : Below w1.heap.size w1 (w2.alloc (.cells #[.bool false,.slice none 0 0,.slice none 0 0,.bool false,.slice none 0 0,.slice none 0 0] 26)) := hb2.trans (hb3.mono hb2.size)
   obtain ⟨hbx,hA,hkw,hTx⟩ := HBX.out _ hb13
   have KS := Lib.hid (fun v => Dr.symbol_any v t _ HT0.out hTx)
   cases hy : Dr.symbol t.data.toList with
   | none =>
     rw [hy] at hr KS
     have KS1 := Lib.hid (fun v => show Calls Tryz.prog 75 #[v,.string t] (w2.alloc (.cells #[.bool false,.slice none 0 0,.slice none 0 0,.bool false,.slice none 0 0,.slice none 0 0] 26)) (fun e w' => e = Dr.dead ∧ Below (w2.alloc (.cells #[.bool false,.slice none 0 0,.slice none 0 0,.bool false,.slice none 0 0,.slice none 0 0] 26)).heap.size (w2.alloc (.cells #[.bool false,.slice none 0 0,.slice none 0 0,.bool false,.slice none 0 0,.slice none 0 0] 26)) w') from KS.out v)
     clear KS hy hbx hA hTx HBX HPUT hb2 hb3 hb13
     have hr2 : R = none := hr
     have HK := Lib.hid hkw
     clear hkw hr
     go_wp2_with fail
     refine (KS1.out _).mono ?_
     rintro x w7 ⟨rfl,hb7⟩
     have HE := Lib.hid (HDEAD.out hr2 _ (HK.out.trans (Dr.Kept.of_below hb7)))
     clear hr2 hb7 HDEAD
     unfold Dr.dead at *
     go_wp2_with fail
     exact ⟨rfl,HE.out⟩
   | some x =>
     rw [hy] at hr KS
     have hxl := Dr.symbol_len hy
     have KS1 := Lib.hid (fun v => show Calls Tryz.prog 75 #[v,.string t] (w2.alloc (.cells #[.bool false,.slice none 0 0,.slice none 0 0,.bool false,.slice none 0 0,.slice none 0 0] 26)) (fun e w' => e = .returned (.string ⟨x.toArray⟩) ∧ Below (w2.alloc (.cells #[.bool false,.slice none 0 0,.slice none 0 0,.bool false,.slice none 0 0,.slice none 0 0] 26)).heap.size (w2.alloc (.cells #[.bool false,.slice none 0 0,.slice none 0 0,.bool false,.slice none 0 0,.slice none 0 0] 26)) w') from KS.out v)
     have HXL := Lib.hid (show x.length ≤ 4294967296 from by have h1 : t.data.toList.length = t.size := by simp
                                                             omega)
     have hr2 : R = some (Dr.leaf 6 0 x,false) := hr
     have HB13 := Lib.hid hb13
     clear KS hy hbx hA hkw hTx hb2 hb3 hb13 hxl hr
     go_wp2_with fail
     refine (KS1.out _).mono ?_
     rintro y w7 ⟨rfl,hb7⟩
     obtain ⟨hbx,hA,hkw,hTx⟩ := HBX.out w7 (HB13.out.trans (hb7.mono HB13.out.size))
     obtain ⟨Y1,Y2,Y3,Y4,Y5,Y6,Y7,Y8,Y9,Y10,Y11,⟨g0,z0,s0⟩,⟨g1,z1,s1'⟩,⟨g2,z2,s2'⟩,⟨g3,z3,s3'⟩,⟨g4,z4,s4'⟩,⟨g5,z5,s5'⟩,⟨g6,z6,s6'⟩,⟨g7,z7,s7'⟩,⟨g8,z8,s8'⟩,⟨g9,z9,s9'⟩,⟨g10,z10,s10'⟩,⟨r0,r1,r2',r3,r4,r5,r6,r7,r8,r9,r10⟩,HY⟩ := hbx.put (.int .i64 6) (.int .i64 0) (.bool false) (.slice none 0 0) (.slice none 0 0) (.bool false) (.slice none 0 0) (.slice none 0 0) (.string ⟨x.toArray⟩) (.slice none 0 0) (.slice none 0 0)
     have HE := Lib.hid (HPUT.out _ false (Dr.leafV 6 0 x) hr2 w7 hkw (by rw [Bool.or_false]; exact hA) (Dr.leaf_in 6 0 x w7 (by omega) (by omega) HXL.out) Y11 HY.out.2.1 HY.out.2.2.1 HY.out.2.2.2)
     clear hr2 hb7 hbx hA hkw hTx HBX HPUT HDEAD
     go_wp2_with fail
     refine bodyPost_ret (v := Dr.leafV 6 0 x) (by simp [results,Tryz.results44,go_sem,r0,r1,r2',r3,r4,r5,r6,r7,r8,r9,r10,Dr.leafV,Dr.numV]) rfl HE.out
end Go.Proofs.YteklhapffplohaaGreatDoor
