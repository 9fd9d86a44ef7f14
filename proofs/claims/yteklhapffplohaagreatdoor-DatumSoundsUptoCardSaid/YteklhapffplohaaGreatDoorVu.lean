/-
  exact.Read of any text. exact.Read of any text: the walk. A node is stored into a box; leaves of data.
-/
import Derived.Tactics2
import Derived.Defers
import Derived.Recover
import Derived.Laws.Pointers
import Derived.Test.YteklhapffplohaaGreatDoorVi
import Derived.Test.YteklhapffplohaaGreatDoorVg
import Derived.Test.YteklhapffplohaaGreatDoorVk
set_option linter.unusedVariables false
set_option linter.unusedSimpArgs false
namespace Go.Proofs.YteklhapffplohaaGreatDoor
open Go.RowKit
def Dr.PostR (w : World) (R : Dr.Num) (e : Ending) (w' : World) : Prop :=
 match R with
 | .ok re im => ∃ v,e = .returned (.tuple #[v,.int .i64 0]) ∧ Rt.Q w' v re.1 re.2.1 re.2.2 im.1 im.2.1 im.2.2 ∧ Rt.FrN w.heap.size v ∧ Below w.heap.size w w'
 | .err k => e = .returned (.tuple #[.agg #[.bool false,.slice none 0 0,.slice none 0 0,.bool false,.slice none 0 0,.slice none 0 0],.int .i64 k]) ∧ Below w.heap.size w w'
theorem Dr.pre_rad : ∀ (n : Nat) (l : List UInt8),l.length ≤ n → ∀ (rx : Nat) (rs ex : Bool) (rx' : Nat) (r : List UInt8),(rx = 2 ∨ rx = 8 ∨ rx = 10 ∨ rx = 16) → Dr.pre rx rs ex l = some (rx',r) → (rx' = 2 ∨ rx' = 8 ∨ rx' = 10 ∨ rx' = 16) ∧ r.length ≤ l.length
 | 0,l,hl,rx,rs,ex,rx',r,hr,h => by
   have : l = [] := List.length_eq_zero_iff.1 (by omega);subst this;rw [Dr.pre_other (by simp)] at h;simp only [Option.some.injEq,Prod.mk.injEq] at h;rw [← h.1,← h.2];exact ⟨hr,Nat.le_refl _⟩
 | n + 1,l,hl,rx,rs,ex,rx',r,hr,h => by
   by_cases h1 : l.take 1 = [35]
   · rcases l with _ | ⟨x,_ | ⟨c,t⟩⟩
     · simp at h1
     · obtain rfl : x = 35 := by simpa using h1
       rw [Dr.pre_one] at h;cases h
     · obtain rfl : x = 35 := by simpa using h1
       rw [Dr.pre_two] at h;simp only [List.length_cons] at hl;split at h
       · have := Dr.pre_rad n t (by omega) rx rs true rx' r hr h;exact ⟨this.1,by simp only [List.length_cons]; omega⟩
       · split at h
         · rename_i hd;have hd2 : 0 < Dr.radix (c ||| 32) := by
            simp only [Bool.and_eq_true,decide_eq_true_eq] at hd;exact hd.1
           have := Dr.pre_rad n t (by omega) (Dr.radix (c ||| 32)) true ex rx' r (by have := Dr.radix_cases (c ||| 32); omega) h;exact ⟨this.1,by simp only [List.length_cons]; omega⟩
         · cases h
   · rw [Dr.pre_other h1] at h;simp only [Option.some.injEq,Prod.mk.injEq] at h;rw [← h.1,← h.2];exact ⟨hr,Nat.le_refl _⟩
theorem Dr.frac_len {rx : Nat} {neg : Bool} {l r : List UInt8} {u u' : Int} {fr : Dr.Fr} (h : Dr.frac rx neg l u = some (fr,r,u')) : (Nt.dig fr.2.1).length ≤ 512 ∧ (Nt.dig fr.2.2).length ≤ 512 := by
 have h1d : (Nt.dig 1).length ≤ 512 := by rw [Nt.dig_small (by decide) (by decide)]; decide
 cases h1 : Dr.digs rx l u with
 | none => rw [Dr.frac_1 h1] at h; cases h
 | some x =>
   obtain ⟨t,r1,u1⟩ := x;have g1 := (Dr.digs_len h1).1;by_cases hs : r1.take 1 = [47]
   · cases r1 with
     | nil => simp at hs
     | cons y r2 =>
       simp at hs;subst hs;rw [Dr.frac_3 h1] at h;cases h2 : Dr.digs rx r2 u1 with
       | none => rw [h2] at h; cases h
       | some x2 =>
         obtain ⟨bt,r3,u2⟩ := x2;have g2 := (Dr.digs_len h2).1;rw [h2] at h;simp only at h;split at h
         · simp only [Option.some.injEq,Prod.mk.injEq] at h;rw [← h.1]; exact ⟨g1,h1d⟩
         · simp only [Option.some.injEq,Prod.mk.injEq] at h;rw [← h.1];exact ⟨Nat.le_trans (Nt.dig_len_mono (Nat.div_le_self _ _)) g1,Nat.le_trans (Nt.dig_len_mono (Nat.div_le_self _ _)) g2⟩
   · rw [Dr.frac_2 h1 hs] at h;simp only [Option.some.injEq,Prod.mk.injEq] at h;rw [← h.1]; exact ⟨g1,h1d⟩
theorem Dr.number_len {rx : Nat} {l : List UInt8} {re im : Dr.Fr} {u : Int} (h : Dr.number rx l = some (re,im,u)) : (Nt.dig re.2.1).length ≤ 512 ∧ (Nt.dig re.2.2).length ≤ 512 ∧ (Nt.dig im.2.1).length ≤ 512 ∧ (Nt.dig im.2.2).length ≤ 512 := by
 have h0d : (Nt.dig 0).length ≤ 512 := by rw [Nt.dig_zero]; decide
 have h1d : (Nt.dig 1).length ≤ 512 := by rw [Nt.dig_small (by decide) (by decide)]; decide
 unfold Dr.number at h;simp only at h;split at h
 · simp only [Option.some.injEq,Prod.mk.injEq] at h;obtain ⟨rfl,rfl,rfl⟩ := h;exact ⟨h0d,h1d,h1d,h1d⟩
 · cases hf : Dr.frac rx (Dr.sign l).1 (Dr.sign l).2.2 0 with
   | none => rw [hf] at h; cases h
   | some x =>
     obtain ⟨re',s2,u2⟩ := x;have g1 := Dr.frac_len hf;rw [hf] at h;simp only at h;split at h
     · simp only [Option.some.injEq,Prod.mk.injEq] at h;obtain ⟨rfl,rfl,rfl⟩ := h;exact ⟨g1.1,g1.2,h0d,h1d⟩
     · split at h
       · simp only [Option.some.injEq,Prod.mk.injEq] at h;obtain ⟨rfl,rfl,rfl⟩ := h;exact ⟨h0d,h1d,g1.1,g1.2⟩
       · split at h
         · cases h
         · split at h
           · simp only [Option.some.injEq,Prod.mk.injEq] at h;obtain ⟨rfl,rfl,rfl⟩ := h;exact ⟨g1.1,g1.2,h1d,h1d⟩
           · cases hf2 : Dr.frac rx (Dr.sign s2).1 (Dr.sign s2).2.2 u2 with
             | none => rw [hf2] at h; cases h
             | some x2 =>
               obtain ⟨im',s4,u4⟩ := x2;have g2 := Dr.frac_len hf2;rw [hf2] at h;simp only at h;split at h
               · simp only [Option.some.injEq,Prod.mk.injEq] at h;obtain ⟨rfl,rfl,rfl⟩ := h;exact ⟨g1.1,g1.2,g2.1,g2.2⟩
               · cases h
theorem Dr.Kept.toBelowB {b B : Nat} {w w1 w' : World} (h0 : Below B w w1) (hB : B ≤ b) (hw : B ≤ w1.heap.size) (h : Dr.Kept b w1 w') : Below B w w' :=
 ⟨h.os.trans h0.os,h.tape.trans h0.tape,h.output.trans h0.output,Nat.le_trans h0.size h.size,fun q hq => (h.block q (by omega) (by omega)).trans (h0.block q hq)⟩
theorem Dr.same6 {w : World} {b : Nat} {v0 v1 v2 v3 v4 v5 : Value} {t : TypeId} (h : w.heap[b]? = some (.cells #[v0,v1,v2,v3,v4,v5] t (0,0))) :
 (w.setCell ⟨b,0,none⟩ v0 = w ∧ w.setCell ⟨b,1,none⟩ v1 = w ∧ w.setCell ⟨b,2,none⟩ v2 = w ∧ w.setCell ⟨b,3,none⟩ v3 = w ∧ w.setCell ⟨b,4,none⟩ v4 = w ∧ w.setCell ⟨b,5,none⟩ v5 = w) ∧
 (w.frozen? ⟨b,0,none⟩ = false ∧ w.frozen? ⟨b,1,none⟩ = false ∧ w.frozen? ⟨b,2,none⟩ = false ∧ w.frozen? ⟨b,3,none⟩ = false ∧ w.frozen? ⟨b,4,none⟩ = false ∧ w.frozen? ⟨b,5,none⟩ = false) :=
 ⟨⟨Dr.put_same h 0 _ rfl,Dr.put_same h 1 _ rfl,Dr.put_same h 2 _ rfl,Dr.put_same h 3 _ rfl,Dr.put_same h 4 _ rfl,Dr.put_same h 5 _ rfl⟩,Rt.frozen_of h 0,Rt.frozen_of h 1,Rt.frozen_of h 2,Rt.frozen_of h 3,Rt.frozen_of h 4,Rt.frozen_of h 5⟩
set_option maxHeartbeats 16000000
set_option maxRecDepth 1000000
theorem Dr.Read_any (s : ByteArray) (w : World) (hs : s.size ≤ 1048576) :
 Calls Tryz.prog 74 #[.string s,.int .i64 10] w fun e w' => Dr.PostR w (Dr.num s.data.toList) e w' := by
 obtain ⟨R,hR⟩ : ∃ z,Dr.num s.data.toList = z := ⟨_,rfl⟩
 rw [hR]
 unfold Dr.num at hR
 have HR := Lib.hid hR
 have HLEN := Lib.hid (Dr.size_of (s := s) rfl)
 obtain ⟨B,hB⟩ : ∃ z,w.heap.size = z := ⟨_,rfl⟩
 have hal1 : Below w.heap.size w (w.alloc (.cells #[.bool false,.slice none 0 0,.slice none 0 0,.bool false,.slice none 0 0,.slice none 0 0] 26)) := (Below.refl _ _).alloc (Nat.le_refl _) _
 have hq1 := heap_alloc_new w (.cells #[.bool false,.slice none 0 0,.slice none 0 0,.bool false,.slice none 0 0,.slice none 0 0] 26)
 have hz1 : (w.alloc (.cells #[.bool false,.slice none 0 0,.slice none 0 0,.bool false,.slice none 0 0,.slice none 0 0] 26)).heap.size = B + 1 := by simp [hB]
 obtain ⟨w1,hw1⟩ : ∃ z,w.alloc (.cells #[.bool false,.slice none 0 0,.slice none 0 0,.bool false,.slice none 0 0,.slice none 0 0] 26) = z := ⟨_,rfl⟩
 rw [hw1] at hal1 hq1 hz1
 have hal2 : Below w1.heap.size w1 (w1.alloc (.cells #[.string s,.int .i64 10,.int .i64 0] 126)) := (Below.refl _ _).alloc (Nat.le_refl _) _
 have hq2 := heap_alloc_new w1 (.cells #[.string s,.int .i64 10,.int .i64 0] 126)
 have hz2 : (w1.alloc (.cells #[.string s,.int .i64 10,.int .i64 0] 126)).heap.size = B + 2 := by simp [hz1]
 obtain ⟨w2,hw2⟩ : ∃ z,w1.alloc (.cells #[.string s,.int .i64 10,.int .i64 0] 126) = z := ⟨_,rfl⟩
 rw [hw2] at hal2 hq2 hz2
 rw [hz1] at hq2
 rw [hB] at hq1 hal1
 have hq1' : w2.heap[B]? = some (.cells #[.bool false,.slice none 0 0,.slice none 0 0,.bool false,.slice none 0 0,.slice none 0 0] 26 (0,0)) := (hal2.block B (by omega)).trans hq1
 have hbel : Below B w w2 := hal1.trans (hal2.mono (by omega))
 have hx2 : Dr.XA (B + 1) s 10 0 w2 := hq2
 have HB := Lib.hid hB
 have HK := Lib.hid (fun (w' : World) (hk : Dr.Kept (B + 1) w2 w') => show w'.heap[B]? = some (.cells #[.bool false,.slice none 0 0,.slice none 0 0,.bool false,.slice none 0 0,.slice none 0 0] 26 (0,0)) ∧ Below B w w' from
   ⟨(hk.block B (by omega) (by omega)).trans hq1',Dr.Kept.toBelowB hbel (by omega) (by omega) hk⟩)
 have HERR := Lib.hid (fun (k : Int) (he : R = .err k) (w' : World) (hb : Below B w w') => show Dr.PostR w R (.returned (.tuple #[.agg #[.bool false,.slice none 0 0,.slice none 0 0,.bool false,.slice none 0 0,.slice none 0 0],.int .i64 k])) w' from by
   rw [he]; exact ⟨rfl,HB.out.symm ▸ hb⟩)
 have KP0 := Dr.pre_any (B + 1) 10 s 0 w2 hx2 hs
 clear hR hq1 hq2 hal1 hal2 hq1' hbel hx2
 cases hp : Dr.pre 10 false false s.data.toList with
 | none =>
   have hr : R = .err 5 := by rw [← HR.out,hp]
   rw [hp] at KP0
   have KP := Lib.hid (show Calls Tryz.prog 101 #[.pointer (some ⟨B + 1,0,none⟩)] w2 (fun e w' => e = .returned (.bool false) ∧ Dr.Kept (B + 1) w2 w') from KP0)
   have HER := Lib.hid (HERR.out 5 hr)
   clear KP0 hp hr HERR
   go_enter Tryz.func74,Tryz.ntmps74
   go_wp2_with fail
   refine KP.out.mono ?_
   rintro x w3 ⟨rfl,hk3⟩
   obtain ⟨hq3,hb3⟩ := HK.out w3 hk3
   have HE := Lib.hid (HER.out w3 hb3)
   obtain ⟨l0,l1,l2,l3,l4,l5⟩ := Rt.cells6 hq3
   obtain ⟨⟨c0,c1,c2,c3,c4,c5⟩,d0,d1,d2,d3,d4,d5⟩ := Dr.same6 hq3
   clear hk3 hq3 hb3 KP HER
   go_wp2_with fail
   refine bodyPost_ret (v := .tuple #[.agg #[.bool false,.slice none 0 0,.slice none 0 0,.bool false,.slice none 0 0,.slice none 0 0],.int .i64 5]) (by simp [results,Tryz.results74,go_sem,l0,l1,l2,l3,l4,l5]) rfl HE.out
 | some x =>
   obtain ⟨rx,l1⟩ := x
   rw [hp] at KP0
   have KP := Lib.hid (show Calls Tryz.prog 101 #[.pointer (some ⟨B + 1,0,none⟩)] w2 (fun e w' => ∃ s',e = .returned (.bool true) ∧ s'.data.toList = l1 ∧ Dr.XA (B + 1) s' rx 0 w' ∧ Dr.Kept (B + 1) w2 w') from KP0)
   obtain ⟨hrx,hl1⟩ := Dr.pre_rad _ s.data.toList (Nat.le_refl _) 10 false false rx l1 (by omega) hp
   have hr : R = match Dr.number rx l1 with
    | none => .err 5
    | some (re,im,w) => if 16384 < s.data.toList.length then .err 4 else if w ≠ 0 then .err w else .ok re im := by
    rw [← HR.out,hp]
    rfl
   have HL1 := Lib.hid (And.intro hrx hl1)
   have KN := Lib.hid (fun (s' : ByteArray) (hsl : s'.data.toList = l1) (w3 : World) (hx3 : Dr.XA (B + 1) s' rx 0 w3) => show Calls Tryz.prog 102 #[.pointer (some ⟨B + 1,0,none⟩)] w3 (fun e w' => Dr.PostM (B + 1) rx w3 (Dr.number rx l1) e w') from
     hsl ▸ Dr.number_any (B + 1) rx s' w3 hx3 (by omega) (by omega) (by rw [Dr.size_of hsl]; have := HLEN.out; omega))
   clear KP0 hp hrx hl1
   cases hn : Dr.number rx l1 with
   | none =>
     rw [hn] at hr KN
     have HER := Lib.hid (HERR.out 5 hr)
     clear hn hr HERR
     go_enter Tryz.func74,Tryz.ntmps74
     go_wp2_with fail
     refine KP.out.mono ?_
     rintro x w3 ⟨s',rfl,hsl,hx3,hk3⟩
     have KN3 := Lib.hid (show Calls Tryz.prog 102 #[.pointer (some ⟨B + 1,0,none⟩)] w3 (fun e w' => ∃ v1 v2,e = .returned (.tuple #[v1,v2,.bool false]) ∧ (∃ f t d,Rt.R w' v1 f t d) ∧ (∃ f t d,Rt.R w' v2 f t d) ∧ Dr.Kept (B + 1) w3 w') from KN.out s' hsl w3 hx3)
     have HK3 := Lib.hid hk3
     clear hsl hx3 hk3 KN KP
     go_wp2_with fail
     refine KN3.out.mono ?_
     rintro x w4 ⟨v1,v2,rfl,⟨f1,t1,dd1,hR1⟩,⟨f2,t2,dd2,hR2⟩,hk4⟩
     obtain ⟨s5,a5,N5,c5,d5,M5,e5,rfl,HR5⟩ := Dr.R_open hR1
     obtain ⟨s6,a6,N6,c6,d6,M6,e6,rfl,HR6⟩ := Dr.R_open hR2
     have hbW : Below w4.heap.size w4 ((w4.alloc (.cells #[.bool s5,.slice a5 N5 c5,.slice d5 M5 e5] 24)).alloc (.cells #[.bool s6,.slice a6 N6 c6,.slice d6 M6 e6] 24)) := ((Below.refl _ _).alloc (Nat.le_refl _) _).alloc (by simp) _
     have hkW := (HK3.out.trans hk4).trans (Dr.Kept.of_below hbW)
     obtain ⟨hqW,hbw⟩ := HK.out _ hkW
     have HE := Lib.hid (HER.out _ hbw)
     obtain ⟨l0,l1',l2,l3,l4,l5⟩ := Rt.cells6 hqW
     obtain ⟨⟨q0,q1,q2,q3,q4,q5⟩,g0,g1,g2,g3,g4,g5⟩ := Dr.same6 hqW
     clear hR1 hR2 KN3 hbW hkW hqW hbw hk4 HER
     go_wp2_with fail
     refine bodyPost_ret (v := .tuple #[.agg #[.bool false,.slice none 0 0,.slice none 0 0,.bool false,.slice none 0 0,.slice none 0 0],.int .i64 5]) (by simp [results,Tryz.results74,go_sem,l0,l1',l2,l3,l4,l5]) rfl HE.out
   | some y =>
     obtain ⟨re,im,u⟩ := y
     rw [hn] at hr KN
     have hr2 : R = if 16384 < s.data.toList.length then .err 4 else if u ≠ 0 then .err u else .ok re im := hr
     have hlens := Dr.number_len hn
     have HLS := Lib.hid hlens
     clear hn hr hlens
     have HRR := Lib.hid hr2
     clear hr2
     go_enter Tryz.func74,Tryz.ntmps74
     go_wp2_with fail
     refine KP.out.mono ?_
     rintro x w3 ⟨s',rfl,hsl,hx3,hk3⟩
     have KN3 := Lib.hid (show Calls Tryz.prog 102 #[.pointer (some ⟨B + 1,0,none⟩)] w3 (fun e w' => ∃ v1 v2 s',e = .returned (.tuple #[v1,v2,.bool true]) ∧ Rt.R w' v1 re.1 re.2.1 re.2.2 ∧ Rt.R w' v2 im.1 im.2.1 im.2.2 ∧ Dr.XA (B + 1) s' rx u w' ∧ Dr.Kept (B + 1) w3 w') from KN.out s' hsl w3 hx3)
     have HK3 := Lib.hid hk3
     clear hsl hx3 hk3 KN KP
     go_wp2_with fail
     refine KN3.out.mono ?_
     rintro x w4 ⟨v1,v2,s9,rfl,hR1,hR2,hx4,hk4⟩
     obtain ⟨s5,a5,N5,c5,d5,M5,e5,rfl,HR5⟩ := Dr.R_open hR1
     obtain ⟨s6,a6,N6,c6,d6,M6,e6,rfl,HR6⟩ := Dr.R_open hR2
     have hbW : Below w4.heap.size w4 ((w4.alloc (.cells #[.bool s5,.slice a5 N5 c5,.slice d5 M5 e5] 24)).alloc (.cells #[.bool s6,.slice a6 N6 c6,.slice d6 M6 e6] 24)) := ((Below.refl _ _).alloc (Nat.le_refl _) _).alloc (by simp) _
     have hkW := (HK3.out.trans hk4).trans (Dr.Kept.of_below hbW)
     obtain ⟨hqW,hbw⟩ := HK.out _ hkW
     have hxW := hx4.below hbW
     obtain ⟨k0,k1,k2⟩ := hxW.cells
     have HRW := Lib.hid (And.intro (Rt.R.below HR5.out hbW (Nat.le_refl _)) (Rt.R.below HR6.out hbW (Nat.le_refl _)))
     obtain ⟨l0,l1',l2,l3,l4,l5⟩ := Rt.cells6 hqW
     obtain ⟨⟨q0,q1,q2,q3,q4,q5⟩,g0,g1,g2,g3,g4,g5⟩ := Dr.same6 hqW
     by_cases hbig : 16384 < s.data.toList.length
     · have hr := HRR.out;rw [if_pos hbig] at hr;have HE := Lib.hid (HERR.out 4 hr _ hbw);have hbigI : 16384 < (s.size : Int) := by have := HLEN.out; omega
       clear hR1 hR2 KN3 hbW hkW hqW hbw hk4 hxW hx4 hr hbig;go_wp2_with fail;refine bodyPost_ret (v := .tuple #[.agg #[.bool false,.slice none 0 0,.slice none 0 0,.bool false,.slice none 0 0,.slice none 0 0],.int .i64 4]) (by simp [results,Tryz.results74,go_sem,l0,l1',l2,l3,l4,l5]) rfl HE.out
     have hbigI : (s.size : Int) ≤ 16384 := by have := HLEN.out; omega
     by_cases hu : u = 0
     · subst hu;have hr := HRR.out;rw [if_neg hbig,if_neg (by simp)] at hr;have KF := Lib.hid (Rt.fit_ok re.1 re.2.1 re.2.2 im.1 im.2.1 im.2.2 _ _ _ HRW.out.1 HRW.out.2 HLS.out);have HQB := Lib.hid (fun (w' : World) (hb : Below ((w4.alloc (.cells #[.bool s5,.slice a5 N5 c5,.slice d5 M5 e5] 24)).alloc (.cells #[.bool s6,.slice a6 N6 c6,.slice d6 M6 e6] 24)).heap.size ((w4.alloc (.cells #[.bool s5,.slice a5 N5 c5,.slice d5 M5 e5] 24)).alloc (.cells #[.bool s6,.slice a6 N6 c6,.slice d6 M6 e6] 24)) w') => HK.out w' (hkW.trans (Dr.Kept.of_below hb)));have hWB : B ≤ ((w4.alloc (.cells #[.bool s5,.slice a5 N5 c5,.slice d5 M5 e5] 24)).alloc (.cells #[.bool s6,.slice a6 N6 c6,.slice d6 M6 e6] 24)).heap.size := Nat.le_of_lt (Array.getElem?_eq_some_iff.1 hqW).1;have HWB := Lib.hid hWB;clear hR1 hR2 KN3 hbW hkW hqW hbw hk4 hxW hx4 hbig HRR q0 q1 q2 q3 q4 q5 g0 g1 g2 g3 g4 g5 l0 l1' l2 l3 l4 l5 hWB;go_wp2_with fail;refine KF.out.mono ?_;rintro x w6 ⟨v6,rfl,⟨tv1,bv1,tv2,bv2,rfl,i1,i2,i3,i4⟩,hfr,hb6⟩;obtain ⟨x1,y1,rfl⟩ := Nt.In.slice i1;obtain ⟨x2,y2,rfl⟩ := Nt.In.slice i2;obtain ⟨x3,y3,rfl⟩ := Nt.In.slice i3;obtain ⟨x4,y4,rfl⟩ := Nt.In.slice i4;obtain ⟨hqB,hbB⟩ := HQB.out w6 hb6;have HFR := Lib.hid (hfr.mono HWB.out);generalize (Nt.dig re.2.1).length = S1 at *;generalize (Nt.dig re.2.2).length = S2 at *;generalize (Nt.dig im.2.1).length = S3 at *;generalize (Nt.dig im.2.2).length = S4 at *
       obtain ⟨Y1,Y2,Y3,Y4,Y5,Y6,⟨g0,z0,s0⟩,⟨g1,z1,s1'⟩,⟨g2,z2,s2'⟩,⟨g3,z3,s3'⟩,⟨g4,z4,s4'⟩,⟨g5,z5,s5'⟩,⟨r0,r1,r2',r3,r4,r5⟩,HY⟩ := Rt.put6 hqB (.bool re.1) (.slice x1 S1 y1) (.slice x2 S2 y2) (.bool im.1) (.slice x3 S3 y3) (.slice x4 S4 y4);have HE : Hid (Dr.PostR w R (.returned (.tuple #[.agg #[.bool re.1,.slice x1 S1 y1,.slice x2 S2 y2,.bool im.1,.slice x3 S3 y3,.slice x4 S4 y4],.int .i64 0])) Y6) := Lib.hid (by
         rw [hr];refine ⟨_,rfl,⟨_,_,_,_,rfl,Nt.In.othr i1 hqB Rt.noWords6 HY.out.2.2.1 HY.out.2.1,Nt.In.othr i2 hqB Rt.noWords6 HY.out.2.2.1 HY.out.2.1,Nt.In.othr i3 hqB Rt.noWords6 HY.out.2.2.1 HY.out.2.1,Nt.In.othr i4 hqB Rt.noWords6 HY.out.2.2.1 HY.out.2.1⟩,?_,?_⟩
         · rw [HB.out]; exact HFR.out
         · rw [HB.out]; exact HY.out.2.2.2 _ _ hbB (Nat.le_refl _))
       have hqY := HY.out.1;obtain ⟨l0,l1',l2,l3,l4,l5⟩ := Rt.cells6 hqY;obtain ⟨⟨q0,q1,q2,q3,q4,q5⟩,p0,p1,p2,p3,p4,p5⟩ := Dr.same6 hqY;clear i1 i2 i3 i4 hqB hbB hfr hb6 HY hqY hr r0 r1 r2' r3 r4 r5 KF HQB k0 k1 k2;go_wp2_with fail;refine bodyPost_ret (v := .tuple #[.agg #[.bool re.1,.slice x1 S1 y1,.slice x2 S2 y2,.bool im.1,.slice x3 S3 y3,.slice x4 S4 y4],.int .i64 0]) (by simp [results,Tryz.results74,go_sem,l0,l1',l2,l3,l4,l5]) rfl HE.out
     · have hr := HRR.out;rw [if_neg hbig,if_pos hu] at hr;have hub : (u != 0) = true := bne_iff_ne.2 hu;have HE := Lib.hid (HERR.out u hr _ hbw.drew);have hqWd : ((w4.alloc (.cells #[.bool s5,.slice a5 N5 c5,.slice d5 M5 e5] 24)).alloc (.cells #[.bool s6,.slice a6 N6 c6,.slice d6 M6 e6] 24)).drew.heap[B]? = _ := hqW;have hxWd : Dr.XA (B + 1) s9 rx u ((w4.alloc (.cells #[.bool s5,.slice a5 N5 c5,.slice d5 M5 e5] 24)).alloc (.cells #[.bool s6,.slice a6 N6 c6,.slice d6 M6 e6] 24)).drew := hxW;obtain ⟨j0,j1,j2⟩ := hxWd.cells;obtain ⟨b0,b1,b2,b3,b4,b5⟩ := Rt.cells6 hqWd;obtain ⟨⟨f0,f1,f2,f3,f4,f5⟩,o0,o1,o2,o3,o4,o5⟩ := Dr.same6 hqWd;clear hR1 hR2 KN3 hbW hkW hqW hbw hk4 hxW hx4 hr hbig HRR hqWd hxWd HRW HK3;go_wp2_with fail;go_region;all_goals
        go_wp2_with fail;refine bodyPost_ret (v := .tuple #[.agg #[.bool false,.slice none 0 0,.slice none 0 0,.bool false,.slice none 0 0,.slice none 0 0],.int .i64 u]) (by simp [results,Tryz.results74,go_sem,b0,b1,b2,b3,b4,b5]) rfl HE.out
set_option maxHeartbeats 200000
set_option maxRecDepth 512
theorem Dr.cell_at {w : World} {b : Nat} {C : Array Value} {t : TypeId} (h : w.heap[b]? = some (.cells C t (0,0))) (k : Nat) : w.cell? ⟨b,k,none⟩ = C[k]? := by
 simp [World.cell?,h]
theorem Dr.setCs {w : World} {b : Nat} {C : Array Value} {t : TypeId} (h : w.heap[b]? = some (.cells C t (0,0))) (k : Nat) (u : Value) : (w.setCell ⟨b,k,none⟩ u).heap[b]? = some (.cells (C.set! k u) t (0,0)) := by
 obtain ⟨hlt,hk⟩ := Array.getElem?_eq_some_iff.1 h;show (w.heap.modify b _)[b]? = _;rw [Array.getElem?_eq_getElem (by rw [Array.size_modify]; exact hlt),Array.getElem_modify_self,hk];rfl
theorem Dr.cells11 {w : World} {b : Nat} {v0 v1 v2 v3 v4 v5 v6 v7 v8 v9 v10 : Value} {t : TypeId} (h : w.heap[b]? = some (.cells #[v0,v1,v2,v3,v4,v5,v6,v7,v8,v9,v10] t (0,0))) :
 w.cell? ⟨b,0,none⟩ = some v0 ∧ w.cell? ⟨b,1,none⟩ = some v1 ∧ w.cell? ⟨b,2,none⟩ = some v2 ∧ w.cell? ⟨b,3,none⟩ = some v3 ∧ w.cell? ⟨b,4,none⟩ = some v4 ∧ w.cell? ⟨b,5,none⟩ = some v5 ∧ w.cell? ⟨b,6,none⟩ = some v6 ∧ w.cell? ⟨b,7,none⟩ = some v7 ∧ w.cell? ⟨b,8,none⟩ = some v8 ∧ w.cell? ⟨b,9,none⟩ = some v9 ∧ w.cell? ⟨b,10,none⟩ = some v10 :=
 ⟨Dr.cell_at h 0,Dr.cell_at h 1,Dr.cell_at h 2,Dr.cell_at h 3,Dr.cell_at h 4,Dr.cell_at h 5,Dr.cell_at h 6,Dr.cell_at h 7,Dr.cell_at h 8,Dr.cell_at h 9,Dr.cell_at h 10⟩
theorem Dr.below_set {w0 w : World} {B : Nat} (h : Below B w0 w) (b k : Nat) (u : Value) (hb : B ≤ b) : Below B w0 (w.setCell ⟨b,k,none⟩ u) := by
 exact h.setCell hb _
theorem Dr.store11 {w : World} {b : Nat} {v0 v1 v2 v3 v4 v5 v6 v7 v8 v9 v10 : Value} {t : TypeId} (h : w.heap[b]? = some (.cells #[v0,v1,v2,v3,v4,v5,v6,v7,v8,v9,v10] t (0,0))) (u0 u1 u2 u3 u4 u5 u6 u7 u8 u9 u10 : Value) :
 w.cell? ⟨b,0,none⟩ = some v0 ∧
 w.frozen? ⟨b,0,none⟩ = false ∧
 (w.setCell ⟨b,0,none⟩ u0).cell? ⟨b,1,none⟩ = some v1 ∧
 (w.setCell ⟨b,0,none⟩ u0).frozen? ⟨b,1,none⟩ = false ∧
 ((w.setCell ⟨b,0,none⟩ u0).setCell ⟨b,1,none⟩ u1).cell? ⟨b,2,none⟩ = some v2 ∧
 ((w.setCell ⟨b,0,none⟩ u0).setCell ⟨b,1,none⟩ u1).frozen? ⟨b,2,none⟩ = false ∧
 (((w.setCell ⟨b,0,none⟩ u0).setCell ⟨b,1,none⟩ u1).setCell ⟨b,2,none⟩ u2).cell? ⟨b,3,none⟩ = some v3 ∧
 (((w.setCell ⟨b,0,none⟩ u0).setCell ⟨b,1,none⟩ u1).setCell ⟨b,2,none⟩ u2).frozen? ⟨b,3,none⟩ = false ∧
 ((((w.setCell ⟨b,0,none⟩ u0).setCell ⟨b,1,none⟩ u1).setCell ⟨b,2,none⟩ u2).setCell ⟨b,3,none⟩ u3).cell? ⟨b,4,none⟩ = some v4 ∧
 ((((w.setCell ⟨b,0,none⟩ u0).setCell ⟨b,1,none⟩ u1).setCell ⟨b,2,none⟩ u2).setCell ⟨b,3,none⟩ u3).frozen? ⟨b,4,none⟩ = false ∧
 (((((w.setCell ⟨b,0,none⟩ u0).setCell ⟨b,1,none⟩ u1).setCell ⟨b,2,none⟩ u2).setCell ⟨b,3,none⟩ u3).setCell ⟨b,4,none⟩ u4).cell? ⟨b,5,none⟩ = some v5 ∧
 (((((w.setCell ⟨b,0,none⟩ u0).setCell ⟨b,1,none⟩ u1).setCell ⟨b,2,none⟩ u2).setCell ⟨b,3,none⟩ u3).setCell ⟨b,4,none⟩ u4).frozen? ⟨b,5,none⟩ = false ∧
 ((((((w.setCell ⟨b,0,none⟩ u0).setCell ⟨b,1,none⟩ u1).setCell ⟨b,2,none⟩ u2).setCell ⟨b,3,none⟩ u3).setCell ⟨b,4,none⟩ u4).setCell ⟨b,5,none⟩ u5).cell? ⟨b,6,none⟩ = some v6 ∧
 ((((((w.setCell ⟨b,0,none⟩ u0).setCell ⟨b,1,none⟩ u1).setCell ⟨b,2,none⟩ u2).setCell ⟨b,3,none⟩ u3).setCell ⟨b,4,none⟩ u4).setCell ⟨b,5,none⟩ u5).frozen? ⟨b,6,none⟩ = false ∧
 (((((((w.setCell ⟨b,0,none⟩ u0).setCell ⟨b,1,none⟩ u1).setCell ⟨b,2,none⟩ u2).setCell ⟨b,3,none⟩ u3).setCell ⟨b,4,none⟩ u4).setCell ⟨b,5,none⟩ u5).setCell ⟨b,6,none⟩ u6).cell? ⟨b,7,none⟩ = some v7 ∧
 (((((((w.setCell ⟨b,0,none⟩ u0).setCell ⟨b,1,none⟩ u1).setCell ⟨b,2,none⟩ u2).setCell ⟨b,3,none⟩ u3).setCell ⟨b,4,none⟩ u4).setCell ⟨b,5,none⟩ u5).setCell ⟨b,6,none⟩ u6).frozen? ⟨b,7,none⟩ = false ∧
 ((((((((w.setCell ⟨b,0,none⟩ u0).setCell ⟨b,1,none⟩ u1).setCell ⟨b,2,none⟩ u2).setCell ⟨b,3,none⟩ u3).setCell ⟨b,4,none⟩ u4).setCell ⟨b,5,none⟩ u5).setCell ⟨b,6,none⟩ u6).setCell ⟨b,7,none⟩ u7).cell? ⟨b,8,none⟩ = some v8 ∧
 ((((((((w.setCell ⟨b,0,none⟩ u0).setCell ⟨b,1,none⟩ u1).setCell ⟨b,2,none⟩ u2).setCell ⟨b,3,none⟩ u3).setCell ⟨b,4,none⟩ u4).setCell ⟨b,5,none⟩ u5).setCell ⟨b,6,none⟩ u6).setCell ⟨b,7,none⟩ u7).frozen? ⟨b,8,none⟩ = false ∧
 (((((((((w.setCell ⟨b,0,none⟩ u0).setCell ⟨b,1,none⟩ u1).setCell ⟨b,2,none⟩ u2).setCell ⟨b,3,none⟩ u3).setCell ⟨b,4,none⟩ u4).setCell ⟨b,5,none⟩ u5).setCell ⟨b,6,none⟩ u6).setCell ⟨b,7,none⟩ u7).setCell ⟨b,8,none⟩ u8).cell? ⟨b,9,none⟩ = some v9 ∧
 (((((((((w.setCell ⟨b,0,none⟩ u0).setCell ⟨b,1,none⟩ u1).setCell ⟨b,2,none⟩ u2).setCell ⟨b,3,none⟩ u3).setCell ⟨b,4,none⟩ u4).setCell ⟨b,5,none⟩ u5).setCell ⟨b,6,none⟩ u6).setCell ⟨b,7,none⟩ u7).setCell ⟨b,8,none⟩ u8).frozen? ⟨b,9,none⟩ = false ∧
 ((((((((((w.setCell ⟨b,0,none⟩ u0).setCell ⟨b,1,none⟩ u1).setCell ⟨b,2,none⟩ u2).setCell ⟨b,3,none⟩ u3).setCell ⟨b,4,none⟩ u4).setCell ⟨b,5,none⟩ u5).setCell ⟨b,6,none⟩ u6).setCell ⟨b,7,none⟩ u7).setCell ⟨b,8,none⟩ u8).setCell ⟨b,9,none⟩ u9).cell? ⟨b,10,none⟩ = some v10 ∧
 ((((((((((w.setCell ⟨b,0,none⟩ u0).setCell ⟨b,1,none⟩ u1).setCell ⟨b,2,none⟩ u2).setCell ⟨b,3,none⟩ u3).setCell ⟨b,4,none⟩ u4).setCell ⟨b,5,none⟩ u5).setCell ⟨b,6,none⟩ u6).setCell ⟨b,7,none⟩ u7).setCell ⟨b,8,none⟩ u8).setCell ⟨b,9,none⟩ u9).frozen? ⟨b,10,none⟩ = false ∧
 (((((((((((w.setCell ⟨b,0,none⟩ u0).setCell ⟨b,1,none⟩ u1).setCell ⟨b,2,none⟩ u2).setCell ⟨b,3,none⟩ u3).setCell ⟨b,4,none⟩ u4).setCell ⟨b,5,none⟩ u5).setCell ⟨b,6,none⟩ u6).setCell ⟨b,7,none⟩ u7).setCell ⟨b,8,none⟩ u8).setCell ⟨b,9,none⟩ u9).setCell ⟨b,10,none⟩ u10).heap[b]? = some (.cells #[u0,u1,u2,u3,u4,u5,u6,u7,u8,u9,u10] t (0,0)) := by
 have h0 := h
 have h1 : (w.setCell ⟨b,0,none⟩ u0).heap[b]? = some (.cells #[u0,v1,v2,v3,v4,v5,v6,v7,v8,v9,v10] t (0,0)) := Dr.setCs h0 0 u0
 have h2 : ((w.setCell ⟨b,0,none⟩ u0).setCell ⟨b,1,none⟩ u1).heap[b]? = some (.cells #[u0,u1,v2,v3,v4,v5,v6,v7,v8,v9,v10] t (0,0)) := Dr.setCs h1 1 u1
 have h3 : (((w.setCell ⟨b,0,none⟩ u0).setCell ⟨b,1,none⟩ u1).setCell ⟨b,2,none⟩ u2).heap[b]? = some (.cells #[u0,u1,u2,v3,v4,v5,v6,v7,v8,v9,v10] t (0,0)) := Dr.setCs h2 2 u2
 have h4 : ((((w.setCell ⟨b,0,none⟩ u0).setCell ⟨b,1,none⟩ u1).setCell ⟨b,2,none⟩ u2).setCell ⟨b,3,none⟩ u3).heap[b]? = some (.cells #[u0,u1,u2,u3,v4,v5,v6,v7,v8,v9,v10] t (0,0)) := Dr.setCs h3 3 u3
 have h5 : (((((w.setCell ⟨b,0,none⟩ u0).setCell ⟨b,1,none⟩ u1).setCell ⟨b,2,none⟩ u2).setCell ⟨b,3,none⟩ u3).setCell ⟨b,4,none⟩ u4).heap[b]? = some (.cells #[u0,u1,u2,u3,u4,v5,v6,v7,v8,v9,v10] t (0,0)) := Dr.setCs h4 4 u4
 have h6 : ((((((w.setCell ⟨b,0,none⟩ u0).setCell ⟨b,1,none⟩ u1).setCell ⟨b,2,none⟩ u2).setCell ⟨b,3,none⟩ u3).setCell ⟨b,4,none⟩ u4).setCell ⟨b,5,none⟩ u5).heap[b]? = some (.cells #[u0,u1,u2,u3,u4,u5,v6,v7,v8,v9,v10] t (0,0)) := Dr.setCs h5 5 u5
 have h7 : (((((((w.setCell ⟨b,0,none⟩ u0).setCell ⟨b,1,none⟩ u1).setCell ⟨b,2,none⟩ u2).setCell ⟨b,3,none⟩ u3).setCell ⟨b,4,none⟩ u4).setCell ⟨b,5,none⟩ u5).setCell ⟨b,6,none⟩ u6).heap[b]? = some (.cells #[u0,u1,u2,u3,u4,u5,u6,v7,v8,v9,v10] t (0,0)) := Dr.setCs h6 6 u6
 have h8 : ((((((((w.setCell ⟨b,0,none⟩ u0).setCell ⟨b,1,none⟩ u1).setCell ⟨b,2,none⟩ u2).setCell ⟨b,3,none⟩ u3).setCell ⟨b,4,none⟩ u4).setCell ⟨b,5,none⟩ u5).setCell ⟨b,6,none⟩ u6).setCell ⟨b,7,none⟩ u7).heap[b]? = some (.cells #[u0,u1,u2,u3,u4,u5,u6,u7,v8,v9,v10] t (0,0)) := Dr.setCs h7 7 u7
 have h9 : (((((((((w.setCell ⟨b,0,none⟩ u0).setCell ⟨b,1,none⟩ u1).setCell ⟨b,2,none⟩ u2).setCell ⟨b,3,none⟩ u3).setCell ⟨b,4,none⟩ u4).setCell ⟨b,5,none⟩ u5).setCell ⟨b,6,none⟩ u6).setCell ⟨b,7,none⟩ u7).setCell ⟨b,8,none⟩ u8).heap[b]? = some (.cells #[u0,u1,u2,u3,u4,u5,u6,u7,u8,v9,v10] t (0,0)) := Dr.setCs h8 8 u8
 have h10 : ((((((((((w.setCell ⟨b,0,none⟩ u0).setCell ⟨b,1,none⟩ u1).setCell ⟨b,2,none⟩ u2).setCell ⟨b,3,none⟩ u3).setCell ⟨b,4,none⟩ u4).setCell ⟨b,5,none⟩ u5).setCell ⟨b,6,none⟩ u6).setCell ⟨b,7,none⟩ u7).setCell ⟨b,8,none⟩ u8).setCell ⟨b,9,none⟩ u9).heap[b]? = some (.cells #[u0,u1,u2,u3,u4,u5,u6,u7,u8,u9,v10] t (0,0)) := Dr.setCs h9 9 u9
 have h11 : (((((((((((w.setCell ⟨b,0,none⟩ u0).setCell ⟨b,1,none⟩ u1).setCell ⟨b,2,none⟩ u2).setCell ⟨b,3,none⟩ u3).setCell ⟨b,4,none⟩ u4).setCell ⟨b,5,none⟩ u5).setCell ⟨b,6,none⟩ u6).setCell ⟨b,7,none⟩ u7).setCell ⟨b,8,none⟩ u8).setCell ⟨b,9,none⟩ u9).setCell ⟨b,10,none⟩ u10).heap[b]? = some (.cells #[u0,u1,u2,u3,u4,u5,u6,u7,u8,u9,u10] t (0,0)) := Dr.setCs h10 10 u10
 exact ⟨Dr.cell_at h0 0,Rt.frozen_of h0 0,Dr.cell_at h1 1,Rt.frozen_of h1 1,Dr.cell_at h2 2,Rt.frozen_of h2 2,Dr.cell_at h3 3,Rt.frozen_of h3 3,Dr.cell_at h4 4,Rt.frozen_of h4 4,Dr.cell_at h5 5,Rt.frozen_of h5 5,Dr.cell_at h6 6,Rt.frozen_of h6 6,Dr.cell_at h7 7,Rt.frozen_of h7 7,Dr.cell_at h8 8,Rt.frozen_of h8 8,Dr.cell_at h9 9,Rt.frozen_of h9 9,Dr.cell_at h10 10,Rt.frozen_of h10 10,h11⟩
theorem Dr.below_store11 {w0 w : World} {B b : Nat} (h : Below B w0 w) (hb : B ≤ b) (u0 u1 u2 u3 u4 u5 u6 u7 u8 u9 u10 : Value) : Below B w0 (((((((((((w.setCell ⟨b,0,none⟩ u0).setCell ⟨b,1,none⟩ u1).setCell ⟨b,2,none⟩ u2).setCell ⟨b,3,none⟩ u3).setCell ⟨b,4,none⟩ u4).setCell ⟨b,5,none⟩ u5).setCell ⟨b,6,none⟩ u6).setCell ⟨b,7,none⟩ u7).setCell ⟨b,8,none⟩ u8).setCell ⟨b,9,none⟩ u9).setCell ⟨b,10,none⟩ u10) := by
 have h0 := h;have h1 := Dr.below_set h0 b 0 u0 hb;have h2 := Dr.below_set h1 b 1 u1 hb;have h3 := Dr.below_set h2 b 2 u2 hb;have h4 := Dr.below_set h3 b 3 u3 hb;have h5 := Dr.below_set h4 b 4 u4 hb;have h6 := Dr.below_set h5 b 5 u5 hb;have h7 := Dr.below_set h6 b 6 u6 hb;have h8 := Dr.below_set h7 b 7 u7 hb;have h9 := Dr.below_set h8 b 8 u8 hb;have h10 := Dr.below_set h9 b 9 u9 hb;have h11 := Dr.below_set h10 b 10 u10 hb;exact h11
theorem Dr.put11 {w : World} {b : Nat} {v0 v1 v2 v3 v4 v5 v6 v7 v8 v9 v10 : Value} {t : TypeId} (h : w.heap[b]? = some (.cells #[v0,v1,v2,v3,v4,v5,v6,v7,v8,v9,v10] t (0,0))) (u0 u1 u2 u3 u4 u5 u6 u7 u8 u9 u10 : Value) :
 ∃ W1 W2 W3 W4 W5 W6 W7 W8 W9 W10 W11 : World,
 (w.cell? ⟨b,0,none⟩ = some v0 ∧ w.frozen? ⟨b,0,none⟩ = false ∧ w.setCell ⟨b,0,none⟩ u0 = W1 ∧ W1.heap.size = w.heap.size) ∧
 (W1.cell? ⟨b,1,none⟩ = some v1 ∧ W1.frozen? ⟨b,1,none⟩ = false ∧ W1.setCell ⟨b,1,none⟩ u1 = W2 ∧ W2.heap.size = w.heap.size) ∧
 (W2.cell? ⟨b,2,none⟩ = some v2 ∧ W2.frozen? ⟨b,2,none⟩ = false ∧ W2.setCell ⟨b,2,none⟩ u2 = W3 ∧ W3.heap.size = w.heap.size) ∧
 (W3.cell? ⟨b,3,none⟩ = some v3 ∧ W3.frozen? ⟨b,3,none⟩ = false ∧ W3.setCell ⟨b,3,none⟩ u3 = W4 ∧ W4.heap.size = w.heap.size) ∧
 (W4.cell? ⟨b,4,none⟩ = some v4 ∧ W4.frozen? ⟨b,4,none⟩ = false ∧ W4.setCell ⟨b,4,none⟩ u4 = W5 ∧ W5.heap.size = w.heap.size) ∧
 (W5.cell? ⟨b,5,none⟩ = some v5 ∧ W5.frozen? ⟨b,5,none⟩ = false ∧ W5.setCell ⟨b,5,none⟩ u5 = W6 ∧ W6.heap.size = w.heap.size) ∧
 (W6.cell? ⟨b,6,none⟩ = some v6 ∧ W6.frozen? ⟨b,6,none⟩ = false ∧ W6.setCell ⟨b,6,none⟩ u6 = W7 ∧ W7.heap.size = w.heap.size) ∧
 (W7.cell? ⟨b,7,none⟩ = some v7 ∧ W7.frozen? ⟨b,7,none⟩ = false ∧ W7.setCell ⟨b,7,none⟩ u7 = W8 ∧ W8.heap.size = w.heap.size) ∧
 (W8.cell? ⟨b,8,none⟩ = some v8 ∧ W8.frozen? ⟨b,8,none⟩ = false ∧ W8.setCell ⟨b,8,none⟩ u8 = W9 ∧ W9.heap.size = w.heap.size) ∧
 (W9.cell? ⟨b,9,none⟩ = some v9 ∧ W9.frozen? ⟨b,9,none⟩ = false ∧ W9.setCell ⟨b,9,none⟩ u9 = W10 ∧ W10.heap.size = w.heap.size) ∧
 (W10.cell? ⟨b,10,none⟩ = some v10 ∧ W10.frozen? ⟨b,10,none⟩ = false ∧ W10.setCell ⟨b,10,none⟩ u10 = W11 ∧ W11.heap.size = w.heap.size) ∧
 W11.heap[b]? = some (.cells #[u0,u1,u2,u3,u4,u5,u6,u7,u8,u9,u10] t (0,0)) ∧
 W11.heap.size = w.heap.size ∧
 (∀ q,q ≠ b → W11.heap[q]? = w.heap[q]?) ∧
 (∀ (B : Nat) (w0 : World),Below B w0 w → B ≤ b → Below B w0 W11) := by
 obtain ⟨f0,z0,f1,z1,f2,z2,f3,z3,f4,z4,f5,z5,f6,z6,f7,z7,f8,z8,f9,z9,f10,z10,g⟩ := Dr.store11 h u0 u1 u2 u3 u4 u5 u6 u7 u8 u9 u10
 refine ⟨_,_,_,_,_,_,_,_,_,_,_,⟨f0,z0,rfl,by simp⟩,⟨f1,z1,rfl,by simp⟩,⟨f2,z2,rfl,by simp⟩,⟨f3,z3,rfl,by simp⟩,⟨f4,z4,rfl,by simp⟩,⟨f5,z5,rfl,by simp⟩,⟨f6,z6,rfl,by simp⟩,⟨f7,z7,rfl,by simp⟩,⟨f8,z8,rfl,by simp⟩,⟨f9,z9,rfl,by simp⟩,⟨f10,z10,rfl,by simp⟩,g,by simp,?_,fun B w0 h0 hb => Dr.below_store11 h0 hb u0 u1 u2 u3 u4 u5 u6 u7 u8 u9 u10⟩
 intro q hq
 rw [Below.heap_setCell _ ⟨b,10,none⟩ _ q hq]
 rw [Below.heap_setCell _ ⟨b,9,none⟩ _ q hq]
 rw [Below.heap_setCell _ ⟨b,8,none⟩ _ q hq]
 rw [Below.heap_setCell _ ⟨b,7,none⟩ _ q hq]
 rw [Below.heap_setCell _ ⟨b,6,none⟩ _ q hq]
 rw [Below.heap_setCell _ ⟨b,5,none⟩ _ q hq]
 rw [Below.heap_setCell _ ⟨b,4,none⟩ _ q hq]
 rw [Below.heap_setCell _ ⟨b,3,none⟩ _ q hq]
 rw [Below.heap_setCell _ ⟨b,2,none⟩ _ q hq]
 rw [Below.heap_setCell _ ⟨b,1,none⟩ _ q hq]
 rw [Below.heap_setCell _ ⟨b,0,none⟩ _ q hq]
def Dr.Box (B : Nat) (v0 v1 v2 v3 v4 v5 v6 v7 v8 v9 v10 : Value) (w : World) : Prop := w.heap[B]? = some (.cells #[v0,v1,v2,v3,v4,v5,v6,v7,v8,v9,v10] 30 (0,0))
def Dr.Box0 (B : Nat) (w : World) : Prop := Dr.Box B (.int .i64 0) (.int .i64 0) (.bool false) (.slice none 0 0) (.slice none 0 0) (.bool false) (.slice none 0 0) (.slice none 0 0) (.string ⟨#[]⟩) (.slice none 0 0) (.slice none 0 0) w
theorem Dr.Box0.kept {b B : Nat} {w w' : World} (h : Dr.Box0 B w) (hk : Dr.Kept b w w') (hne : B ≠ b) : Dr.Box0 B w' := (hk.block B (Array.getElem?_eq_some_iff.1 h).1 hne).trans h
theorem Dr.Box0.put {B : Nat} {w : World} (h : Dr.Box0 B w) (u0 u1 u2 u3 u4 u5 u6 u7 u8 u9 u10 : Value) :
 ∃ W1 W2 W3 W4 W5 W6 W7 W8 W9 W10 W11 : World,
 (w.cell? ⟨B,0,none⟩ = some (.int .i64 0) ∧ w.frozen? ⟨B,0,none⟩ = false ∧ w.setCell ⟨B,0,none⟩ u0 = W1) ∧
 (W1.cell? ⟨B,1,none⟩ = some (.int .i64 0) ∧ W1.frozen? ⟨B,1,none⟩ = false ∧ W1.setCell ⟨B,1,none⟩ u1 = W2) ∧
 (W2.cell? ⟨B,2,none⟩ = some (.bool false) ∧ W2.frozen? ⟨B,2,none⟩ = false ∧ W2.setCell ⟨B,2,none⟩ u2 = W3) ∧
 (W3.cell? ⟨B,3,none⟩ = some (.slice none 0 0) ∧ W3.frozen? ⟨B,3,none⟩ = false ∧ W3.setCell ⟨B,3,none⟩ u3 = W4) ∧
 (W4.cell? ⟨B,4,none⟩ = some (.slice none 0 0) ∧ W4.frozen? ⟨B,4,none⟩ = false ∧ W4.setCell ⟨B,4,none⟩ u4 = W5) ∧
 (W5.cell? ⟨B,5,none⟩ = some (.bool false) ∧ W5.frozen? ⟨B,5,none⟩ = false ∧ W5.setCell ⟨B,5,none⟩ u5 = W6) ∧
 (W6.cell? ⟨B,6,none⟩ = some (.slice none 0 0) ∧ W6.frozen? ⟨B,6,none⟩ = false ∧ W6.setCell ⟨B,6,none⟩ u6 = W7) ∧
 (W7.cell? ⟨B,7,none⟩ = some (.slice none 0 0) ∧ W7.frozen? ⟨B,7,none⟩ = false ∧ W7.setCell ⟨B,7,none⟩ u7 = W8) ∧
 (W8.cell? ⟨B,8,none⟩ = some (.string ⟨#[]⟩) ∧ W8.frozen? ⟨B,8,none⟩ = false ∧ W8.setCell ⟨B,8,none⟩ u8 = W9) ∧
 (W9.cell? ⟨B,9,none⟩ = some (.slice none 0 0) ∧ W9.frozen? ⟨B,9,none⟩ = false ∧ W9.setCell ⟨B,9,none⟩ u9 = W10) ∧
 (W10.cell? ⟨B,10,none⟩ = some (.slice none 0 0) ∧ W10.frozen? ⟨B,10,none⟩ = false ∧ W10.setCell ⟨B,10,none⟩ u10 = W11) ∧
 (W11.cell? ⟨B,0,none⟩ = some u0 ∧ W11.cell? ⟨B,1,none⟩ = some u1 ∧ W11.cell? ⟨B,2,none⟩ = some u2 ∧ W11.cell? ⟨B,3,none⟩ = some u3 ∧ W11.cell? ⟨B,4,none⟩ = some u4 ∧ W11.cell? ⟨B,5,none⟩ = some u5 ∧ W11.cell? ⟨B,6,none⟩ = some u6 ∧ W11.cell? ⟨B,7,none⟩ = some u7 ∧ W11.cell? ⟨B,8,none⟩ = some u8 ∧ W11.cell? ⟨B,9,none⟩ = some u9 ∧ W11.cell? ⟨B,10,none⟩ = some u10) ∧
 Hid (Dr.Box B u0 u1 u2 u3 u4 u5 u6 u7 u8 u9 u10 W11 ∧ W11.heap.size = w.heap.size ∧ (∀ q,q ≠ B → W11.heap[q]? = w.heap[q]?) ∧ (∀ (K : Nat) (w0 : World),Below K w0 w → K ≤ B → Below K w0 W11)) := by
 obtain ⟨W1,W2,W3,W4,W5,W6,W7,W8,W9,W10,W11,⟨a0,b0,d0,_⟩,⟨a1,b1,d1,_⟩,⟨a2,b2,d2,_⟩,⟨a3,b3,d3,_⟩,⟨a4,b4,d4,_⟩,⟨a5,b5,d5,_⟩,⟨a6,b6,d6,_⟩,⟨a7,b7,d7,_⟩,⟨a8,b8,d8,_⟩,⟨a9,b9,d9,_⟩,⟨a10,b10,d10,_⟩,k1,k2,k3,k4⟩ := Dr.put11 h u0 u1 u2 u3 u4 u5 u6 u7 u8 u9 u10
 exact ⟨W1,W2,W3,W4,W5,W6,W7,W8,W9,W10,W11,⟨a0,b0,d0⟩,⟨a1,b1,d1⟩,⟨a2,b2,d2⟩,⟨a3,b3,d3⟩,⟨a4,b4,d4⟩,⟨a5,b5,d5⟩,⟨a6,b6,d6⟩,⟨a7,b7,d7⟩,⟨a8,b8,d8⟩,⟨a9,b9,d9⟩,⟨a10,b10,d10⟩,Dr.cells11 k1,Lib.hid ⟨k1,k2,k3,k4⟩⟩
theorem Dr.Kept.put {b B : Nat} {w0 w W : World} (h : Dr.Kept b w0 w) (hB : w0.heap.size ≤ B) (hz : W.heap.size = w.heap.size) (k : ∀ (K : Nat) (z : World),Below K z w → K ≤ B → Below K z W) : Dr.Kept b w0 W := by
 have hbel : Below w0.heap.size w W := k _ _ (Below.refl _ _) hB;exact ⟨hbel.os.trans h.os,hbel.tape.trans h.tape,hbel.output.trans h.output,Nat.le_trans h.size hbel.size,fun q hq hne => (hbel.block q hq).trans (h.block q hq hne)⟩
theorem Dr.At.put {b B : Nat} {S : ByteArray} {l : List UInt8} {g : Bool} {w W : World} (h : Dr.At b S l g w) (hne : b ≠ B) (k : ∀ q,q ≠ B → W.heap[q]? = w.heap[q]?) : Dr.At b S l g W := ⟨(k b hne).trans h.blk,h.suf,h.le⟩
def Dr.leafV (k n : Int) (x : List UInt8) : Value := .agg #[.int .i64 k,.int .i64 n,.bool false,.slice none 0 0,.slice none 0 0,.bool false,.slice none 0 0,.slice none 0 0,.string ⟨x.toArray⟩,.slice none 0 0,.slice none 0 0]
theorem Dr.leaf_in {S : Nat → Prop} (k n : Int) (x : List UInt8) (w : World) (hk : 0 ≤ k ∧ k ≤ 10) (hn : 0 ≤ n ∧ n ≤ 2147483647) (hs : x.length ≤ 4294967296) : Tr.In w S (Dr.leaf k n x) (Dr.leafV k n x) := by
 unfold Dr.leaf;rw [Tr.In_mk];exact ⟨.slice none 0 0,.slice none 0 0,.slice none 0 0,.slice none 0 0,.slice none 0 0,.slice none 0 0,rfl,⟨⟨by show -9223372036854775808 ≤ k; omega,by show k ≤ 9223372036854775807; omega,by show -9223372036854775808 ≤ n; omega,by show n ≤ 9223372036854775807; omega,fun x h => by simp at h,fun x h => by simp at h,fun x h => by simp at h,fun x h => by simp at h,Nat.zero_le _,Nat.zero_le _,Nat.zero_le _,Nat.zero_le _,by show x.toArray.size ≤ maxLen; simp [maxLen]; omega,Nat.zero_le _⟩,.inl ⟨rfl,rfl⟩,.inl ⟨rfl,rfl⟩,.inl ⟨rfl,rfl⟩,.inl ⟨rfl,rfl⟩,.inl ⟨rfl,rfl⟩,fun h => absurd h (Nat.lt_irrefl 0),fun h => absurd h (Nat.lt_irrefl 0),fun h => absurd h (Nat.lt_irrefl 0),fun h => absurd h (Nat.lt_irrefl 0),fun h => absurd h (Nat.lt_irrefl 0)⟩,.inl ⟨rfl,rfl⟩⟩
structure Dr.Door (B : Nat) (w : World) : Prop where
 d : Dr.Box0 B w
 n : w.heap[B + 1]? = some (.cells #[.int .i64 0] 3 (0,0))
 e : w.heap[B + 2]? = some (.cells #[.int .i64 0] 31 (0,0))
structure Dr.Told (B : Nat) (x : Int) (w w' : World) : Prop where
 d : Dr.Box0 B w'
 n : w'.cell? ⟨B + 1,0,none⟩ = some (.int .i64 0)
 e : w'.cell? ⟨B + 2,0,none⟩ = some (.int .i64 x)
 below : ∀ (K : Nat) (z : World),Below K z w → K ≤ B → Below K z w'
theorem Dr.same11 {B : Nat} {w : World} (h : Dr.Box0 B w) :
 (w.setCell ⟨B,0,none⟩ (.int .i64 0) = w ∧ w.setCell ⟨B,1,none⟩ (.int .i64 0) = w ∧ w.setCell ⟨B,2,none⟩ (.bool false) = w ∧ w.setCell ⟨B,3,none⟩ (.slice none 0 0) = w ∧ w.setCell ⟨B,4,none⟩ (.slice none 0 0) = w ∧ w.setCell ⟨B,5,none⟩ (.bool false) = w ∧ w.setCell ⟨B,6,none⟩ (.slice none 0 0) = w ∧ w.setCell ⟨B,7,none⟩ (.slice none 0 0) = w ∧ w.setCell ⟨B,8,none⟩ (.string ⟨#[]⟩) = w ∧ w.setCell ⟨B,9,none⟩ (.slice none 0 0) = w ∧ w.setCell ⟨B,10,none⟩ (.slice none 0 0) = w) ∧
 (w.frozen? ⟨B,0,none⟩ = false ∧ w.frozen? ⟨B,1,none⟩ = false ∧ w.frozen? ⟨B,2,none⟩ = false ∧ w.frozen? ⟨B,3,none⟩ = false ∧ w.frozen? ⟨B,4,none⟩ = false ∧ w.frozen? ⟨B,5,none⟩ = false ∧ w.frozen? ⟨B,6,none⟩ = false ∧ w.frozen? ⟨B,7,none⟩ = false ∧ w.frozen? ⟨B,8,none⟩ = false ∧ w.frozen? ⟨B,9,none⟩ = false ∧ w.frozen? ⟨B,10,none⟩ = false) :=
 ⟨⟨Dr.put_same h 0 _ rfl,Dr.put_same h 1 _ rfl,Dr.put_same h 2 _ rfl,Dr.put_same h 3 _ rfl,Dr.put_same h 4 _ rfl,Dr.put_same h 5 _ rfl,Dr.put_same h 6 _ rfl,Dr.put_same h 7 _ rfl,Dr.put_same h 8 _ rfl,Dr.put_same h 9 _ rfl,Dr.put_same h 10 _ rfl⟩,
   Rt.frozen_of h 0,Rt.frozen_of h 1,Rt.frozen_of h 2,Rt.frozen_of h 3,Rt.frozen_of h 4,Rt.frozen_of h 5,Rt.frozen_of h 6,Rt.frozen_of h 7,Rt.frozen_of h 8,Rt.frozen_of h 9,Rt.frozen_of h 10⟩
theorem Dr.same1 {b : Nat} {w : World} {v : Value} {t : TypeId} (h : w.heap[b]? = some (.cells #[v] t (0,0))) : w.setCell ⟨b,0,none⟩ v = w ∧ w.frozen? ⟨b,0,none⟩ = false ∧ w.cell? ⟨b,0,none⟩ = some v :=
 ⟨Dr.put_same h 0 _ rfl,Rt.frozen_of h 0,Lib.cell_of_heap h 0⟩
theorem Dr.Door.below {B K : Nat} {w w' : World} (h : Dr.Door B w) (hb : Below K w w') (hK : B + 3 ≤ K) : Dr.Door B w' :=
 ⟨(hb.block B (by omega)).trans h.d,(hb.block (B + 1) (by omega)).trans h.n,(hb.block (B + 2) (by omega)).trans h.e⟩
theorem Dr.Door.lt {B : Nat} {w : World} (h : Dr.Door B w) : B + 2 < w.heap.size := (Array.getElem?_eq_some_iff.1 h.e).1
theorem Dr.Door.tell {B : Nat} {w : World} (h : Dr.Door B w) (x : Int) : ∃ W,w.setCell ⟨B + 2,0,none⟩ (.int .i64 x) = W ∧ Dr.Box0 B W ∧ W.heap[B + 1]? = some (.cells #[.int .i64 0] 3 (0,0)) ∧ W.heap[B + 2]? = some (.cells #[.int .i64 x] 31 (0,0)) ∧ Hid (Dr.Told B x w W) := by
 have hd : (w.setCell ⟨B + 2,0,none⟩ (.int .i64 x)).heap[B]? = w.heap[B]? := heap_setCell_other w ⟨B + 2,0,none⟩ B _ (by simp);have hn : (w.setCell ⟨B + 2,0,none⟩ (.int .i64 x)).heap[B + 1]? = w.heap[B + 1]? := heap_setCell_other w ⟨B + 2,0,none⟩ (B + 1) _ (by simp);have he : (w.setCell ⟨B + 2,0,none⟩ (.int .i64 x)).heap[B + 2]? = some (.cells #[.int .i64 x] 31 (0,0)) := heap_setCell_same w (B + 2) 0 _ _ (.int .i64 x) h.e;refine ⟨_,rfl,hd.trans h.d,hn.trans h.n,he,Lib.hid ⟨hd.trans h.d,Lib.cell_of_heap (hn.trans h.n) 0,Lib.cell_of_heap he 0,fun K z hb hK => hb.setCell (by show K ≤ B + 2; omega) _⟩⟩
set_option maxHeartbeats 4000000
set_option maxRecDepth 1000000
theorem Dr.catch_idle (p q r : Addr) (w : World) :
 CallsD Tryz.prog 19 #[.pointer (some p),.pointer (some q),.pointer (some r)] .returning w fun e u' w' => e = .returned (.tuple #[]) ∧ u' = .returning ∧ w = w' := by
 refine callsD_of_wpS Tryz.func19 rfl fun c₀ cs hu => ?_
 apply wpS_seq
 apply wpS_region
 simp [wpOpsS,go_sem,recoverD,hu,Tryz.ntmps19,Exit.thenS]
 refine wpS_of_wp ?_
 change Code.wp _ _ _ { tmps := #[.pointer (some p),.pointer (some q),.pointer (some r),.nilIface,undef,undef,.nilIface,undef,undef,undef,undef,undef,undef,undef,undef,undef,undef,undef,undef,undef],defers := [] } w
 go_wp2_with fail
 cases c₀
 simp_all [bodyPostS,results,Tryz.results19]
set_option maxHeartbeats 200000
set_option maxRecDepth 512
theorem Dr.assertF (x : Int) (w : World) : (Instr.typeAssert (.iface 51 (.agg #[.int .i64 x])) 20 51 true).run Tryz.prog w = .ok (.tuple #[.agg #[.int .i64 x],.bool true]) w := by
 first
  | (simp [Instr.typeAssert,go_sem,Tryz.underlying51]; done)
  | rfl
  | kernel_rfl
set_option maxHeartbeats 4000000
set_option maxRecDepth 1000000
theorem Dr.catch_fault (B : Nat) (x : Int) (w : World) (h : Dr.Door B w) :
 CallsD Tryz.prog 19 #[.pointer (some ⟨B,0,none⟩),.pointer (some ⟨B + 1,0,none⟩),.pointer (some ⟨B + 2,0,none⟩)] (.panicking [{ v := .iface 51 (.agg #[.int .i64 x]),recovered := false }]) w fun e u' w' =>
  e = .returned (.tuple #[]) ∧ u' = .panicking [{ v := .iface 51 (.agg #[.int .i64 x]),recovered := true }] ∧ Dr.Told B x w w' := by
 have hal : Below w.heap.size w (w.alloc (.cells #[.int .i64 x] 51)).drew := ((Below.refl _ _).alloc (Nat.le_refl _) _).drew
 have hlt := h.lt
 have hD := h.below hal (by omega)
 have hqF : (w.alloc (.cells #[.int .i64 x] 51)).drew.heap[w.heap.size]? = some (.cells #[.int .i64 x] 51 (0,0)) := heap_alloc_new w _
 obtain ⟨W,hW,hWd,hWn,hWe,HT⟩ := hD.tell x
 obtain ⟨⟨a0,a1,a2,a3,a4,a5,a6,a7,a8,a9,a10⟩,z0,z1,z2,z3,z4,z5,z6,z7,z8,z9,z10⟩ := Dr.same11 hD.d
 obtain ⟨b0,b1,b2⟩ := Dr.same1 hD.n
 obtain ⟨_,c1,c2⟩ := Dr.same1 hD.e
 obtain ⟨⟨e0,e1,e2,e3,e4,e5,e6,e7,e8,e9,e10⟩,y0,y1,y2,y3,y4,y5,y6,y7,y8,y9,y10⟩ := Dr.same11 hWd
 obtain ⟨f0,f1,f2⟩ := Dr.same1 hWn
 obtain ⟨k0,k1,k2,k3,k4,k5,k6,k7,k8,k9,k10⟩ := Dr.cells11 hD.d
 obtain ⟨m0,m1,m2,m3,m4,m5,m6,m7,m8,m9,m10⟩ := Dr.cells11 hWd
 have hcF := Lib.cell_of_heap hqF 0
 have hWF : W.cell? ⟨w.heap.size,0,none⟩ = some (.int .i64 x) := by rw [← hW]; exact (World.cell?_of_block (heap_setCell_other _ ⟨B + 2,0,none⟩ w.heap.size _ (by simp; omega))).trans hcF
 have HE := Lib.hid (show Dr.Told B x w W from ⟨HT.out.d,HT.out.n,HT.out.e,fun K z hb hK => HT.out.below K z (hb.trans (hal.mono (by omega))) hK⟩)
 have hTA := Dr.assertF x w
 clear hal hD hqF hWd hWn hWe HT h
 refine callsD_of_wpS Tryz.func19 rfl fun c₀ cs hu => ?_
 apply wpS_seq
 apply wpS_region
 simp [wpOpsS,go_sem,recoverD,hu,Tryz.ntmps19,Exit.thenS]
 refine wpS_of_wp ?_
 change Code.wp _ _ _ { tmps := #[.pointer (some ⟨B,0,none⟩),.pointer (some ⟨B + 1,0,none⟩),.pointer (some ⟨B + 2,0,none⟩),.iface 51 (.agg #[.int .i64 x]),undef,undef,.iface 51 (.agg #[.int .i64 x]),undef,undef,undef,undef,undef,undef,undef,undef,undef,undef,undef,undef,undef],defers := [] } w
 go_wp2_with fail
 go_region
 all_goals
  go_wp2_with fail
  have HT2 := HE.out
  clear a0 a1 a2 a3 a4 a5 a6 a7 a8 a9 a10 z0 z1 z2 z3 z4 z5 z6 z7 z8 z9 z10 b0 b1 b2 c1 c2 e0 e1 e2 e3 e4 e5 e6 e7 e8 e9 e10 y0 y1 y2 y3 y4 y5 y6 y7 y8 y9 y10 f0 f1 f2 k0 k1 k2 k3 k4 k5 k6 k7 k8 k9 k10 m0 m1 m2 m3 m4 m5 m6 m7 m8 m9 m10 hcF hWF hTA hW HE
  cases c₀
  simp_all [bodyPostS,results,Tryz.results19]
set_option maxHeartbeats 200000
set_option maxRecDepth 512
def Dr.PostA (b : Nat) (S : ByteArray) (l : List UInt8) (g : Bool) (w : World) (R : Option (Tr × Bool)) (e : Ending) (w' : World) : Prop :=
 match R with
 | none => e = Dr.dead ∧ Dr.Kept b w w'
 | some (t,big) => ∃ v,e = .returned v ∧ Tr.In w' (fun q => w.heap.size ≤ q) t v ∧ Dr.At b S l (g || big) w' ∧ Dr.Kept b w w'
theorem Dr.num_err {l : List UInt8} {k : Int} (h : Dr.num l = .err k) : k ≠ 0 := by
 unfold Dr.num at h;split at h
 · cases h; decide
 · split at h
   · cases h; decide
   · split at h
     · cases h; decide
     · split at h
       · rename_i hu;cases h;exact hu
       · cases h
theorem Dr.num_len {l : List UInt8} {re im : Dr.Fr} (h : Dr.num l = .ok re im) : (Nt.dig re.2.1).length ≤ 512 ∧ (Nt.dig re.2.2).length ≤ 512 ∧ (Nt.dig im.2.1).length ≤ 512 ∧ (Nt.dig im.2.2).length ≤ 512 := by
 unfold Dr.num at h;split at h
 · cases h
 · split at h
   · cases h
   · rename_i hn;split at h
     · cases h
     · split at h
       · cases h
       · cases h;exact Dr.number_len hn
def Dr.numV (s1 : Bool) (v3 v4 : Value) (s2 : Bool) (v6 v7 : Value) : Value := .agg #[.int .i64 3,.int .i64 0,.bool s1,v3,v4,.bool s2,v6,v7,.string ⟨#[]⟩,.slice none 0 0,.slice none 0 0]
theorem Dr.num_in {w : World} {B : Nat} {re im : Dr.Fr} {v3 v4 v6 v7 : Value} (h3 : Nt.In w v3 (Nt.dig re.2.1)) (h4 : Nt.In w v4 (Nt.dig re.2.2)) (h6 : Nt.In w v6 (Nt.dig im.2.1)) (h7 : Nt.In w v7 (Nt.dig im.2.2)) (f3 : Nt.Fr B v3) (f4 : Nt.Fr B v4) (f6 : Nt.Fr B v6) (f7 : Nt.Fr B v7)
 (hl : (Nt.dig re.2.1).length ≤ 512 ∧ (Nt.dig re.2.2).length ≤ 512 ∧ (Nt.dig im.2.1).length ≤ 512 ∧ (Nt.dig im.2.2).length ≤ 512) : Tr.In w (fun q => B ≤ q) (Dr.numT re im) (Dr.numV re.1 v3 v4 im.1 v6 v7) := by
 unfold Dr.numT
 rw [Tr.In_mk]
 exact ⟨v3,v4,v6,v7,.slice none 0 0,.slice none 0 0,rfl,⟨⟨show (-9223372036854775808 : Int) ≤ 3 by decide,show (3 : Int) ≤ 9223372036854775807 by decide,show (-9223372036854775808 : Int) ≤ 0 by decide,show (0 : Int) ≤ 9223372036854775807 by decide,Nt.dig_wd _,Nt.dig_wd _,Nt.dig_wd _,Nt.dig_wd _,Nat.le_trans hl.1 (by decide),Nat.le_trans hl.2.1 (by decide),Nat.le_trans hl.2.2.1 (by decide),Nat.le_trans hl.2.2.2 (by decide),Nat.zero_le _,Nat.zero_le _⟩,h3,h4,h6,h7,.inl ⟨rfl,rfl⟩,fun _ b off l c e => f3 b off l c e,fun _ b off l c e => f4 b off l c e,fun _ b off l c e => f6 b off l c e,fun _ b off l c e => f7 b off l c e,fun h => absurd h (Nat.lt_irrefl 0)⟩,.inl ⟨rfl,rfl⟩⟩
theorem Dr.At.large {b : Nat} {S : ByteArray} {l : List UInt8} {g : Bool} {w : World} (h : Dr.At b S l g w) :
 ∃ W,w.setCell ⟨b,2,none⟩ (.bool true) = W ∧ w.frozen? ⟨b,2,none⟩ = false ∧ Dr.At b S l true W ∧ Dr.Kept b w W ∧ W.heap.size = w.heap.size := by
 have hq := h.blk
 refine ⟨_,rfl,by simp [World.frozen?,hq],⟨?_,h.suf,h.le⟩,⟨rfl,rfl,rfl,by simp,fun q hq hne => ?_⟩,by simp⟩
 · have := heap_setCell_same w b 2 _ _ (.bool true) hq;exact this
 · exact heap_setCell_other w ⟨b,2,none⟩ q _ (fun e => hne (by simp [e]))
theorem Dr.fr_open {B : Nat} {s v3 v4 s2 v6 v7 : Value} (h : Rt.FrN B (.agg #[s,v3,v4,s2,v6,v7])) : Nt.Fr B v3 ∧ Nt.Fr B v4 ∧ Nt.Fr B v6 ∧ Nt.Fr B v7 := by
 obtain ⟨a,c,d,e,f,g,hv,h1,h2,h3,h4⟩ := h;simp only [Value.agg.injEq] at hv;have e1 : v3 = c := by have := congrArg (fun a : Array Value => a[1]?) hv; simpa using this
 have e2 : v4 = d := by have := congrArg (fun a : Array Value => a[2]?) hv; simpa using this
 have e3 : v6 = f := by have := congrArg (fun a : Array Value => a[4]?) hv; simpa using this
 have e4 : v7 = g := by have := congrArg (fun a : Array Value => a[5]?) hv; simpa using this
 rw [e1,e2,e3,e4];exact ⟨h1,h2,h3,h4⟩
theorem Dr.sym1_len {first : Bool} {l b r : List UInt8} (h : Dr.sym1 first l = some (b,r)) : b.length + 4 * r.length ≤ 4 * l.length := by
 have hlt := Dr.sym1_lt h;have hb : b.length ≤ 4 := by
  unfold Dr.sym1 at h;split at h
  · cases h
  · split at h
    · split at h
      · cases h
      · split at h
        · split at h
          · cases h
          · simp only [Option.some.injEq,Prod.mk.injEq] at h;rw [← h.1,show ∀ r : Int,(Lib.encodeRune r).length = (Lib.encodeRuneZ r).length from fun r => by simp [Lib.encodeRune]];exact (Lib.encodeRuneZ_length _).2
        · cases h
    · split at h
      · cases h
      · simp only [Option.some.injEq,Prod.mk.injEq] at h;rw [← h.1,show ∀ r : Int,(Lib.encodeRune r).length = (Lib.encodeRuneZ r).length from fun r => by simp [Lib.encodeRune]];exact (Lib.encodeRuneZ_length _).2
 omega
theorem Dr.syms_len : ∀ (n : Nat) (first : Bool) (l x : List UInt8),l.length ≤ n → Dr.syms first l = some x → x.length ≤ 4 * l.length
 | n,first,l,x,hl,h => by
   by_cases h0 : l = [] ∧ first = false
   · rw [Dr.syms,if_pos h0] at h;simp only [Option.some.injEq] at h;rw [← h]; simp
   · rw [Dr.syms_eq first l h0] at h;cases h1 : Dr.sym1 first l with
     | none => rw [h1] at h; cases h
     | some y =>
       obtain ⟨bb,r⟩ := y;rw [h1] at h;simp only at h;cases h2 : Dr.syms false r with
       | none => rw [h2] at h; cases h
       | some z =>
         rw [h2] at h;simp only [Option.map_some,Option.some.injEq] at h;have k1 := Dr.sym1_len h1;have k2 := Dr.sym1_lt h1;cases n with
         | zero => omega
         | succ n =>
           have k3 := Dr.syms_len n false r z (by omega) h2;rw [← h,List.length_append];omega
theorem Dr.symbol_len {l x : List UInt8} (h : Dr.symbol l = some x) : x.length ≤ 4 * l.length + 2 := by
 unfold Dr.symbol at h;split at h
 · cases h2 : Dr.syms false (l.drop 2) with
   | none => rw [h2] at h; cases h
   | some z =>
     rw [h2] at h;simp only [Option.map_some,Option.some.injEq] at h;have k := Dr.syms_len _ _ _ _ (Nat.le_refl _) h2;rw [List.length_drop] at k;rw [← h,List.length_append];simp only [List.length_cons,List.length_nil];omega
 · have k := Dr.syms_len _ _ _ _ (Nat.le_refl _) h;omega
end Go.Proofs.YteklhapffplohaaGreatDoor
