/-
  The reference's Text of a number at 10. The document's Readable, of any good datum; what it says. What is written of any readable datum is read as it: rows, lists, all.
-/
import Derived.Deep.LoopGhost
import Derived.Laws.BitsLemmas
import Derived.Test.YteklhapffplohaaGreatDoorOn
import Derived.Test.YteklhapffplohaaGreatDoorOm
import Derived.Test.YteklhapffplohaaGreatDoorOl
import Derived.Test.YteklhapffplohaaGreatDoorOd
import Derived.Test.YteklhapffplohaaGreatDoorOg
import Derived.Test.YteklhapffplohaaGreatDoorOj
set_option maxHeartbeats 4000000
set_option maxRecDepth 1000000
set_option linter.unusedVariables false
set_option linter.unusedSimpArgs false
namespace Go.Proofs.YteklhapffplohaaGreatDoor
open Go.RowKit
theorem Wt.RealR_any (s s2 : Bool) (a1 a2 a3 a4 : Option Addr) (L1 L2 L3 L4 c1 c2 c3 c4 : Nat) (w : World) :
 Calls Tryz.prog 26 #[.agg #[.bool s,.slice a1 L1 c1,.slice a2 L2 c2,.bool s2,.slice a3 L3 c3,.slice a4 L4 c4]] w fun e w' => e = .returned (.bool ((L3 : Int) == 0)) ∧ Below w.heap.size w w' := by
 have HB0 : Hid (∀ o,Below w.heap.size w (w.alloc o)) := Lib.hid (fun o => (Below.refl _ _).alloc (Nat.le_refl _) o)
 go_enter Tryz.func26,Tryz.ntmps26
 go_wp2_with fail
 go_ret
 exact ⟨rfl,HB0.out _⟩
theorem Wt.TextR_q (s : Bool) (t b : Nat) (s2 : Bool) (t2 b2 : Nat) (v : Value) (w : World) (h : Rt.Q w v s t b s2 t2 b2) (S1 : Rt.Snd s t b) (S2 : Rt.Snd s2 t2 b2) :
 Calls Tryz.prog 16 #[v,.int .i64 10] w fun e w' => e = .returned (.tuple #[.string (Tx.str (Wt.cnum s t b s2 t2 b2)),.int .i64 0]) ∧ Below w.heap.size w w' := by
 obtain ⟨tv,bv,tv2,bv2,rfl,h1,h2,h3,h4⟩ := h
 obtain ⟨L1,a1,c1,rfl,hL1⟩ := Tx.N_slice h1
 obtain ⟨L2,a2,c2,rfl,hL2⟩ := Tx.N_slice h2
 obtain ⟨L3,a3,c3,rfl,hL3⟩ := Tx.N_slice h3
 obtain ⟨L4,a4,c4,rfl,hL4⟩ := Tx.N_slice h4
 have hq : (w.alloc (.cells #[.bool s,.slice a1 L1 c1,.slice a2 L2 c2,.bool s2,.slice a3 L3 c3,.slice a4 L4 c4] 26)).heap[w.heap.size]? = some (.cells #[.bool s,.slice a1 L1 c1,.slice a2 L2 c2,.bool s2,.slice a3 L3 c3,.slice a4 L4 c4] 26 (0,0)) := heap_alloc_new w _
 have hb0 : Below w.heap.size w (w.alloc (.cells #[.bool s,.slice a1 L1 c1,.slice a2 L2 c2,.bool s2,.slice a3 L3 c3,.slice a4 L4 c4] 26)) := (Below.refl _ _).alloc (Nat.le_refl _) _
 have hz : (w.alloc (.cells #[.bool s,.slice a1 L1 c1,.slice a2 L2 c2,.bool s2,.slice a3 L3 c3,.slice a4 L4 c4] 26)).heap.size = w.heap.size + 1 := by simp
 have KS := Rn.SoundN_any s s2 (Nt.dig t) (Nt.dig b) (Nt.dig t2) (Nt.dig b2) _ _ _ _ _ (Nt.In.below h1 hb0 (Nat.le_refl _)) (Nt.In.below h2 hb0 (Nat.le_refl _)) (Nt.In.below h3 hb0 (Nat.le_refl _)) (Nt.In.below h4 hb0 (Nat.le_refl _)) ⟨Nt.dig_wd _,Nt.dig_wd _,by have := S1.l1; omega,by have := S1.l2; omega⟩ ⟨Nt.dig_wd _,Nt.dig_wd _,by have := S2.l1; omega,by have := S2.l2; omega⟩
 rw [S1.sound,S2.sound] at KS
 have KRe := Lib.hid (fun w' (hb2 : Below w.heap.size w w') => Wt.ratTextR_any s t b (.agg #[.bool s,.slice a1 L1 c1,.slice a2 L2 c2]) w' ⟨_,_,rfl,Nt.In.below h1 hb2 (Nat.le_refl _),Nt.In.below h2 hb2 (Nat.le_refl _)⟩ ⟨S1.l1,S1.l2⟩)
 have KIm := Lib.hid (fun w' (hb2 : Below w.heap.size w w') => Wt.ratTextR_any s2 t2 b2 (.agg #[.bool s2,.slice a3 L3 c3,.slice a4 L4 c4]) w' ⟨_,_,rfl,Nt.In.below h3 hb2 (Nat.le_refl _),Nt.In.below h4 hb2 (Nat.le_refl _)⟩ ⟨S2.l1,S2.l2⟩)
 have KSm := Lib.hid (fun (q : Bool) w' v2 (hb2 : Below w.heap.size w w') (hv2 : Rt.R w' v2 q 1 1) => Wt.RatSameR_any s2 t2 b2 q 1 1 (.agg #[.bool s2,.slice a3 L3 c3,.slice a4 L4 c4]) v2 w' ⟨_,_,rfl,Nt.In.below h3 hb2 (Nat.le_refl _),Nt.In.below h4 hb2 (Nat.le_refl _)⟩ hv2 ⟨S2.l1,S2.l2⟩)
 have HC : Hid (∀ w',Below (w.heap.size + 1) (w.alloc (.cells #[.bool s,.slice a1 L1 c1,.slice a2 L2 c2,.bool s2,.slice a3 L3 c3,.slice a4 L4 c4] 26)) w' → (w'.cell? ⟨w.heap.size,0,none⟩ = some (.bool s) ∧ w'.cell? ⟨w.heap.size,1,none⟩ = some (.slice a1 L1 c1) ∧ w'.cell? ⟨w.heap.size,2,none⟩ = some (.slice a2 L2 c2) ∧ w'.cell? ⟨w.heap.size,3,none⟩ = some (.bool s2) ∧ w'.cell? ⟨w.heap.size,4,none⟩ = some (.slice a3 L3 c3) ∧ w'.cell? ⟨w.heap.size,5,none⟩ = some (.slice a4 L4 c4)) ∧ Below w.heap.size w w') := Lib.hid (fun w' hb =>
   ⟨Rt.cells6 ((hb.block w.heap.size (Nat.lt_succ_self _)).trans hq),hb0.trans (hb.mono (Nat.le_succ _))⟩)
 have hf1 := Wt.few_dig S2.l1
 have hf2 := Wt.few_dig S2.l2
 have hf3 := Wt.few_dig S1.l1
 have hf4 := Wt.few_dig S1.l2
 obtain ⟨one,hone⟩ : ∃ z,(decide (t2 = 1) && decide (b2 = 1)) = z := ⟨_,rfl⟩
 obtain ⟨M,hM⟩ : ∃ z,Wt.mag t2 b2 = z := ⟨_,rfl⟩
 have hMl := Wt.mag_len hf1 hf2
 rw [hM] at hMl
 obtain ⟨S0,hS0⟩ : ∃ z,Tx.str (Tx.rat s2 t2 b2) = z := ⟨_,rfl⟩
 obtain ⟨R0,hR0⟩ : ∃ z,Tx.str (Tx.rat s t b) = z := ⟨_,rfl⟩
 have hRl := Wt.rat_len (s := s) hf3 hf4
 rw [hS0] at KIm
 rw [hR0] at KRe
 have hSM : S0 = ⟨((if s2 = true then [45] else []) ++ M).toArray⟩ := by rw [← hS0,Wt.rat_mag,hM]; rfl
 obtain ⟨n,hn⟩ : ∃ z,S0.size = z := ⟨_,rfl⟩
 obtain ⟨k,hk⟩ : ∃ z,R0.size = z := ⟨_,rfl⟩
 have hn2 : n = (if s2 = true then 1 else 0) + M.length := by rw [← hn,hSM]; show (List.toArray _).size = _; cases s2 <;> simp <;> omega
 have hk2 : k ≤ 32772 := by rw [← hk,← hR0]; show (List.toArray _).size ≤ _; simpa using hRl
 have hnn : n ≤ 40000 := by rw [hn2]; split <;> omega
 have hRE : t2 = 0 → Tx.str (Wt.cnum s t b s2 t2 b2) = R0 := fun h0 => by unfold Wt.cnum; rw [if_pos h0,hR0]
 have hCN : t2 ≠ 0 → Tx.str (Wt.cnum s t b s2 t2 b2) = (if t = 0 then ⟨#[]⟩ else R0) ++ (⟨((if s2 = true then 45 else 43) :: ((if one = true then [] else M) ++ [105])).toArray⟩ : ByteArray) := fun h0 => by
  have ho : (one = true) ↔ (t2 = 1 ∧ b2 = 1) := by rw [← hone]; simp
  unfold Wt.cnum;rw [if_neg h0,hM,← hR0];unfold Tx.str;by_cases ht : t = 0
  · apply ByteArray.ext;by_cases h12 : t2 = 1 ∧ b2 = 1 <;> simp [ht,h12,ho]
  · apply ByteArray.ext;by_cases h12 : t2 = 1 ∧ b2 = 1 <;> simp [ht,h12,ho]
 have HRE := Lib.hid hRE
 have HCN := Lib.hid hCN
 have HSM := Lib.hid hSM
 have HL1 := Lib.hid (hL1 ▸ Nt.dig_len_pos (n := t) : 0 < L1 ↔ 0 < t)
 have HL3 := Lib.hid (hL3 ▸ Nt.dig_len_pos (n := t2) : 0 < L3 ↔ 0 < t2)
 have hsz1 : (9223372036854775807 < 1 + n) = False := eq_false (by omega)
 have hsz2 : (9223372036854775807 < n + 1) = False := eq_false (by omega)
 have hsz3 : (9223372036854775807 < 1 + n + 1) = False := eq_false (by omega)
 have hsz4 : (9223372036854775807 < k + 1) = False := eq_false (by omega)
 have hsz5 : (9223372036854775807 < k + 1 + 1) = False := eq_false (by omega)
 have hsz6 : (9223372036854775807 < k + (1 + n)) = False := eq_false (by omega)
 have hsz7 : (9223372036854775807 < k + (1 + n) + 1) = False := eq_false (by omega)
 have hsz8 : (9223372036854775807 < k + n) = False := eq_false (by omega)
 have hsz9 : (9223372036854775807 < k + n + 1) = False := eq_false (by omega)
 have hsz10 : (9223372036854775807 < n) = False := eq_false (by omega)
 have HZ := Lib.hid hz
 have KX := Lib.hid (Wt.RealR_any s s2 a1 a2 a3 a4 L1 L2 L3 L4 c1 c2 c3 c4)
 have KRX := Lib.hid Wt.RadixR_ten
 rw [hone] at KSm
 rw [hz] at KS
 clear h1 h2 h3 h4 hL1 hL2 hL3 hL4 hq hb0 hz hS0 hR0 hM hMl hRl hCN hRE hSM hn2 hk2 hnn hone hf1 hf2 hf3 hf4 S1 S2
 go_enter Tryz.func16,Tryz.ntmps16
 go_wp2_with fail
 refine KS.mono ?_
 rintro x w1 ⟨rfl,hb1⟩
 have HB1 := Lib.hid hb1
 obtain ⟨⟨e0,e1,e2,e3,e4,e5⟩,hbw1⟩ := HC.out _ hb1
 have HBW1 := Lib.hid hbw1
 clear hb1 hbw1 KS
 go_wp2_with fail
 refine (KRX.out w1).mono ?_
 rintro x w1' ⟨rfl,hw1⟩
 subst hw1
 go_wp2_with fail
 refine (KX.out w1).mono ?_
 rintro x w2 ⟨rfl,hb2⟩
 have HB2 := Lib.hid (HB1.out.trans (hb2.mono (by have := HB1.out.size; simp at this; omega)))
 clear hb2 e0 e1 e2 e3 e4 e5
 obtain ⟨⟨e0,e1,e2,e3,e4,e5⟩,hbw2⟩ := HC.out _ HB2.out
 have HBW2 := Lib.hid hbw2
 clear hbw2
 rcases Nat.eq_zero_or_pos L3 with hl3 | hl3
 · subst hl3;have ht2 : t2 = 0 := by
    have := HL3.out;omega
   have HT2 := Lib.hid ht2;clear ht2;go_wp2_with fail;refine (KRe.out _ HBW2.out).mono ?_;rintro x w3 ⟨rfl,hb3⟩;have HBW3 := Lib.hid (HBW2.out.trans (hb3.mono HBW2.out.size));clear hb3;go_wp2_with fail;go_ret2;exact ⟨by rw [HRE.out HT2.out]; rfl,HBW3.out⟩
 · have hl30 : ((L3 : Int) == 0) = false := beq_eq_false_iff_ne.2 (by omega);have hcn := HCN.out (by have := HL3.out.1 hl3; omega);have HCN2 := Lib.hid hcn;clear hcn hl3;rw [hl30];have HNX : Hid (∀ w3 : World,Below (w.heap.size + 1) (w.alloc (.cells #[.bool s,.slice a1 L1 c1,.slice a2 L2 c2,.bool s2,.slice a3 L3 c3,.slice a4 L4 c4] 26)) w3 → ∃ W4,((w3.alloc (.cells #[.int .u32 1] 57)).alloc (.cells #[.int .u32 1] 57)).alloc (.cells #[.bool false,.slice (some ⟨w3.heap.size,0,none⟩) 1 1,.slice (some ⟨w3.heap.size + 1,0,none⟩) 1 1] 24) = W4 ∧ (∀ w',Below W4.heap.size W4 w' → (w'.cell? ⟨w.heap.size,0,none⟩ = some (.bool s) ∧ w'.cell? ⟨w.heap.size,1,none⟩ = some (.slice a1 L1 c1) ∧ w'.cell? ⟨w.heap.size,2,none⟩ = some (.slice a2 L2 c2) ∧ w'.cell? ⟨w.heap.size,3,none⟩ = some (.bool s2) ∧ w'.cell? ⟨w.heap.size,4,none⟩ = some (.slice a3 L3 c3) ∧ w'.cell? ⟨w.heap.size,5,none⟩ = some (.slice a4 L4 c4)) ∧ (w'.cell? ⟨w3.heap.size + 2,0,none⟩ = some (.bool false) ∧ w'.cell? ⟨w3.heap.size + 2,1,none⟩ = some (.slice (some ⟨w3.heap.size,0,none⟩) 1 1) ∧ w'.cell? ⟨w3.heap.size + 2,2,none⟩ = some (.slice (some ⟨w3.heap.size + 1,0,none⟩) 1 1)) ∧ Below w.heap.size w w' ∧ Rt.R w' (.agg #[.bool false,.slice (some ⟨w3.heap.size,0,none⟩) 1 1,.slice (some ⟨w3.heap.size + 1,0,none⟩) 1 1]) false 1 1)) := Lib.hid (fun w3 hb3 => by
     obtain ⟨W4,hW4,q0,q1,q2,qz,qb⟩ := Rt.three w3 (.cells #[.int .u32 1] 57) (.cells #[.int .u32 1] 57) (.cells #[.bool false,.slice (some ⟨w3.heap.size,0,none⟩) 1 1,.slice (some ⟨w3.heap.size + 1,0,none⟩) 1 1] 24);refine ⟨W4,hW4,fun w' hb => ?_⟩;have h0 := (hb.block w3.heap.size (by omega)).trans q0;have h1 := (hb.block (w3.heap.size + 1) (by omega)).trans q1;have h2 := (hb.block (w3.heap.size + 2) (by omega)).trans q2;have hle := hb3.size;simp at hle;have hb4 : Below (w.heap.size + 1) w3 w' := (qb.mono hle).trans (hb.mono (by omega));obtain ⟨c,cb⟩ := HC.out _ (hb3.trans hb4);have n1 : ∀ B,w'.heap[B]? = some (.cells #[.int .u32 1] 57 (0,0)) → Nt.N w' (.slice (some ⟨B,0,none⟩) 1 1) 1 := fun B hB => by
      unfold Nt.N;rw [Nt.dig_small (by decide) (by decide)];exact Nt.In.of_row (ws := [1]) hB
     exact ⟨c,Rt.cells3 h2,cb,_,_,rfl,n1 _ h0,n1 _ h1⟩)
   rcases Nat.eq_zero_or_pos L1 with hl1 | hl1
   · subst hl1;have ht : t = 0 := by
      have := HL1.out;omega
     have HT := Lib.hid ht;clear ht;obtain ⟨W4,hW4,HW4⟩ := HNX.out w2 HB2.out;have HW := Lib.hid HW4;obtain ⟨_,⟨d0,d1,d2⟩,hbw4,hone4⟩ := HW4 _ (Below.refl _ _);have HW4' := Lib.hid (And.intro hbw4 hone4);clear HW4 hbw4 hone4;obtain ⟨⟨f0,f1,f2,f3,f4,f5⟩,_⟩ := HW.out _ (Below.refl _ _);go_wp2_with fail;refine (KSm.out false _ _ HW4'.out.1 HW4'.out.2).mono ?_;rintro x w5 ⟨rfl,hb5⟩;have HB5 := Lib.hid hb5;clear d0 d1 d2 f0 f1 f2 f3 f4 f5;obtain ⟨⟨f0,f1,f2,f3,f4,f5⟩,⟨d0,d1,d2⟩,hbw5,hone5⟩ := HW.out _ hb5;have HW5 := Lib.hid (And.intro hbw5 hone5);clear hbw5 hone5 hb5;have hMin := Lib.hid (fun (w' : World) (hb : Below W4.heap.size W4 w') => Wt.MinusR_any false 1 1 _ w' (HW.out w' hb).2.2.2);have hS := Lib.hid (fun (w' : World) (hb : Below W4.heap.size W4 w') => And.intro (HW.out w' hb).1 (HW.out w' hb).2.1);have HBF := HB5;cases s2
     · cases one
       · clear HBF;go_wp2_with fail;have hacc : Below W4.heap.size W4 w5.drew := HB5.out.drew;have hkeep := hS.out _ hacc;go_region_held3 (fun w' => (w'.cell? ⟨w.heap.size,0,none⟩ = some (.bool s) ∧ w'.cell? ⟨w.heap.size,1,none⟩ = some (.slice a1 0 c1) ∧ w'.cell? ⟨w.heap.size,2,none⟩ = some (.slice a2 L2 c2) ∧ w'.cell? ⟨w.heap.size,3,none⟩ = some (.bool false) ∧ w'.cell? ⟨w.heap.size,4,none⟩ = some (.slice a3 L3 c3) ∧ w'.cell? ⟨w.heap.size,5,none⟩ = some (.slice a4 L4 c4)) ∧ (w'.cell? ⟨w2.heap.size + 2,0,none⟩ = some (.bool false) ∧ w'.cell? ⟨w2.heap.size + 2,1,none⟩ = some (.slice (some ⟨w2.heap.size,0,none⟩) 1 1) ∧ w'.cell? ⟨w2.heap.size + 2,2,none⟩ = some (.slice (some ⟨w2.heap.size + 1,0,none⟩) 1 1)))
          (first | exact hkeep)
          (first
            | (go_at_call 29
               refine (hMin.out _ hacc).mono ?_
               rintro x w6 ⟨v6,rfl,hv6,hb6⟩
               have hv6 : Rt.R w6 v6 true 1 1 := hv6
               have hacc := hacc.trans (hb6.mono hacc.size)
               have hkeep := hS.out _ hacc)
            | (go_at_call 28
               refine (KSm.out true _ _ (HW.out _ hacc).2.2.1 hv6).mono ?_
               rintro x w7 ⟨rfl,hb7⟩
               have hacc := hacc.trans (hb7.mono hacc.size)
               have hkeep := hS.out _ hacc))
         have HB7 := Lib.hid hacc;obtain ⟨⟨f0,f1,f2,f3,f4,f5⟩,⟨d0,d1,d2⟩⟩ := hkeep;clear hacc hb6 hb7 hv6 hkeep;go_wp2_with fail;refine (KIm.out _ (HW.out _ HB7.out).2.2.1).mono ?_;rintro x w8 ⟨rfl,hb8⟩;have HBF := Lib.hid (HB7.out.trans (hb8.mono HB7.out.size));clear hb8;go_wp2_with fail;go_ret2;refine ⟨Tx.ret2 ?_,(HW.out _ HBF.out).2.2.1⟩;rw [HCN2.out];try rw [HSM.out]
         apply ByteArray.ext;first | (simp [HT.out]; done) | (simp [HT.out]; apply Array.ext'; simp)
       · go_wp2_with fail;go_ret2;refine ⟨Tx.ret2 ?_,(HW.out _ HBF.out).2.2.1⟩;rw [HCN2.out];try rw [HSM.out]
         apply ByteArray.ext;first | (simp [HT.out]; done) | (simp [HT.out]; apply Array.ext'; simp)
     · cases one
       · clear HBF;go_wp2_with fail;have hacc : Below W4.heap.size W4 w5.drew := HB5.out.drew;have hkeep := hS.out _ hacc;go_region_held3 (fun w' => (w'.cell? ⟨w.heap.size,0,none⟩ = some (.bool s) ∧ w'.cell? ⟨w.heap.size,1,none⟩ = some (.slice a1 0 c1) ∧ w'.cell? ⟨w.heap.size,2,none⟩ = some (.slice a2 L2 c2) ∧ w'.cell? ⟨w.heap.size,3,none⟩ = some (.bool true) ∧ w'.cell? ⟨w.heap.size,4,none⟩ = some (.slice a3 L3 c3) ∧ w'.cell? ⟨w.heap.size,5,none⟩ = some (.slice a4 L4 c4)) ∧ (w'.cell? ⟨w2.heap.size + 2,0,none⟩ = some (.bool false) ∧ w'.cell? ⟨w2.heap.size + 2,1,none⟩ = some (.slice (some ⟨w2.heap.size,0,none⟩) 1 1) ∧ w'.cell? ⟨w2.heap.size + 2,2,none⟩ = some (.slice (some ⟨w2.heap.size + 1,0,none⟩) 1 1)))
          (first | exact hkeep)
          (first
            | (go_at_call 29
               refine (hMin.out _ hacc).mono ?_
               rintro x w6 ⟨v6,rfl,hv6,hb6⟩
               have hv6 : Rt.R w6 v6 true 1 1 := hv6
               have hacc := hacc.trans (hb6.mono hacc.size)
               have hkeep := hS.out _ hacc)
            | (go_at_call 28
               refine (KSm.out true _ _ (HW.out _ hacc).2.2.1 hv6).mono ?_
               rintro x w7 ⟨rfl,hb7⟩
               have hacc := hacc.trans (hb7.mono hacc.size)
               have hkeep := hS.out _ hacc))
         have HB7 := Lib.hid hacc;obtain ⟨⟨f0,f1,f2,f3,f4,f5⟩,⟨d0,d1,d2⟩⟩ := hkeep;clear hacc hb6 hb7 hv6 hkeep;go_wp2_with fail;refine (KIm.out _ (HW.out _ HB7.out).2.2.1).mono ?_;rintro x w8 ⟨rfl,hb8⟩;have HBF := Lib.hid (HB7.out.trans (hb8.mono HB7.out.size));clear hb8;go_wp2_with fail;go_ret2;refine ⟨Tx.ret2 ?_,(HW.out _ HBF.out).2.2.1⟩;rw [HCN2.out];try rw [HSM.out]
         apply ByteArray.ext;first | (simp [HT.out]; done) | (simp [HT.out]; apply Array.ext'; simp)
       · clear HBF;go_wp2_with fail;have hacc : Below W4.heap.size W4 w5.drew := HB5.out.drew;have hkeep := hS.out _ hacc;go_region_held3 (fun w' => (w'.cell? ⟨w.heap.size,0,none⟩ = some (.bool s) ∧ w'.cell? ⟨w.heap.size,1,none⟩ = some (.slice a1 0 c1) ∧ w'.cell? ⟨w.heap.size,2,none⟩ = some (.slice a2 L2 c2) ∧ w'.cell? ⟨w.heap.size,3,none⟩ = some (.bool true) ∧ w'.cell? ⟨w.heap.size,4,none⟩ = some (.slice a3 L3 c3) ∧ w'.cell? ⟨w.heap.size,5,none⟩ = some (.slice a4 L4 c4)) ∧ (w'.cell? ⟨w2.heap.size + 2,0,none⟩ = some (.bool false) ∧ w'.cell? ⟨w2.heap.size + 2,1,none⟩ = some (.slice (some ⟨w2.heap.size,0,none⟩) 1 1) ∧ w'.cell? ⟨w2.heap.size + 2,2,none⟩ = some (.slice (some ⟨w2.heap.size + 1,0,none⟩) 1 1)))
          (first | exact hkeep)
          (first
            | (go_at_call 29
               refine (hMin.out _ hacc).mono ?_
               rintro x w6 ⟨v6,rfl,hv6,hb6⟩
               have hv6 : Rt.R w6 v6 true 1 1 := hv6
               have hacc := hacc.trans (hb6.mono hacc.size)
               have hkeep := hS.out _ hacc)
            | (go_at_call 28
               refine (KSm.out true _ _ (HW.out _ hacc).2.2.1 hv6).mono ?_
               rintro x w7 ⟨rfl,hb7⟩
               have hacc := hacc.trans (hb7.mono hacc.size)
               have hkeep := hS.out _ hacc))
         have HB7 := Lib.hid hacc;obtain ⟨⟨f0,f1,f2,f3,f4,f5⟩,⟨d0,d1,d2⟩⟩ := hkeep;clear hacc hb6 hb7 hv6 hkeep;have HBF := HB7;go_wp2_with fail;go_ret2;refine ⟨Tx.ret2 ?_,(HW.out _ HBF.out).2.2.1⟩;rw [HCN2.out];try rw [HSM.out]
         apply ByteArray.ext;first | (simp [HT.out]; done) | (simp [HT.out]; apply Array.ext'; simp)
   · have hl10 : (0 : Int) < (L1 : Int) := by omega
     have ht : t ≠ 0 := by
      have := HL1.out;omega
     have HT := Lib.hid ht;clear ht;go_wp2_with fail;refine (KRe.out _ HBW2.out).mono ?_;rintro x w3 ⟨rfl,hb3⟩;have HB3 := Lib.hid (HB2.out.trans (hb3.mono (by have := HB2.out.size; simp at this; omega)));clear hb3 e0 e1 e2 e3 e4 e5;obtain ⟨⟨e0,e1,e2,e3,e4,e5⟩,hbw3⟩ := HC.out _ HB3.out;clear hbw3;obtain ⟨W4,hW4,HW4⟩ := HNX.out w3 HB3.out;have HW := Lib.hid HW4;obtain ⟨_,⟨d0,d1,d2⟩,hbw4,hone4⟩ := HW4 _ (Below.refl _ _);have HW4' := Lib.hid (And.intro hbw4 hone4);clear HW4 hbw4 hone4;obtain ⟨⟨f0,f1,f2,f3,f4,f5⟩,_⟩ := HW.out _ (Below.refl _ _);go_wp2_with fail;refine (KSm.out false _ _ HW4'.out.1 HW4'.out.2).mono ?_;rintro x w5 ⟨rfl,hb5⟩;have HB5 := Lib.hid hb5;clear d0 d1 d2 f0 f1 f2 f3 f4 f5;obtain ⟨⟨f0,f1,f2,f3,f4,f5⟩,⟨d0,d1,d2⟩,hbw5,hone5⟩ := HW.out _ hb5;have HW5 := Lib.hid (And.intro hbw5 hone5);clear hbw5 hone5 hb5;have hMin := Lib.hid (fun (w' : World) (hb : Below W4.heap.size W4 w') => Wt.MinusR_any false 1 1 _ w' (HW.out w' hb).2.2.2);have hS := Lib.hid (fun (w' : World) (hb : Below W4.heap.size W4 w') => And.intro (HW.out w' hb).1 (HW.out w' hb).2.1);have HBF := HB5;cases s2
     · cases one
       · clear HBF;go_wp2_with fail;have hacc : Below W4.heap.size W4 w5.drew := HB5.out.drew;have hkeep := hS.out _ hacc;go_region_held3 (fun w' => (w'.cell? ⟨w.heap.size,0,none⟩ = some (.bool s) ∧ w'.cell? ⟨w.heap.size,1,none⟩ = some (.slice a1 L1 c1) ∧ w'.cell? ⟨w.heap.size,2,none⟩ = some (.slice a2 L2 c2) ∧ w'.cell? ⟨w.heap.size,3,none⟩ = some (.bool false) ∧ w'.cell? ⟨w.heap.size,4,none⟩ = some (.slice a3 L3 c3) ∧ w'.cell? ⟨w.heap.size,5,none⟩ = some (.slice a4 L4 c4)) ∧ (w'.cell? ⟨w3.heap.size + 2,0,none⟩ = some (.bool false) ∧ w'.cell? ⟨w3.heap.size + 2,1,none⟩ = some (.slice (some ⟨w3.heap.size,0,none⟩) 1 1) ∧ w'.cell? ⟨w3.heap.size + 2,2,none⟩ = some (.slice (some ⟨w3.heap.size + 1,0,none⟩) 1 1)))
          (first | exact hkeep)
          (first
            | (go_at_call 29
               refine (hMin.out _ hacc).mono ?_
               rintro x w6 ⟨v6,rfl,hv6,hb6⟩
               have hv6 : Rt.R w6 v6 true 1 1 := hv6
               have hacc := hacc.trans (hb6.mono hacc.size)
               have hkeep := hS.out _ hacc)
            | (go_at_call 28
               refine (KSm.out true _ _ (HW.out _ hacc).2.2.1 hv6).mono ?_
               rintro x w7 ⟨rfl,hb7⟩
               have hacc := hacc.trans (hb7.mono hacc.size)
               have hkeep := hS.out _ hacc))
         have HB7 := Lib.hid hacc;obtain ⟨⟨f0,f1,f2,f3,f4,f5⟩,⟨d0,d1,d2⟩⟩ := hkeep;clear hacc hb6 hb7 hv6 hkeep;go_wp2_with fail;refine (KIm.out _ (HW.out _ HB7.out).2.2.1).mono ?_;rintro x w8 ⟨rfl,hb8⟩;have HBF := Lib.hid (HB7.out.trans (hb8.mono HB7.out.size));clear hb8;go_wp2_with fail;go_ret2;refine ⟨Tx.ret2 ?_,(HW.out _ HBF.out).2.2.1⟩;rw [HCN2.out];try rw [HSM.out]
         apply ByteArray.ext;first | (simp [HT.out]; done) | (simp [HT.out]; apply Array.ext'; simp)
       · go_wp2_with fail;go_ret2;refine ⟨Tx.ret2 ?_,(HW.out _ HBF.out).2.2.1⟩;rw [HCN2.out];try rw [HSM.out]
         apply ByteArray.ext;first | (simp [HT.out]; done) | (simp [HT.out]; apply Array.ext'; simp)
     · cases one
       · clear HBF;go_wp2_with fail;have hacc : Below W4.heap.size W4 w5.drew := HB5.out.drew;have hkeep := hS.out _ hacc;go_region_held3 (fun w' => (w'.cell? ⟨w.heap.size,0,none⟩ = some (.bool s) ∧ w'.cell? ⟨w.heap.size,1,none⟩ = some (.slice a1 L1 c1) ∧ w'.cell? ⟨w.heap.size,2,none⟩ = some (.slice a2 L2 c2) ∧ w'.cell? ⟨w.heap.size,3,none⟩ = some (.bool true) ∧ w'.cell? ⟨w.heap.size,4,none⟩ = some (.slice a3 L3 c3) ∧ w'.cell? ⟨w.heap.size,5,none⟩ = some (.slice a4 L4 c4)) ∧ (w'.cell? ⟨w3.heap.size + 2,0,none⟩ = some (.bool false) ∧ w'.cell? ⟨w3.heap.size + 2,1,none⟩ = some (.slice (some ⟨w3.heap.size,0,none⟩) 1 1) ∧ w'.cell? ⟨w3.heap.size + 2,2,none⟩ = some (.slice (some ⟨w3.heap.size + 1,0,none⟩) 1 1)))
          (first | exact hkeep)
          (first
            | (go_at_call 29
               refine (hMin.out _ hacc).mono ?_
               rintro x w6 ⟨v6,rfl,hv6,hb6⟩
               have hv6 : Rt.R w6 v6 true 1 1 := hv6
               have hacc := hacc.trans (hb6.mono hacc.size)
               have hkeep := hS.out _ hacc)
            | (go_at_call 28
               refine (KSm.out true _ _ (HW.out _ hacc).2.2.1 hv6).mono ?_
               rintro x w7 ⟨rfl,hb7⟩
               have hacc := hacc.trans (hb7.mono hacc.size)
               have hkeep := hS.out _ hacc))
         have HB7 := Lib.hid hacc;obtain ⟨⟨f0,f1,f2,f3,f4,f5⟩,⟨d0,d1,d2⟩⟩ := hkeep;clear hacc hb6 hb7 hv6 hkeep;go_wp2_with fail;refine (KIm.out _ (HW.out _ HB7.out).2.2.1).mono ?_;rintro x w8 ⟨rfl,hb8⟩;have HBF := Lib.hid (HB7.out.trans (hb8.mono HB7.out.size));clear hb8;go_wp2_with fail;go_ret2;refine ⟨Tx.ret2 ?_,(HW.out _ HBF.out).2.2.1⟩;rw [HCN2.out];try rw [HSM.out]
         apply ByteArray.ext;first | (simp [HT.out]; done) | (simp [HT.out]; apply Array.ext'; simp)
       · clear HBF;go_wp2_with fail;have hacc : Below W4.heap.size W4 w5.drew := HB5.out.drew;have hkeep := hS.out _ hacc;go_region_held3 (fun w' => (w'.cell? ⟨w.heap.size,0,none⟩ = some (.bool s) ∧ w'.cell? ⟨w.heap.size,1,none⟩ = some (.slice a1 L1 c1) ∧ w'.cell? ⟨w.heap.size,2,none⟩ = some (.slice a2 L2 c2) ∧ w'.cell? ⟨w.heap.size,3,none⟩ = some (.bool true) ∧ w'.cell? ⟨w.heap.size,4,none⟩ = some (.slice a3 L3 c3) ∧ w'.cell? ⟨w.heap.size,5,none⟩ = some (.slice a4 L4 c4)) ∧ (w'.cell? ⟨w3.heap.size + 2,0,none⟩ = some (.bool false) ∧ w'.cell? ⟨w3.heap.size + 2,1,none⟩ = some (.slice (some ⟨w3.heap.size,0,none⟩) 1 1) ∧ w'.cell? ⟨w3.heap.size + 2,2,none⟩ = some (.slice (some ⟨w3.heap.size + 1,0,none⟩) 1 1)))
          (first | exact hkeep)
          (first
            | (go_at_call 29
               refine (hMin.out _ hacc).mono ?_
               rintro x w6 ⟨v6,rfl,hv6,hb6⟩
               have hv6 : Rt.R w6 v6 true 1 1 := hv6
               have hacc := hacc.trans (hb6.mono hacc.size)
               have hkeep := hS.out _ hacc)
            | (go_at_call 28
               refine (KSm.out true _ _ (HW.out _ hacc).2.2.1 hv6).mono ?_
               rintro x w7 ⟨rfl,hb7⟩
               have hacc := hacc.trans (hb7.mono hacc.size)
               have hkeep := hS.out _ hacc))
         have HB7 := Lib.hid hacc;obtain ⟨⟨f0,f1,f2,f3,f4,f5⟩,⟨d0,d1,d2⟩⟩ := hkeep;clear hacc hb6 hb7 hv6 hkeep;have HBF := HB7;go_wp2_with fail;go_ret2;refine ⟨Tx.ret2 ?_,(HW.out _ HBF.out).2.2.1⟩;rw [HCN2.out];try rw [HSM.out]
         apply ByteArray.ext;first | (simp [HT.out]; done) | (simp [HT.out]; apply Array.ext'; simp)
theorem Wt.TextR_any (h : Tr.Hd) (l : Nat) (S : Nat → Prop) (v3 v4 v6 v7 v9 : Value) (w : World) (hI : Tr.Hd.In w S h v3 v4 v6 v7 v9) (hs : h.shape l = true) (hk : h.k = 3) :
 Calls Tryz.prog 16 #[.agg #[.bool h.s1,v3,v4,.bool h.s2,v6,v7],.int .i64 10] w fun e w' => e = .returned (.tuple #[.string (Tx.str (Wt.num h)),.int .i64 0]) ∧ Below w.heap.size w w' := by
 unfold Tr.Hd.shape Tr.Hd.num at hs
 simp only [hk,if_true,Bool.and_eq_true] at hs
 obtain ⟨e1,e2,S1⟩ := Rt.Snd.of hI.ok.w1 hI.ok.w2 hs.1.1.1.1.1
 obtain ⟨e3,e4,S2⟩ := Rt.Snd.of hI.ok.w3 hI.ok.w4 hs.1.1.1.1.2
 have i3 := hI.i3
 have i4 := hI.i4
 have i6 := hI.i6
 have i7 := hI.i7
 rw [e1] at i3
 rw [e2] at i4
 rw [e3] at i6
 rw [e4] at i7
 exact Wt.TextR_q _ _ _ _ _ _ _ w ⟨v3,v4,v6,v7,rfl,i3,i4,i6,i7⟩ S1 S2
def Ro.okH (h : Tr.Hd) : Bool := !(decide (h.k = 3) && decide (16384 < (Wt.num h).length)) && !decide (h.k = 10) && !decide (h.k = 11) && !(decide (h.k = 6) && decide (h.x.size = 0))
mutual
def Ro.may : Tr → Bool
 | .mk h l => Ro.okH h && Ro.mayL l
def Ro.mayL : List Tr → Bool
 | [] => true
 | t :: ts => Ro.may t && Ro.mayL ts
end
theorem Ro.may_mk {h : Tr.Hd} {l : List Tr} : Ro.may (.mk h l) = (Ro.okH h && Ro.mayL l) := by rw [Ro.may]
theorem Ro.mayL_nil : Ro.mayL [] = true := by rw [Ro.mayL]
theorem Ro.mayL_cons {t : Tr} {ts : List Tr} : Ro.mayL (t :: ts) = (Ro.may t && Ro.mayL ts) := by rw [Ro.mayL]
mutual
theorem Ro.may_fine {w : World} {S : Nat → Prop} : ∀ (t : Tr) (v : Value),Tr.In w S t v → Ro.may t = true → Ro.fine t
 | .mk h l,v,hI,hm => by
   rw [Ro.may_mk,Bool.and_eq_true] at hm;rw [Tr.In_mk] at hI;obtain ⟨v3,v4,v6,v7,v9,v10,e,hH,hL⟩ := hI;rw [Ro.fine_mk];have h1 := hm.1;unfold Ro.okH at h1;simp only [Bool.and_eq_true,Bool.not_eq_true',Bool.and_eq_false_iff,decide_eq_false_iff_not] at h1;refine ⟨⟨fun h3 => ⟨hH.ok.w1,hH.ok.w2,hH.ok.w3,hH.ok.w4,?_⟩,h1.1.1.2,h1.1.2,fun h6 => ?_⟩,?_⟩
   · rcases h1.1.1.1 with e | e
     · exact absurd h3 e
     · omega
   · rcases h1.2 with e | e
     · exact absurd h6 e
     · exact e
   · rcases hL with ⟨_,h0⟩ | ⟨_,_,_,h0⟩ | ⟨_,b,off,cap,_,_,_,_,_,hall⟩
     · rw [List.length_eq_zero_iff.1 h0,Ro.fineL]; trivial
     · rw [List.length_eq_zero_iff.1 h0,Ro.fineL]; trivial
     · exact Ro.mayL_fine l b off hall hm.2
theorem Ro.mayL_fine {w : World} {S : Nat → Prop} : ∀ (l : List Tr) (b off : Nat),Tr.All w S l b off → Ro.mayL l = true → Ro.fineL l
 | [],_,_,_,_ => by rw [Ro.fineL]; trivial
 | t :: ts,b,off,hA,hm => by
   rw [Tr.All_cons] at hA;obtain ⟨⟨C,hI,_⟩,hr⟩ := hA;rw [Ro.mayL_cons,Bool.and_eq_true] at hm;rw [Ro.fineL_cons];exact ⟨Ro.may_fine t _ hI hm.1,Ro.mayL_fine ts b (off + 11) hr hm.2⟩
end
theorem Ro.mayL_at {l : List Tr} {k : Nat} {t : Tr} (h : l[k]? = some t) : Ro.mayL (l.drop k) = (Ro.may t && Ro.mayL (l.drop (k + 1))) := by
 obtain ⟨h1,h2⟩ := List.getElem?_eq_some_iff.1 h;rw [List.drop_eq_getElem_cons h1,h2,Ro.mayL_cons]
def Ro.Says (t : Tr) : Prop := ∀ (S : Nat → Prop) (C : Array Value) (w : World),Tr.In w S t (.agg C) → Tr.good t →
 Calls Tryz.prog 10 #[.agg C] w fun e w' => e = .returned (.bool (Ro.may t)) ∧ Below w.heap.size w w'
theorem Ro.says_step (t : Tr) (IH : ∀ u,Tr.size u < Tr.size t → Ro.Says u) : Ro.Says t := by
 intro S C w hI hg;obtain ⟨h,l⟩ := t;obtain ⟨hsh,hgl⟩ := Tr.good_mk.1 hg;rw [Tr.In_mk] at hI;obtain ⟨v3,v4,v6,v7,v9,v10,e,hH,hL⟩ := hI;cases e;obtain ⟨p3,d3,rfl⟩ := hH.i3.slice;obtain ⟨p4,d4,rfl⟩ := hH.i4.slice;obtain ⟨p6,d6,rfl⟩ := hH.i6.slice;obtain ⟨p7,d7,rfl⟩ := hH.i7.slice;obtain ⟨p9,d9,rfl⟩ := hH.i9.slice;obtain ⟨p10,d10,rfl,hcap10,hmax10⟩ := Tr.Sl.slice hL;have hlen : l.length ≤ 9223372036854775807 := by
  rcases hmax10 with h0 | h0 <;> omega
 obtain ⟨W0,hW0⟩ : ∃ z,w.alloc (.cells #[.int .i64 h.k,.int .i64 h.n,.bool h.s1,.slice p3 h.t1.length d3,.slice p4 h.b1.length d4,.bool h.s2,.slice p6 h.t2.length d6,.slice p7 h.b2.length d7,.string h.x,.slice p9 h.raw.size d9,.slice p10 l.length d10] 30) = z := ⟨_,rfl⟩;have hb0 : Below w.heap.size w W0 := by rw [← hW0]; exact (Below.refl _ _).alloc (Nat.le_refl _) _
 have hq0 : W0.heap[w.heap.size]? = some (.cells #[.int .i64 h.k,.int .i64 h.n,.bool h.s1,.slice p3 h.t1.length d3,.slice p4 h.b1.length d4,.bool h.s2,.slice p6 h.t2.length d6,.slice p7 h.b2.length d7,.string h.x,.slice p9 h.raw.size d9,.slice p10 l.length d10] 30 (0,0)) := by rw [← hW0]; exact heap_alloc_new w _
 have hz0 : W0.heap.size = w.heap.size + 1 := by rw [← hW0]; simp
 have HF : Hid (∀ w',Below (w.heap.size + 1) W0 w' → (∀ j,w'.cell? ⟨w.heap.size,j,none⟩ = (#[.int .i64 h.k,.int .i64 h.n,.bool h.s1,.slice p3 h.t1.length d3,.slice p4 h.b1.length d4,.bool h.s2,.slice p6 h.t2.length d6,.slice p7 h.b2.length d7,.string h.x,.slice p9 h.raw.size d9,.slice p10 l.length d10] : Array Value)[j]?) ∧ Below w.heap.size w w') := Lib.hid (fun w' hb => by
   have a0 := (hb.block w.heap.size (Nat.lt_succ_self _)).trans hq0
   exact ⟨fun j => by simp [World.cell?,a0],hb0.trans (hb.mono (Nat.le_succ _))⟩)
 have KN := Lib.hid (fun hk => Wt.TextR_any h l.length _ _ _ _ _ _ W0 (hH.kept (Tr.Kept.all hb0 (Nat.le_refl _))) hsh hk);rw [hz0] at KN;obtain ⟨R,hR⟩ : ∃ z,z = Ro.may (.mk h l) := ⟨_,rfl⟩;rw [← hR];rw [Ro.may_mk] at hR;have HR := Lib.hid hR;have HLL := Lib.hid hL;have HIH := Lib.hid IH;have HG := Lib.hid hgl;have HB0 := Lib.hid (Below.refl (w.heap.size + 1) W0);obtain ⟨N,hN⟩ : ∃ z,Wt.num h = z := ⟨_,rfl⟩;rw [hN] at KN;obtain ⟨n,hn⟩ : ∃ z,N.length = z := ⟨_,rfl⟩;have HNN := Lib.hid (show (Wt.num h).length = n by rw [hN]; exact hn);obtain ⟨T,hT⟩ : ∃ z,Tx.str N = z := ⟨_,rfl⟩;have hTn : T.size = n := by rw [← hT,← hn]; unfold Tx.str; exact List.size_toArray
 rw [hT] at KN;obtain ⟨dd,hdd⟩ := (HF.out W0 HB0.out);have q0 := dd 0;have q1 := dd 1;have q2 := dd 2;have q3 := dd 3;have q4 := dd 4;have q5 := dd 5;have q6 := dd 6;have q7 := dd 7;have q8 := dd 8;have q9 := dd 9;have q10 := dd 10;have HDD := Lib.hid hdd;have hcase : (h.k = 3 ∧ 16384 < n) ∨ (h.k = 3 ∧ ¬ 16384 < n) ∨ h.k = 10 ∨ h.k = 11 ∨ (h.k = 6 ∧ h.x.size = 0) ∨ (h.k = 6 ∧ h.x.size ≠ 0) ∨ (h.k ≠ 3 ∧ h.k ≠ 10 ∧ h.k ≠ 11 ∧ h.k ≠ 6) := by omega
 have HNO : Hid (Ro.okH h = false → R = false) := Lib.hid (fun e => by rw [HR.out,e]; rfl);have HYES : Hid (Ro.okH h = true → R = Ro.mayL l) := Lib.hid (fun e => by rw [HR.out,e]; rfl);clear hb0 hq0 hR hH hL IH hcap10 hmax10 dd hdd hN hn hT hg hsh hgl;unfold Tr.cells;rcases hcase with ⟨hk,hlong⟩ | ⟨hk,hlong⟩ | hk | hk | ⟨hk,hx⟩ | ⟨hk,hx⟩ | ⟨h3,h10,h11,h6⟩
 · have hans : R = false := HNO.out (by unfold Ro.okH; rw [hk,HNN.out,decide_eq_true hlong]; rfl);subst hans;have KN1 := Lib.hid (KN.out hk);have b3 : (h.k == 3) = true := by rw [hk]; rfl
   have hlong2 : (16384 : Int) < (n : Int) := by omega
   clear hk hlong KN;go_enter Tryz.func10,Tryz.ntmps10;go_wp2_with fail;refine KN1.out.mono ?_;rintro z w1 ⟨rfl,hb1⟩;have HBW := Lib.hid (HF.out w1 hb1).2;clear hb1;go_wp2_with fail;go_ret;exact ⟨rfl,HBW.out⟩
 rotate_left 1
 · have hans : R = false := HNO.out (by unfold Ro.okH; rw [hk]; simp);subst hans;have b3 : (h.k == 3) = false := by rw [hk]; rfl
   have b10 : (h.k == 10) = true := by rw [hk]; rfl
   clear hk KN;go_enter Tryz.func10,Tryz.ntmps10;go_wp2_with fail;go_ret;exact ⟨rfl,HDD.out⟩
 · have hans : R = false := HNO.out (by unfold Ro.okH; rw [hk]; simp);subst hans;have b3 : (h.k == 3) = false := by rw [hk]; rfl
   have b10 : (h.k == 10) = false := by rw [hk]; rfl
   have b11 : (h.k == 11) = true := by rw [hk]; rfl
   clear hk KN;go_enter Tryz.func10,Tryz.ntmps10;go_wp2_with fail;go_ret;exact ⟨rfl,HDD.out⟩
 · have hans : R = false := HNO.out (by unfold Ro.okH; rw [hk]; simp [hx]);subst hans;have b3 : (h.k == 3) = false := by rw [hk]; rfl
   have b10 : (h.k == 10) = false := by rw [hk]; rfl
   have b11 : (h.k == 11) = false := by rw [hk]; rfl
   have b6 : (h.k == 6) = true := by rw [hk]; rfl
   have hx1 : h.x.toList = [] := by rw [Ro.empty hx,ByteArray.toList_eq]
   have hx2 : h.x.toList.isEmpty = true := by rw [hx1]; rfl
   clear hk KN hx;go_enter Tryz.func10,Tryz.ntmps10;go_wp2_with fail;go_ret;exact ⟨rfl,HDD.out⟩
 · have HR2 := Lib.hid (HYES.out (by unfold Ro.okH; rw [hk]; simp [hx]));have HB1 := Lib.hid (HB0.out);have b3 : (h.k == 3) = false := by rw [hk]; rfl
   have b10 : (h.k == 10) = false := by rw [hk]; rfl
   have b11 : (h.k == 11) = false := by rw [hk]; rfl
   have b6 : (h.k == 6) = true := by rw [hk]; rfl
   have hx1 : ¬ h.x.toList = [] := fun e => hx (Tr.str_size e);have hx2 : h.x.toList.isEmpty = false := by cases hh : h.x.toList with
    | nil => exact absurd hh hx1
    | cons a b => rfl
   clear hk KN hx;go_enter Tryz.func10,Tryz.ntmps10;go_wp2_with fail;clear q0 q1 q2 q3 q4 q5 q6 q7 q8 q9 q10 b3 b10 b11 b6 hx1 hx2;go_loopg [5] l.length (fun g i wr => ∃ k : Nat,k + g = l.length ∧ i = .int .i64 k ∧ R = Ro.mayL (l.drop k) ∧ Below (w.heap.size + 1) W0 wr);case atStart => exact ⟨0,by omega,rfl,HR2.out,HB1.out⟩
   case round =>
    obtain ⟨k,hkg,rfl,hans,hb⟩ := hrel;obtain ⟨wo,hwo⟩ : ∃ z,z = wr := ⟨_,rfl⟩;subst hwo;have HB := Lib.hid hb;have HANS := Lib.hid hans;obtain ⟨dd,hbw⟩ := HF.out wo hb;have HBW := Lib.hid hbw;have q10 := dd 10;clear hb hans dd;by_cases hlt : k < l.length
    · obtain ⟨tk,htk⟩ : ∃ t,l[k]? = some t := ⟨_,List.getElem?_eq_getElem hlt⟩;obtain ⟨b,off,rfl,_,_,_,hblt,hSb,hall⟩ := Tr.Sl.at HLL.out (by omega);obtain ⟨Ck,hIk,hMk⟩ := Tr.All.at _ _ _ hall k tk htk;rw [Nat.mul_comm 11 k] at hMk;have hM4 := hMk.kept (Tr.Kept.all hbw (Nat.le_refl _)) hSb hblt;have KT := HIH.out tk (Tr.size_lt (t := .mk h l) (k := k) htk) S Ck wo (Tr.In.below hIk hbw (Nat.le_refl _)) (Tr.goodL_at l HG.out k tk htk);have HDR := Lib.hid (Ro.mayL_at htk);obtain ⟨he,le,ab3,ab4,ab6,ab7,ab9,ab10,nb3,nb4,nb6,nb7,nb9,nb10,cb3,cb4,cb6,cb7,cb9,cb10,eCb,ebt,hbH,hbL⟩ := Tr.In.form2 hIk;subst eCb;clear ebt hbH hbL;unfold Tr.cells at KT hM4;obtain ⟨e0,e1,e2,e3,e4,e5,e6,e7,e8,e9,e10⟩ := Tr.Mem.cells hM4;obtain ⟨r,hr⟩ : ∃ z,Ro.may tk = z := ⟨_,rfl⟩;rw [hr] at KT HDR;have HKT := Lib.hid KT;clear hIk hMk hall htk hblt hSb hM4 KT hbw hr;go_wp2_with fail;refine HKT.out.mono ?_;rintro z w5 ⟨rfl,hb5⟩;have HB5 := Lib.hid (HB.out.trans (hb5.mono (by have := HB.out.size; omega)));have HE5 := Lib.hid (HBW.out.trans (hb5.mono HBW.out.size));clear hb5;cases r
      · have hf : R = false := by rw [HANS.out,HDR.out]; rfl
        subst hf;go_wp2_with fail;go_ret;exact ⟨rfl,HE5.out⟩
      · go_wp2_with fail;go_roundg (gk - 1);case measure => omega
        case rel => exact ⟨k + 1,by omega,by first | rfl | go_num | (simp; try omega),by rw [HANS.out,HDR.out]; rfl,HB5.out⟩
    · have hf : R = true := by rw [HANS.out,show k = l.length by omega,List.drop_length]; exact Ro.mayL_nil
      subst hf;go_wp2_with fail;go_ret;exact ⟨rfl,HBW.out⟩
 · have HR2 := Lib.hid (HYES.out (by unfold Ro.okH; rw [decide_eq_false h3,decide_eq_false h10,decide_eq_false h11,decide_eq_false h6]; rfl));have HB1 := Lib.hid (HB0.out);have b3 : (h.k == 3) = false := beq_eq_false_iff_ne.2 h3;have b10 : (h.k == 10) = false := beq_eq_false_iff_ne.2 h10;have b11 : (h.k == 11) = false := beq_eq_false_iff_ne.2 h11;have b6 : (h.k == 6) = false := beq_eq_false_iff_ne.2 h6;clear h3 h10 h11 h6 KN;go_enter Tryz.func10,Tryz.ntmps10;go_wp2_with fail;clear q0 q1 q2 q3 q4 q5 q6 q7 q8 q9 q10 b3 b10 b11 b6;go_loopg [5] l.length (fun g i wr => ∃ k : Nat,k + g = l.length ∧ i = .int .i64 k ∧ R = Ro.mayL (l.drop k) ∧ Below (w.heap.size + 1) W0 wr);case atStart => exact ⟨0,by omega,rfl,HR2.out,HB1.out⟩
   case round =>
    obtain ⟨k,hkg,rfl,hans,hb⟩ := hrel;obtain ⟨wo,hwo⟩ : ∃ z,z = wr := ⟨_,rfl⟩;subst hwo;have HB := Lib.hid hb;have HANS := Lib.hid hans;obtain ⟨dd,hbw⟩ := HF.out wo hb;have HBW := Lib.hid hbw;have q10 := dd 10;clear hb hans dd;by_cases hlt : k < l.length
    · obtain ⟨tk,htk⟩ : ∃ t,l[k]? = some t := ⟨_,List.getElem?_eq_getElem hlt⟩;obtain ⟨b,off,rfl,_,_,_,hblt,hSb,hall⟩ := Tr.Sl.at HLL.out (by omega);obtain ⟨Ck,hIk,hMk⟩ := Tr.All.at _ _ _ hall k tk htk;rw [Nat.mul_comm 11 k] at hMk;have hM4 := hMk.kept (Tr.Kept.all hbw (Nat.le_refl _)) hSb hblt;have KT := HIH.out tk (Tr.size_lt (t := .mk h l) (k := k) htk) S Ck wo (Tr.In.below hIk hbw (Nat.le_refl _)) (Tr.goodL_at l HG.out k tk htk);have HDR := Lib.hid (Ro.mayL_at htk);obtain ⟨he,le,ab3,ab4,ab6,ab7,ab9,ab10,nb3,nb4,nb6,nb7,nb9,nb10,cb3,cb4,cb6,cb7,cb9,cb10,eCb,ebt,hbH,hbL⟩ := Tr.In.form2 hIk;subst eCb;clear ebt hbH hbL;unfold Tr.cells at KT hM4;obtain ⟨e0,e1,e2,e3,e4,e5,e6,e7,e8,e9,e10⟩ := Tr.Mem.cells hM4;obtain ⟨r,hr⟩ : ∃ z,Ro.may tk = z := ⟨_,rfl⟩;rw [hr] at KT HDR;have HKT := Lib.hid KT;clear hIk hMk hall htk hblt hSb hM4 KT hbw hr;go_wp2_with fail;refine HKT.out.mono ?_;rintro z w5 ⟨rfl,hb5⟩;have HB5 := Lib.hid (HB.out.trans (hb5.mono (by have := HB.out.size; omega)));have HE5 := Lib.hid (HBW.out.trans (hb5.mono HBW.out.size));clear hb5;cases r
      · have hf : R = false := by rw [HANS.out,HDR.out]; rfl
        subst hf;go_wp2_with fail;go_ret;exact ⟨rfl,HE5.out⟩
      · go_wp2_with fail;go_roundg (gk - 1);case measure => omega
        case rel => exact ⟨k + 1,by omega,by first | rfl | go_num | (simp; try omega),by rw [HANS.out,HDR.out]; rfl,HB5.out⟩
    · have hf : R = true := by rw [HANS.out,show k = l.length by omega,List.drop_length]; exact Ro.mayL_nil
      subst hf;go_wp2_with fail;go_ret;exact ⟨rfl,HBW.out⟩
 · have HR2 := Lib.hid (HYES.out (by unfold Ro.okH; rw [hk,HNN.out,decide_eq_false hlong]; simp));have KN1 := Lib.hid (KN.out hk);have b3 : (h.k == 3) = true := by rw [hk]; rfl
   have b10 : (h.k == 10) = false := by rw [hk]; rfl
   have b11 : (h.k == 11) = false := by rw [hk]; rfl
   have b6 : (h.k == 6) = false := by rw [hk]; rfl
   have hlong2 : ¬ (16384 : Int) < (n : Int) := by omega
   clear hk hlong KN;go_enter Tryz.func10,Tryz.ntmps10;go_wp2_with fail;refine KN1.out.mono ?_;rintro z w1 ⟨rfl,hb1⟩;have HB1 := Lib.hid hb1;clear q0 q1 q2 q3 q4 q5 q6 q7 q8 q9 q10;have q0 := (HF.out w1 hb1).1 0;clear hb1;go_wp2_with fail;clear q0 b3 b10 b11 b6 hlong2 KN1;go_loopg [5] l.length (fun g i wr => ∃ k : Nat,k + g = l.length ∧ i = .int .i64 k ∧ R = Ro.mayL (l.drop k) ∧ Below (w.heap.size + 1) W0 wr);case atStart => exact ⟨0,by omega,rfl,HR2.out,HB1.out⟩
   case round =>
    obtain ⟨k,hkg,rfl,hans,hb⟩ := hrel;obtain ⟨wo,hwo⟩ : ∃ z,z = wr := ⟨_,rfl⟩;subst hwo;have HB := Lib.hid hb;have HANS := Lib.hid hans;obtain ⟨dd,hbw⟩ := HF.out wo hb;have HBW := Lib.hid hbw;have q10 := dd 10;clear hb hans dd;by_cases hlt : k < l.length
    · obtain ⟨tk,htk⟩ : ∃ t,l[k]? = some t := ⟨_,List.getElem?_eq_getElem hlt⟩;obtain ⟨b,off,rfl,_,_,_,hblt,hSb,hall⟩ := Tr.Sl.at HLL.out (by omega);obtain ⟨Ck,hIk,hMk⟩ := Tr.All.at _ _ _ hall k tk htk;rw [Nat.mul_comm 11 k] at hMk;have hM4 := hMk.kept (Tr.Kept.all hbw (Nat.le_refl _)) hSb hblt;have KT := HIH.out tk (Tr.size_lt (t := .mk h l) (k := k) htk) S Ck wo (Tr.In.below hIk hbw (Nat.le_refl _)) (Tr.goodL_at l HG.out k tk htk);have HDR := Lib.hid (Ro.mayL_at htk);obtain ⟨he,le,ab3,ab4,ab6,ab7,ab9,ab10,nb3,nb4,nb6,nb7,nb9,nb10,cb3,cb4,cb6,cb7,cb9,cb10,eCb,ebt,hbH,hbL⟩ := Tr.In.form2 hIk;subst eCb;clear ebt hbH hbL;unfold Tr.cells at KT hM4;obtain ⟨e0,e1,e2,e3,e4,e5,e6,e7,e8,e9,e10⟩ := Tr.Mem.cells hM4;obtain ⟨r,hr⟩ : ∃ z,Ro.may tk = z := ⟨_,rfl⟩;rw [hr] at KT HDR;have HKT := Lib.hid KT;clear hIk hMk hall htk hblt hSb hM4 KT hbw hr;go_wp2_with fail;refine HKT.out.mono ?_;rintro z w5 ⟨rfl,hb5⟩;have HB5 := Lib.hid (HB.out.trans (hb5.mono (by have := HB.out.size; omega)));have HE5 := Lib.hid (HBW.out.trans (hb5.mono HBW.out.size));clear hb5;cases r
      · have hf : R = false := by rw [HANS.out,HDR.out]; rfl
        subst hf;go_wp2_with fail;go_ret;exact ⟨rfl,HE5.out⟩
      · go_wp2_with fail;go_roundg (gk - 1);case measure => omega
        case rel => exact ⟨k + 1,by omega,by first | rfl | go_num | (simp; try omega),by rw [HANS.out,HDR.out]; rfl,HB5.out⟩
    · have hf : R = true := by rw [HANS.out,show k = l.length by omega,List.drop_length]; exact Ro.mayL_nil
      subst hf;go_wp2_with fail;go_ret;exact ⟨rfl,HBW.out⟩
def Ro.Up (n : Nat) : Prop := ∀ t,Tr.size t ≤ n → Tr.good t → Ro.fine t → Ro.Rd (Wt.tell true t) t
theorem Ro.rows {n : Nat} (HP : Ro.Up n) : ∀ (f : Bool) (ts : List Tr) (r : List UInt8),Tr.sizeL ts ≤ n → Tr.goodL ts → Ro.fineL ts → Dr.Rel (.items 41 (Wt.row true f ts ++ 41 :: r)) (.list ts r false)
 | f,[],r,_,_,_ => by
   rw [Wt.row_nil];exact .iStop (.bStop (Ro.bk41 r)) (Ro.stop41 true r)
 | f,t :: ts,r,hz,hg,hf => by
   rw [Tr.sizeL_cons] at hz;rw [Tr.goodL_cons] at hg;rw [Ro.fineL_cons] at hf;have ih := Ro.rows HP false ts r (by omega) hg.2 hf.2;have hends : Ro.ends (Wt.row true false ts ++ 41 :: r) := by
    cases ts with
    | nil => rw [Wt.row_nil]; exact Ro.ends41 r
    | cons y ys => rw [Wt.row_cons]; exact Ro.ends32 _
   obtain ⟨d1,d2,d3⟩ := HP t (by omega) hg.1 hf.1 _ hends;have hb : Dr.Rel (.blanks (Wt.row true f (t :: ts) ++ 41 :: r)) (.skip (Wt.tell true t ++ (Wt.row true false ts ++ 41 :: r))) := by
    rw [Wt.row_cons];cases f with
    | true => rw [if_pos rfl,List.nil_append,List.append_assoc]; exact .bStop d2
    | false =>
      rw [if_neg (by decide)];rw [show [32] ++ (Wt.tell true t ++ Wt.row true false ts) ++ 41 :: r = 32 :: (Wt.tell true t ++ (Wt.row true false ts ++ 41 :: r)) by simp];exact .bGo (Ro.bk32 _) (.bStop d2)
   have := Dr.Rel.iItem3 hb (d3 true) d1 ih;exact this
theorem Ro.good_two {h : Tr.Hd} {l : List Tr} (hk : h.k = 8) (hg : Tr.good (.mk h l)) : ∃ a r,l = [a,r] ∧ h = ⟨8,0,false,[],[],false,[],[],⟨#[]⟩,⟨#[]⟩⟩ ∧ Tr.good a ∧ Tr.good r := by
 rw [Tr.good_mk] at hg;obtain ⟨hs,hl⟩ := hg;have h2 := Tr.Hd.shape_pair hs hk;obtain ⟨he,hx,hr,_,ow⟩ := Ro.canon hs (by omega);match l,h2,hl with
 | [a,r],_,hl =>
   rw [Tr.goodL_cons,Tr.goodL_cons] at hl;refine ⟨a,r,rfl,?_,hl.1,hl.2.1⟩;have hn : h.n = 0 := by
    rw [hk] at ow;unfold Tr.own at ow;simp at ow;exact ow
   rw [he,hk,hn,hx (by rw [hk]; rfl),hr (by omega)]
theorem Ro.nil_eq {h : Tr.Hd} {l : List Tr} (hk : h.k = 1) (hg : Tr.good (.mk h l)) : Tr.mk h l = Dr.nil := by
 rw [Tr.good_mk] at hg;obtain ⟨he,hx,hr,_,ow⟩ := Ro.canon hg.1 (by omega);have hn : h.n = 0 ∧ l = [] := by
  rw [hk] at ow;unfold Tr.own at ow;simp at ow;exact ow
 rw [he,hk,hn.1,hn.2,hx (by rw [hk]; rfl),hr (by omega)];rfl
theorem Ro.tails {n : Nat} (HP : Ro.Up n) : ∀ (m : Nat) (t : Tr),Tr.size t ≤ m → m ≤ n → Tr.good t → Ro.fine t → ∀ r,∃ ts last,Dr.Rel (.pairs 41 false (Wt.tail true t ++ 41 :: r)) (.lst ts last r false) ∧ Dr.listT ts last = t ∧ Ro.ends (Wt.tail true t ++ 41 :: r)
 | m,.mk h l,hm,hn,hg,hf,r => by
   by_cases h8 : h.k = 8
   · obtain ⟨a,b,rfl,he,ga,gb⟩ := Ro.good_two h8 hg;rw [Ro.fine_mk,Ro.fineL_cons,Ro.fineL_cons] at hf;rw [Tr.size_mk,Tr.sizeL_cons,Tr.sizeL_cons] at hm;cases m with
     | zero => omega
     | succ m =>
       obtain ⟨ts,last,h1,h2,h3⟩ := Ro.tails HP m b (by omega) (by omega) gb hf.2.2.1 r;obtain ⟨d1,d2,d3⟩ := HP a (by omega) ga hf.2.1 _ h3;rw [Wt.tail_pair h8];have e : 32 :: (Wt.tell true a ++ Wt.tail true b) ++ 41 :: r = 32 :: (Wt.tell true a ++ (Wt.tail true b ++ 41 :: r)) := by simp
       rw [e];refine ⟨a :: ts,last,?_,?_,Ro.ends32 _⟩
       · have := Dr.Rel.pItem3 (.bGo (Ro.bk32 _) (.bStop d2)) (d3 false) d1 h1;exact this
       · show Dr.cons a (Dr.listT ts last) = _;rw [h2,he];rfl
   · by_cases h1 : h.k = 1
     · rw [Wt.tail_nil h1,List.nil_append];exact ⟨[],Dr.nil,.pStop (.bStop (Ro.bk41 r)) (Ro.stop41 false r),(Ro.nil_eq h1 hg).symm,Ro.ends41 r⟩
     · obtain ⟨d1,d2,d3⟩ := HP (.mk h l) (by omega) hg hf _ (Ro.ends41 r);rw [Wt.tail_atom h8 h1];have e : [32,46,32] ++ Wt.tell true (.mk h l) ++ 41 :: r = 32 :: 46 :: 32 :: (Wt.tell true (.mk h l) ++ 41 :: r) := by simp
       rw [e];have hp : Dr.pk 41 false (46 :: 32 :: (Wt.tell true (.mk h l) ++ 41 :: r)) = .dot (32 :: (Wt.tell true (.mk h l) ++ 41 :: r)) := by
        unfold Dr.pk;rw [if_neg (by simp),if_neg (by rw [Dr.asc_bad 46 _ (by decide)]; simp),(Dr.asc 46 _ (by decide)).1,if_neg (by decide),if_pos (by decide),Dr.token_one 46 32 _ (by decide) (by decide) (by decide) (by decide) (by decide)];simp only [Dr.upto_one];exact if_pos trivial
       exact ⟨[],.mk h l,.pDot5 (.bGo (Ro.bk32 _) (.bStop (Dr.bk_stop 46 _ (by decide) (by decide) (by decide) (by decide)))) hp (.bGo (Ro.bk32 _) (.bStop d2)) d1 (.bStop (Ro.bk41 r)) (Ro.stop41 true r),rfl,Ro.ends32 _⟩
theorem Ro.dk40 (t : List UInt8) : Dr.dk (40 :: t) = .pairs 41 t := by
 unfold Dr.dk;rw [if_neg (by simp),if_neg (by rw [Dr.asc_bad 40 _ (by decide)]; simp),(Dr.asc 40 _ (by decide)).1,if_pos (by decide),(Dr.asc 40 _ (by decide)).2];rfl
theorem Ro.dk39 (t : List UInt8) : Dr.dk (39 :: t) = .quote t := by
 unfold Dr.dk;rw [if_neg (by simp),if_neg (by rw [Dr.asc_bad 39 _ (by decide)]; simp),(Dr.asc 39 _ (by decide)).1,if_neg (by decide),if_neg (by decide),if_pos (by decide),(Dr.asc 39 _ (by decide)).2];rfl
theorem Ro.dkvec (t : List UInt8) : Dr.dk (35 :: 40 :: t) = .vec t := by
 unfold Dr.dk;rw [if_neg (by simp),if_neg (by rw [Dr.asc_bad 35 _ (by decide)]; simp),(Dr.asc 35 _ (by decide)).1,if_neg (by decide),if_neg (by decide),if_neg (by decide),if_pos (by rfl)];rfl
theorem Ro.step (n : Nat) (HP : Ro.Up n) : Ro.Up (n + 1) := by
 intro t hz hg hf;cases t with
 | mk h l =>
   have hg0 := hg;rw [Tr.size_mk] at hz;by_cases h8 : h.k = 8
   · obtain ⟨a,b,rfl,he,ga,gb⟩ := Ro.good_two h8 hg;rw [Ro.fine_mk,Ro.fineL_cons,Ro.fineL_cons] at hf;rw [Tr.sizeL_cons,Tr.sizeL_cons] at hz;have hcons : Tr.mk h [a,b] = Dr.cons a b := by rw [he]; rfl
     cases hq : (Wt.isQ a && Wt.isOne b) with
     | true =>
       cases b with
       | mk hb lb =>
         match lb with
         | [] => simp [Wt.isOne] at hq
         | [_] => simp [Wt.isOne] at hq
         | _ :: _ :: _ :: _ => simp [Wt.isOne] at hq
         | [c,d] =>
           have hq0 := hq;simp only [Bool.and_eq_true] at hq;obtain ⟨q1,q2⟩ := hq;cases d with
           | mk hd ld =>
             simp only [Wt.isOne,Bool.and_eq_true,decide_eq_true_eq] at q2;obtain ⟨c',d',e2,heb,gc,gd⟩ := Ro.good_two q2.1 gb;simp only [List.cons.injEq,and_true] at e2;obtain ⟨rfl,rfl⟩ := e2;have hd0 := Ro.nil_eq q2.2 gd;have hfb := hf.2.2.1;rw [Ro.fine_mk,Ro.fineL_cons,Ro.fineL_cons] at hfb;rw [Tr.size_mk,Tr.sizeL_cons,Tr.sizeL_cons] at hz;have hrc := HP c (by omega) gc hfb.2.1;have ha : a = Dr.leaf 6 0 [113,117,111,116,101] := by
              cases a with
              | mk ha la =>
                simp only [Wt.isQ,Bool.and_eq_true,decide_eq_true_eq] at q1;rw [Tr.good_mk] at ga;obtain ⟨hea,hxa,hra,_,owa⟩ := Ro.canon ga.1 (by omega);have hn : ha.n = 0 ∧ la = [] := by
                 rw [q1.1] at owa;unfold Tr.own at owa;simp at owa;exact owa
                have hx : ha.x = ⟨#[113,117,111,116,101]⟩ := by rw [← Ro.list_arr ha.x,q1.2]
                rw [hea,q1.1,hn.1,hn.2,hx,hra (by omega)];rfl
             rw [Wt.tell_quo h8 hq0];refine Ro.of_mark (.inr (.inl rfl)) (fun r hr => ?_);obtain ⟨d1,d2,_⟩ := hrc r hr;have hgot := Dr.Rel.dQuote3 (Ro.dk39 _) (.bStop d2) d1;have ht : Dr.listT [Dr.leaf 6 0 [113,117,111,116,101],c] Dr.nil = Tr.mk h [a,.mk hb [c,.mk hd ld]] := by
              rw [hcons,ha,hd0,heb];rfl
             rw [ht] at hgot;exact hgot
     | false =>
       rw [Wt.tell_pair h8 hq];refine Ro.of_mark (.inl rfl) (fun r hr => ?_);obtain ⟨ts,last,h1,h2,h3⟩ := Ro.tails HP n b (by omega) (Nat.le_refl _) gb hf.2.2.1 r;obtain ⟨d1,d2,d3⟩ := HP a (by omega) ga hf.2.1 _ h3;have e : Wt.tell true a ++ (Wt.tail true b ++ [41]) ++ r = Wt.tell true a ++ (Wt.tail true b ++ 41 :: r) := by simp
       rw [e];have hp := Dr.Rel.pItem3 (.bStop d2) (d3 true) d1 h1;have hgot := Dr.Rel.dPairs2 (Ro.dk40 _) hp;have ht : Dr.listT (a :: ts) last = Tr.mk h [a,b] := by
        rw [hcons];show Dr.cons a (Dr.listT ts last) = _;rw [h2]
       rw [ht] at hgot;exact hgot
   · rw [Tr.good_mk] at hg;rw [Ro.fine_mk] at hf;rw [Wt.tell_atom h8];by_cases h9 : h.k = 9
     · obtain ⟨he,hx,hr,_,ow⟩ := Ro.canon hg.1 (by omega);have hn : h.n = 0 := by
        rw [h9] at ow;unfold Tr.own at ow;simp at ow;exact ow
       have ht : Dr.vec l = Tr.mk h l := by
        rw [he,h9,hn,hx (by rw [h9]; rfl),hr (by omega)];rfl
       have e : Wt.atom true h (Wt.row true true l) = 35 :: 40 :: (Wt.row true true l ++ [41]) := by
        unfold Wt.atom;rw [if_neg (by omega),if_neg (by omega),if_neg (by omega),if_neg (by omega),if_neg (by omega),if_neg (by omega),if_neg (by omega),if_pos h9];rfl
       rw [e];refine Ro.of_hash (by decide) (by decide) (fun r hr => ?_);have hi := Ro.rows HP true l r (by omega) hg.2 hf.2;have e2 : Wt.row true true l ++ [41] ++ r = Wt.row true true l ++ 41 :: r := by simp
       rw [e2];have hgot := Dr.Rel.dVec2 (Ro.dkvec _) hi;rw [ht] at hgot;exact hgot
     · exact Ro.Rd.leaf hg.1 h8 h9 hf.1 _
theorem Ro.up : ∀ n,Ro.Up n
 | 0 => fun t hz _ _ => by have := Tr.size_pos t; omega
 | n + 1 => Ro.step n (Ro.up n)
theorem Ro.one {t : Tr} (hs : Tr.sound t = true) (hf : Ro.fine t) : Dr.One (Wt.tell true t) (.ok t (Wt.tell true t).length) := by
 have h := Ro.up _ t (Nat.le_refl _) (Tr.sound_good hs) hf [] (.inl rfl);rw [List.append_nil] at h;obtain ⟨d1,d2,_⟩ := h;have hne : Wt.tell true t ≠ [] := by
  intro e;rw [e] at d1;have := d1.less;exact absurd this (by show ¬ (_ < _); simp)
 have := Dr.One.ok (.bStop d2) hne d1 (by rw [hs]; rfl);simpa using this
theorem Tx.one_in {w : World} {a : Option Addr} {M c b : Nat} (h : Nt.N w (.slice a M c) b) (hM : M = (Nt.dig b).length) (hb : 0 < b) : ∃ S : Bool,S = decide (b = 1) ∧ ∀ w',Below w.heap.size w w' → (S = false ∧ ((M : Int) == 1) = false) ∨ ∃ bb off,a = some ⟨bb,off,none⟩ ∧ M = 1 ∧ w'.cell? ⟨bb,off,none⟩ = some (.int .u32 b) ∧ ((b : Int) == 1) = S := by
 obtain ⟨S,hS,hone⟩ := Rt.isOne h hb;refine ⟨S,hS,fun w' hbw => ?_⟩;rcases hone with ⟨ad,cap,e,e2,e3⟩ | ⟨bb,off,cap,e,e2,e3⟩
 · rw [← hM] at e2;exact .inl ⟨e3,e2⟩
 · simp only [Value.slice.injEq] at e;obtain ⟨rfl,rfl,rfl⟩ := e;rcases h with ⟨e,_⟩ | ⟨a,c,e,e4⟩ | ⟨h0,b3,off3,cap3,e,hc,hlt,hcell⟩
   · cases e
   · simp only [Value.slice.injEq] at e;omega
   · simp only [Value.slice.injEq,Option.some.injEq,Addr.mk.injEq] at e;obtain ⟨⟨rfl,rfl,_⟩,_,_⟩ := e;exact .inr ⟨bb,off,rfl,rfl,(hbw.cell (p := ⟨bb,off,none⟩) hlt).trans e2,e3⟩
theorem Tx.Whole_snd (s : Bool) (t b : Nat) (s2 : Bool) (t2 b2 : Nat) (v : Value) (w : World) (h : Rt.Q w v s t b s2 t2 b2) (K : Rt.SoundAt w v) (hb : 0 < b) :
 Calls Tryz.prog 99 #[v] w fun e w' => e = .returned (.bool (decide (t2 = 0) && decide (b = 1))) ∧ Below w.heap.size w w' := by
 obtain ⟨tv,bv,tv2,bv2,rfl,h1,h2,h3,h4⟩ := h
 obtain ⟨L1,a1,c1,rfl,hL1⟩ := Tx.N_slice h1
 obtain ⟨L2,a2,c2,rfl,hL2⟩ := Tx.N_slice h2
 obtain ⟨L3,a3,c3,rfl,hL3⟩ := Tx.N_slice h3
 obtain ⟨L4,a4,c4,rfl,hL4⟩ := Tx.N_slice h4
 obtain ⟨S,hS,hone⟩ := Tx.one_in h2 hL2 hb
 have HB0 : Hid (∀ o,Below w.heap.size w (w.alloc o)) := Lib.hid (fun o => (Below.refl _ _).alloc (Nat.le_refl _) o)
 have hq : (w.alloc (.cells #[.bool s,.slice a1 L1 c1,.slice a2 L2 c2,.bool s2,.slice a3 L3 c3,.slice a4 L4 c4] 26)).heap[w.heap.size]? = some (.cells #[.bool s,.slice a1 L1 c1,.slice a2 L2 c2,.bool s2,.slice a3 L3 c3,.slice a4 L4 c4] 26 (0,0)) := heap_alloc_new w _
 have hz : (w.alloc (.cells #[.bool s,.slice a1 L1 c1,.slice a2 L2 c2,.bool s2,.slice a3 L3 c3,.slice a4 L4 c4] 26)).heap.size = w.heap.size + 1 := by simp
 have HQ := Lib.hid (And.intro hq hz)
 have HK := Lib.hid K
 have HONE := Lib.hid hone
 have h03 : (t2 = 0 ∧ L3 = 0) ∨ (t2 ≠ 0 ∧ ((L3 : Int) == 0) = false) := by
  rcases Nat.eq_zero_or_pos t2 with h0 | h0
  · exact .inl ⟨h0,by rw [hL3,h0,Nt.dig_zero]; rfl⟩
  · have := Nt.dig_len_pos.2 h0;exact .inr ⟨by omega,beq_eq_false_iff_ne.2 (by omega)⟩
 have hR : ∃ R : Bool,(decide (t2 = 0) && S) = R := ⟨_,rfl⟩
 rw [← hS]
 obtain ⟨R,hR⟩ := hR
 rw [hR]
 have HR := Lib.hid hR
 clear hR hS h1 h2 h3 h4 hL1 hL2 hL3 hL4 hone hq hz K
 go_enter Tryz.func99,Tryz.ntmps99
 go_wp2_with fail
 refine (HK.out _ (HB0.out _)).mono ?_
 rintro x w1 ⟨rfl,hb1⟩
 have HB1 := Lib.hid ((HB0.out _).trans (hb1.mono (HB0.out _).size))
 obtain ⟨e0,e1,e2,e3,e4,e5⟩ := Rt.cells6 ((hb1.block w.heap.size (by have := HQ.out.2; omega)).trans HQ.out.1)
 clear hb1
 rcases h03 with ⟨h0,rfl⟩ | ⟨h0,h00⟩
 · have hd : decide (t2 = 0) = true := decide_eq_true h0;rcases HONE.out _ HB1.out with ⟨rfl,hM⟩ | ⟨bb,off,rfl,rfl,c3,hb1⟩
   · have hans : R = false := by rw [← HR.out,hd]; rfl
     subst hans;clear hd h0;go_wp2_with fail;go_ret;exact ⟨rfl,HB1.out⟩
   · have hans : R = S := by rw [← HR.out,hd]; rfl
     subst hans;clear hd h0;cases R
     · go_wp2_with fail;go_ret;exact ⟨rfl,HB1.out⟩
     · go_wp2_with fail;go_ret;exact ⟨rfl,HB1.out⟩
 · have hd : decide (t2 = 0) = false := decide_eq_false h0;have hans : R = false := by rw [← HR.out,hd]; rfl
   subst hans;clear hd h0;go_wp2_with fail;go_ret;exact ⟨rfl,HB1.out⟩
def Dr.PostSm (o : Option Nat) (w : World) (x : Ending) (w' : World) : Prop := ∃ n e : Int,x = .returned (.tuple #[.int .i64 n,.int .i64 e]) ∧ Below w.heap.size w w' ∧ -9223372036854775808 ≤ n ∧ n ≤ 9223372036854775807 ∧ (match o with | some k => e = 0 ∧ n = (k : Int) ∧ k ≤ 255 | none => e ≠ 0 ∨ n < 0 ∨ 255 < n)
theorem Dr.PostSm.no {w w' : World} (n e : Int) (hb : Below w.heap.size w w') (h0 : -9223372036854775808 ≤ n) (h1 : n ≤ 9223372036854775807) (h : e ≠ 0 ∨ n < 0 ∨ 255 < n) : Dr.PostSm none w (.returned (.tuple #[.int .i64 n,.int .i64 e])) w' := ⟨n,e,rfl,hb,h0,h1,h⟩
theorem Dr.PostSm.yes {w w' : World} (k : Nat) (hb : Below w.heap.size w w') (h : k ≤ 255) : Dr.PostSm (some k) w (.returned (.tuple #[.int .i64 (k : Int),.int .i64 0])) w' := ⟨k,0,rfl,hb,by omega,by omega,rfl,rfl,h⟩
def Dr.smallO (s : Bool) (t b t2 : Nat) : Option Nat := if t2 = 0 ∧ b = 1 ∧ t ≤ 255 ∧ (s = true → t = 0) then some t else none
theorem Dr.small_none {s : Bool} {t b t2 : Nat} (h : ¬ (t2 = 0 ∧ b = 1)) : Dr.smallO s t b t2 = none := by
 unfold Dr.smallO;rw [if_neg];exact fun k => h ⟨k.1,k.2.1⟩
theorem Dr.Small_form (v : Value) (w : World) (K : ∀ w',Below w.heap.size w w' → Calls Tryz.prog 46 #[v] w' fun e w'' => e = .returned (.bool false) ∧ Below w'.heap.size w' w'') (c : Array Value) (hv : v = .agg c) (hc : ∃ s a1 l1 c1 a2 l2 c2 s2 a3 l3 c3 a4 l4 c4,c = #[.bool s,.slice a1 l1 c1,.slice a2 l2 c2,.bool s2,.slice a3 l3 c3,.slice a4 l4 c4]) :
 Calls Tryz.prog 70 #[v] w (Dr.PostSm none w) := by
 obtain ⟨s,a1,l1,c1,a2,l2,c2,s2,a3,l3,c3,a4,l4,c4,rfl⟩ := hc
 subst hv
 have HB0 : Hid (∀ o,Below w.heap.size w (w.alloc o)) := Lib.hid (fun o => (Below.refl _ _).alloc (Nat.le_refl _) o)
 have HK := Lib.hid K
 clear K
 go_enter Tryz.func70,Tryz.ntmps70
 go_wp2_with fail
 refine (HK.out _ (HB0.out _)).mono ?_
 rintro x w1 ⟨rfl,hb1⟩
 have HE := Lib.hid ((HB0.out (.cells #[.bool s,.slice a1 l1 c1,.slice a2 l2 c2,.bool s2,.slice a3 l3 c3,.slice a4 l4 c4] 26)).trans (hb1.mono (HB0.out _).size))
 clear hb1
 go_wp2_with fail
 go_ret2
 exact Dr.PostSm.no 0 2 HE.out (by omega) (by omega) (.inl (by decide))
theorem Dr.words (t : Nat) : ∃ a0 a1 : Nat,a0 < 4294967296 ∧ a1 < 4294967296 ∧ (0 < (Nt.dig t).length → (Nt.dig t).getD 0 0 = a0) ∧ (1 < (Nt.dig t).length → (Nt.dig t).getD 1 0 = a1) ∧ ((Nt.dig t).length = 0 → t = 0) ∧ ((Nt.dig t).length = 1 → t = a0) ∧ ((Nt.dig t).length = 2 → t = a0 + 4294967296 * a1) ∧ (2 < (Nt.dig t).length → 18446744073709551616 ≤ t) := by
 have hv := Nt.val_dig t;have hw := Nt.dig_wd t;have hp : ∀ h : 0 < t,4294967296 ^ ((Nt.dig t).length - 1) ≤ t := fun h => Nt.dig_pow_le h;have h0 : (Nt.dig t).length ≠ 0 → 0 < t := fun h => Nt.dig_len_pos.1 (by omega);match hd : Nt.dig t with
 | [] =>
   rw [hd] at hv;exact ⟨0,0,by decide,by decide,fun h => absurd h (Nat.lt_irrefl 0),fun h => by simp at h,fun _ => hv.symm,fun h => by simp at h,fun h => by simp at h,fun h => by simp at h⟩
 | [x] =>
   rw [hd] at hv hw;have hx := hw x (by simp);have e : Nt.val [x] = x := by simp [Nt.val]
   exact ⟨x,0,hx,by decide,fun _ => rfl,fun h => by simp at h,fun h => by simp at h,fun _ => by omega,fun h => by simp at h,fun h => by simp at h⟩
 | [x,y] =>
   rw [hd] at hv hw;have hx := hw x (by simp);have hy := hw y (by simp);have e : Nt.val [x,y] = x + 4294967296 * y := by simp [Nt.val]
   exact ⟨x,y,hx,hy,fun _ => rfl,fun _ => rfl,fun h => by simp at h,fun h => by simp at h,fun _ => by omega,fun h => by simp at h⟩
 | x :: y :: z :: r =>
   rw [hd] at hw h0 hp;have hx := hw x (by simp);have hy := hw y (by simp);refine ⟨x,y,hx,hy,fun _ => rfl,fun _ => rfl,fun h => by simp at h,fun h => by simp at h,fun h => by simp at h,fun _ => ?_⟩;have h1 := hp (h0 (by simp));have h2 : 4294967296 ^ 2 ≤ 4294967296 ^ ((x :: y :: z :: r).length - 1) := Nat.pow_le_pow_right (by decide) (by simp);have h3 : (4294967296 : Nat) ^ 2 = 18446744073709551616 := by decide
   omega
theorem Dr.or64 (c m : Nat) (hc : c < 4294967296) (hm : m < 4294967296) : bits .or .u64 (c : Int) ((m : Int) * 4294967296) = ((c + 4294967296 * m : Nat) : Int) := by
 have hk : ∀ n : Int,0 ≤ n → n < 2 ^ 64 → IntKind.u64.wrap n = n := fun n h0 h1 => by rw [IntKind.wrap_u64]; omega
 rw [show (m : Int) * 4294967296 = ((m * 4294967296 : Nat) : Int) by omega,(bits_nat .u64 64 (by decide) hk c (m * 4294967296) (by omega) (by omega)).2];rw [Nat.or_comm,show (4294967296 : Nat) = 2 ^ 32 from rfl,← Nat.shiftLeft_eq,← Nat.shiftLeft_add_eq_or_of_lt (by omega),Nat.shiftLeft_eq];omega
theorem Dr.or0 (c : Nat) (hc : c < 4294967296) : bits .or .u64 0 (c : Int) = (c : Int) := by
 have hk : ∀ n : Int,0 ≤ n → n < 2 ^ 64 → IntKind.u64.wrap n = n := fun n h0 h1 => by rw [IntKind.wrap_u64]; omega
 have := (bits_nat .u64 64 (by decide) hk 0 c (by omega) (by omega)).2;rw [Nat.zero_or] at this;exact this
theorem Dr.Small_snd (s : Bool) (t b : Nat) (s2 : Bool) (t2 b2 : Nat) (v : Value) (w : World) (h : Rt.Q w v s t b s2 t2 b2) (h1 : Rt.Snd s t b) (h2 : Rt.Snd s2 t2 b2) :
 Calls Tryz.prog 70 #[v] w (Dr.PostSm (Dr.smallO s t b t2) w) := by
 obtain ⟨O,hO⟩ : ∃ z,Dr.smallO s t b t2 = z := ⟨_,rfl⟩
 rw [hO]
 have HO := Lib.hid hO
 clear hO
 have K := Rt.SoundAt.of_Q h h1 h2
 have hsg := h1.sgn
 have hbp := h1.pos
 have KW := Lib.hid (fun w' (hb : Below w.heap.size w w') (hQ : Rt.Q w' v s t b s2 t2 b2) => Tx.Whole_snd s t b s2 t2 b2 v w' hQ (fun w'' hb'' => K w'' (hb.trans (hb''.mono hb.size))) hbp)
 obtain ⟨tv,bv,tv2,bv2,rfl,i1,i2,i3,i4⟩ := h
 have HQB := Lib.hid (fun w' (hb : Below w.heap.size w w') => show Rt.Q w' _ s t b s2 t2 b2 from ⟨tv,bv,tv2,bv2,rfl,i1.below hb (Nat.le_refl _),i2.below hb (Nat.le_refl _),i3.below hb (Nat.le_refl _),i4.below hb (Nat.le_refl _)⟩)
 obtain ⟨L1,a1,c1,rfl,hL1⟩ := Tx.N_slice i1
 obtain ⟨L2,a2,c2,rfl,hL2⟩ := Tx.N_slice i2
 obtain ⟨L3,a3,c3,rfl,hL3⟩ := Tx.N_slice i3
 obtain ⟨L4,a4,c4,rfl,hL4⟩ := Tx.N_slice i4
 have HB0 : Hid (∀ o,Below w.heap.size w (w.alloc o)) := Lib.hid (fun o => (Below.refl _ _).alloc (Nat.le_refl _) o)
 have hq : (w.alloc (.cells #[.bool s,.slice a1 L1 c1,.slice a2 L2 c2,.bool s2,.slice a3 L3 c3,.slice a4 L4 c4] 26)).heap[w.heap.size]? = some (.cells #[.bool s,.slice a1 L1 c1,.slice a2 L2 c2,.bool s2,.slice a3 L3 c3,.slice a4 L4 c4] 26 (0,0)) := heap_alloc_new w _
 have hz : (w.alloc (.cells #[.bool s,.slice a1 L1 c1,.slice a2 L2 c2,.bool s2,.slice a3 L3 c3,.slice a4 L4 c4] 26)).heap.size = w.heap.size + 1 := by simp
 have HQ := Lib.hid (And.intro hq hz)
 have HK := Lib.hid K
 obtain ⟨x0,x1,hx0,hx1,q0,q1,q2,q3,q4,q5⟩ := Dr.words t
 rw [← hL1] at q0 q1 q2 q3 q4 q5
 have HIN := Lib.hid (show ∀ w',Below w.heap.size w w' → Nt.In w' (.slice a1 L1 c1) (Nt.dig t) from fun w' hb => i1.below hb (Nat.le_refl _))
 have HL1 := Lib.hid hL1
 have HWD := Lib.hid (And.intro q0 (And.intro q1 (And.intro q2 (And.intro q3 (And.intro q4 q5)))))
 have HSG := Lib.hid hsg
 have hL1b : L1 ≤ 512 := by rw [hL1]; exact h1.l1
 clear i1 i2 i3 i4 hL1 hL2 hL3 hL4 hq hz K q0 q1 q2 q3 q4 q5 hsg h1 h2 hbp
 go_enter Tryz.func70,Tryz.ntmps70
 go_wp2_with fail
 refine (HK.out _ (HB0.out _)).mono ?_
 rintro x w1 ⟨rfl,hb1⟩
 have HB1 := Lib.hid ((HB0.out _).trans (hb1.mono (HB0.out _).size))
 have hq1 := (hb1.block w.heap.size (by have := HQ.out.2; omega)).trans HQ.out.1
 have HQ1 := Lib.hid (And.intro hq1 (show w.heap.size < w1.heap.size from by have := hb1.size; have := HQ.out.2; omega))
 obtain ⟨e0,e1,e2,e3,e4,e5⟩ := Rt.cells6 hq1
 clear hb1 hq1
 go_wp2_with fail
 refine (KW.out _ HB1.out (HQB.out _ HB1.out)).mono ?_
 rintro x w2 ⟨rfl,hb2⟩
 have HB2 := Lib.hid (HB1.out.trans (hb2.mono HB1.out.size))
 have hq2 := (hb2.block w.heap.size HQ1.out.2).trans HQ1.out.1
 clear hb2 e0 e1 e2 e3 e4 e5
 obtain ⟨e0,e1,e2,e3,e4,e5⟩ := Rt.cells6 hq2
 clear hq2
 by_cases hW : t2 = 0 ∧ b = 1
 · have hW1 : (decide (t2 = 0) && decide (b = 1)) = true := by rw [decide_eq_true hW.1,decide_eq_true hW.2]; rfl
   have HOO := Lib.hid (show O = if t ≤ 255 ∧ (s = true → t = 0) then some t else none from by rw [← HO.out]; unfold Dr.smallO; simp only [hW.1,hW.2,true_and]);rw [hW1];clear hW hW1;go_wp2_with fail;go_loop [4,17] (fun v4 v17 => ∃ k u : Nat,v17 = .int .i64 (k : Int) ∧ v4 = .int .u64 (u : Int) ∧ k ≤ L1 ∧ ((k = 0 ∧ u = 0) ∨ (k = 1 ∧ u = x0) ∨ (k = 2 ∧ u = x0 + 4294967296 * x1))) (fun _ v17 => L1 - (intOf v17).toNat);case atStart => exact ⟨0,0,rfl,rfl,Nat.zero_le _,.inl ⟨rfl,rfl⟩⟩
   case round =>
    obtain ⟨k,u,rfl,rfl,hk,hku⟩ := hrel;have HI2 := Lib.hid (HIN.out w2 HB2.out);by_cases hlt : k < L1
    · rcases HI2.out with ⟨e,_⟩ | ⟨_,_,e,_⟩ | ⟨h0,b3,off3,cap3,e,hc,hblt,hcell⟩
      · simp only [Value.slice.injEq] at e; omega
      · simp only [Value.slice.injEq] at e; omega
      simp only [Value.slice.injEq] at e;obtain ⟨rfl,hLL,_⟩ := e;clear hLL;have hce := hcell k (by rw [← HL1.out]; exact hlt);clear hcell hc hblt h0;rcases hku with ⟨rfl,rfl⟩ | ⟨rfl,rfl⟩ | ⟨rfl,rfl⟩
      · have hlt2 : (0 : Int) < (L1 : Int) := by omega
        rw [HWD.out.1 hlt,Nat.add_zero] at hce;go_wp2_with fail;refine ⟨⟨1,x0,rfl,by rw [Dr.or0 x0 hx0],by omega,.inr (.inl ⟨rfl,rfl⟩)⟩,?_⟩;show L1 - 1 < L1 - 0;omega
      · have hlt2 : (1 : Int) < (L1 : Int) := by omega
        rw [HWD.out.2.1 hlt] at hce;go_wp2_with fail;refine ⟨⟨2,u + 4294967296 * x1,rfl,?_,by omega,.inr (.inr ⟨rfl,rfl⟩)⟩,?_⟩
        · first
           | rw [Dr.or64 u x1 hx0 hx1]
           | (trace_state; sorry)
        · show L1 - 2 < L1 - 1;omega
      · have hlt2 : (2 : Int) < (L1 : Int) := by omega
        have hbig := HWD.out.2.2.2.2.2 hlt;have hOn : O = none := by
         rw [HOO.out,if_neg];intro h;omega
        subst hOn;clear hbig;go_wp2_with fail;go_ret2;exact Dr.PostSm.no 0 4 HB2.out (by omega) (by omega) (.inl (by decide))
    · obtain rfl : k = L1 := by omega
      have hw := HWD.out;have htu : t = u := by
       rcases hku with ⟨rfl,rfl⟩ | ⟨rfl,rfl⟩ | ⟨rfl,rfl⟩
       · exact hw.2.2.1 rfl
       · exact hw.2.2.2.1 rfl
       · exact hw.2.2.2.2.1 rfl
      have hub : u < 18446744073709551616 := by
       rcases hku with ⟨rfl,rfl⟩ | ⟨rfl,rfl⟩ | ⟨rfl,rfl⟩
       · decide
       · omega
       · omega
      have hsg := HSG.out;have hOO := HOO.out;rw [htu] at hsg hOO;clear hw hku htu hlt hk HWD HOO HSG HI2 HIN HL1 hL1b;rcases Nat.lt_trichotomy u 9223372036854775808 with h1 | h1 | h1
      · have t1 : decide ((9223372036854775808 : Int) < (u : Int)) = false := decide_eq_false (by omega);have t2' : ((u : Int) == 9223372036854775808) = false := beq_eq_false_iff_ne.2 (by omega);have t3 : ¬ (9223372036854775808 : Int) < (u : Int) := by omega
        cases s with
        | true =>
          have hu0 : u ≠ 0 := fun h => by have := hsg h; cases this
          have hOn : O = none := by
           rw [hOO,if_neg];intro h;exact hu0 (h.2 rfl)
          subst hOn;have n1 : IntKind.u64.wrap (-(u : Int)) = 18446744073709551616 - (u : Int) := by rw [IntKind.wrap_u64]; omega
          have n2 : IntKind.i64.wrap (18446744073709551616 - (u : Int)) = -(u : Int) := by rw [IntKind.wrap_i64]; omega
          clear hOO hsg;go_wp2_with fail;first
           | (go_ret2; exact Dr.PostSm.no (-(u : Int)) 0 HB2.out (by omega) (by omega) (.inr (.inl (by omega))))
           | (trace_state; sorry)
        | false =>
          have n1 : IntKind.i64.wrap (u : Int) = (u : Int) := by rw [IntKind.wrap_i64]; omega
          by_cases h5 : u ≤ 255
          · rw [if_pos ⟨h5,by simp⟩] at hOO;subst hOO;clear hsg;go_wp2_with fail;first
             | (go_ret2; exact Dr.PostSm.yes u HB2.out h5)
             | (trace_state; sorry)
          · rw [if_neg (fun h => h5 h.1)] at hOO;subst hOO;clear hsg;go_wp2_with fail;first
             | (go_ret2; exact Dr.PostSm.no (u : Int) 0 HB2.out (by omega) (by omega) (.inr (.inr (by omega))))
             | (trace_state; sorry)
      · subst h1;rw [if_neg (fun h => by omega)] at hOO;subst hOO;cases s with
        | true =>
          have n1 : IntKind.u64.wrap (-9223372036854775808) = 9223372036854775808 := by rw [IntKind.wrap_u64]; omega
          have n2 : Go.RowKit.wrap64 9223372036854775808 = -9223372036854775808 := by unfold Go.RowKit.wrap64; decide
          clear hsg;go_wp2_with fail;first
           | (go_ret2; exact Dr.PostSm.no (-9223372036854775808) 0 HB2.out (by omega) (by omega) (.inr (.inl (by omega))))
           | (trace_state; sorry)
        | false =>
          clear hsg;go_wp2_with fail;go_ret2;exact Dr.PostSm.no 0 4 HB2.out (by omega) (by omega) (.inl (by decide))
      · have t1 : decide ((9223372036854775808 : Int) < (u : Int)) = true := decide_eq_true (by omega);have t3 : (9223372036854775808 : Int) < (u : Int) := by omega
        rw [if_neg (fun h => by omega)] at hOO;subst hOO;clear hsg;go_wp2_with fail;go_ret2;exact Dr.PostSm.no 0 4 HB2.out (by omega) (by omega) (.inl (by decide))
 · have hW1 : (decide (t2 = 0) && decide (b = 1)) = false := by
    cases hd : (decide (t2 = 0) && decide (b = 1)) with
    | false => rfl
    | true =>
      simp only [Bool.and_eq_true,decide_eq_true_eq] at hd;exact absurd hd hW
   have hOn : O = none := by rw [← HO.out]; exact Dr.small_none hW
   subst hOn;rw [hW1];clear hW hW1;go_wp2_with fail;go_ret2;exact Dr.PostSm.no 0 10 HB2.out (by omega) (by omega) (.inl (by decide))
def Dr.PostBk (b : Nat) (S : ByteArray) (g : Bool) (w : World) (R : Dr.Res) (e : Ending) (w' : World) : Prop :=
 match R with
 | .fault => e = Dr.dead ∧ Dr.Kept b w w'
 | .skip r => e = .returned (.tuple #[]) ∧ Dr.At b S r g w' ∧ Dr.Kept b w w'
 | _ => False
def Dr.PostDm (b : Nat) (S : ByteArray) (g : Bool) (w : World) (R : Dr.Res) (e : Ending) (w' : World) : Prop :=
 match R with
 | .fault => e = Dr.dead ∧ Dr.Kept b w w'
 | .got t r big => ∃ v,e = .returned v ∧ Tr.In w' (fun q => w.heap.size ≤ q) t v ∧ Dr.At b S r (g || big) w' ∧ Dr.Kept b w w'
 | _ => False
def Dr.PostIt (b : Nat) (S : ByteArray) (g : Bool) (w : World) (R : Dr.Res) (e : Ending) (w' : World) : Prop :=
 match R with
 | .fault => e = Dr.dead ∧ Dr.Kept b w w'
 | .list ts r big => ∃ v,e = .returned v ∧ Tr.LIn w' (fun q => w.heap.size ≤ q) ts v ∧ ts.length ≤ S.size ∧ Dr.At b S r (g || big) w' ∧ Dr.Kept b w w'
 | _ => False
def Dr.PostPr (b : Nat) (S : ByteArray) (g : Bool) (w : World) (R : Dr.Res) (e : Ending) (w' : World) : Prop :=
 match R with
 | .fault => e = Dr.dead ∧ Dr.Kept b w w'
 | .lst ts last r big => ∃ v,e = .returned v ∧ Tr.In w' (fun q => w.heap.size ≤ q) (Dr.listT ts last) v ∧ Dr.At b S r (g || big) w' ∧ Dr.Kept b w w'
 | _ => False
def Dr.Con : Dr.Job → Prop
 | .blanks l => ∀ (b : Nat) (S : ByteArray) (g : Bool) (w : World) (R : Dr.Res),Dr.At b S l g w → S.size ≤ 1048576 → Dr.Tabs w → Dr.Rel (.blanks l) R →
     Calls Tryz.prog 20 #[.pointer (some ⟨b,0,none⟩)] w fun e w' => Dr.PostBk b S g w R e w'
 | .datum l => ∀ (b : Nat) (S : ByteArray) (g : Bool) (w : World) (R : Dr.Res),Dr.At b S l g w → S.size ≤ 1048576 → Dr.Tabs w → Dr.Rel (.datum l) R →
     Calls Tryz.prog 21 #[.pointer (some ⟨b,0,none⟩)] w fun e w' => Dr.PostDm b S g w R e w'
 | .items e l => ∀ (b : Nat) (S : ByteArray) (g : Bool) (w : World) (R : Dr.Res),Dr.At b S l g w → S.size ≤ 1048576 → Dr.Tabs w → Dr.Rel (.items e l) R → e = 41 →
     Calls Tryz.prog 41 #[.pointer (some ⟨b,0,none⟩),.int .i32 41] w fun e w' => Dr.PostIt b S g w R e w'
 | .pairs e f l => ∀ (b : Nat) (S : ByteArray) (g : Bool) (w : World) (R : Dr.Res) (o : Int),Dr.At b S l g w → S.size ≤ 1048576 → Dr.Tabs w → Dr.Rel (.pairs e f l) R → e = Dr.close o → (o = 40 ∨ o = 91) → f = true →
     Calls Tryz.prog 38 #[.pointer (some ⟨b,0,none⟩),.int .i32 o] w fun e w' => Dr.PostPr b S g w R e w'
theorem Dr.bk_inv_stop {l : List UInt8} {R : Dr.Res} (h : Dr.bk l = .stop) (k : Dr.Rel (.blanks l) R) : R = .skip l := k.det (.bStop h)
theorem Dr.bk_inv_fault {l : List UInt8} {R : Dr.Res} (h : Dr.bk l = .fault) (k : Dr.Rel (.blanks l) R) : R = .fault := k.det (.bFault h)
theorem Dr.bk_inv_go {l r : List UInt8} {R : Dr.Res} (h : Dr.bk l = .go r) (k : Dr.Rel (.blanks l) R) : Dr.Rel (.blanks r) R := by
 obtain ⟨R',hR'⟩ := Dr.total (.blanks r);rw [k.det (.bGo h hR')];exact hR'
theorem Dr.bk_inv_datum {l r : List UInt8} {R : Dr.Res} (h : Dr.bk l = .datum r) (k : Dr.Rel (.blanks l) R) : (Dr.Rel (.blanks r) .fault ∧ R = .fault) ∨ ∃ r1,Dr.Rel (.blanks r) (.skip r1) ∧ r1.length ≤ r.length ∧
 ((Dr.Rel (.datum r1) .fault ∧ R = .fault) ∨ ∃ t r2 big,Dr.Rel (.datum r1) (.got t r2 big) ∧ r2.length < r1.length ∧ Dr.Rel (.blanks r2) R) := by
 obtain ⟨R1,h1⟩ := Dr.total (.blanks r)
 rcases Dr.skips h1 with rfl | ⟨r1,rfl,hl⟩
 · exact .inl ⟨h1,k.det (.bDat1 h h1)⟩
 · refine .inr ⟨r1,h1,hl,?_⟩;obtain ⟨R2,h2⟩ := Dr.total (.datum r1);rcases Dr.gots h2 with rfl | ⟨t,r2,b,rfl,hl2⟩
   · exact .inl ⟨h2,k.det (.bDat2 h h1 h2)⟩
   · obtain ⟨R3,h3⟩ := Dr.total (.blanks r2);refine .inr ⟨t,r2,b,h2,hl2,?_⟩;rw [k.det (.bDat3 h h1 h2 h3)];exact h3
def Dr.pc (l : List UInt8) : Int := if l = [] then 0 else Dr.cp l
def Dr.pn (l : List UInt8) : Nat := if l = [] then 0 else Dr.wd l
theorem Dr.pc_nil : Dr.pc [] = 0 ∧ Dr.pn [] = 0 := ⟨rfl,rfl⟩
theorem Dr.pc_cons {l : List UInt8} (h : l ≠ []) : Dr.pc l = Dr.cp l ∧ Dr.pn l = Dr.wd l := by
 unfold Dr.pc Dr.pn;exact ⟨if_neg h,if_neg h⟩
theorem Dr.peek_pc (b : Nat) (S : ByteArray) (l : List UInt8) (g : Bool) (w : World) (h : Dr.At b S l g w) (hb : l = [] ∨ Dr.bad l = false) (hT : Dr.Tabs w) :
 Calls Tryz.prog 32 #[.pointer (some ⟨b,0,none⟩)] w fun e w' => e = .returned (.tuple #[.int .i32 (Dr.pc l),.int .i64 (Dr.pn l)]) ∧ Below w.heap.size w w' := by
 unfold Dr.pc Dr.pn
 by_cases hl : l = []
 · subst hl;rw [if_pos rfl,if_pos rfl];exact Dr.peek_end b S g w h
 · rw [if_neg hl,if_neg hl];exact Dr.peek_ok b S l g w h hl (hb.resolve_left hl) hT
theorem Dr.line_eq {l : List UInt8} (h : l ≠ []) (hb : Dr.bad l = false) : Dr.line l = if Dr.lineC (Dr.cp l) = true then some l else Dr.line (l.drop (Dr.wd l)) := by
 rw [Dr.line,dif_neg h,if_neg (by rw [hb]; simp)]
theorem Dr.line_nil : Dr.line [] = some [] := by rw [Dr.line,dif_pos rfl]
theorem Dr.line_bad {l : List UInt8} (h : l ≠ []) (hb : Dr.bad l = true) : Dr.line l = none := by rw [Dr.line,dif_neg h,if_pos hb]
def Dr.cX : ByteArray := ⟨#[48,49,50,51,52,53,54,55,56,57,97,98,99,100,101,102,65,66,67,68,69,70]⟩
theorem Dr.tabX : ∀ n : Fin 256,decide (0 ≤ Lib.indexByte Dr.cX.data.toList (UInt8.ofNat n.val)) = Dr.hexB (UInt8.ofNat n.val) := by decide +kernel
theorem Dr.ixX (x : UInt8) : decide (0 ≤ Lib.indexByte Dr.cX.data.toList x) = Dr.hexB x := by
 have := Dr.tabX ⟨x.toNat,x.toNat_lt⟩;simpa using this
theorem Dr.At.byte {b p : Nat} {S : ByteArray} {x : UInt8} {t : List UInt8} {g : Bool} {w : World} (h : Dr.At b S (x :: t) g w) (hp : S.size - (x :: t).length = p) : ∃ hlt : p < S.size,S[p]'hlt = x := by
 have h1 := h.suf;have h2 := h.le;rw [hp] at h1;have hlt : p < S.size := by simp at hp h2; omega
 refine ⟨hlt,?_⟩;have h3 : S.data.toList[p]? = some x := by
  have : (S.data.toList.drop p)[0]? = some x := by rw [h1]; rfl
  simpa using this
 have h4 : S.data.toList[p]'(by simpa using hlt) = x := by
  rw [List.getElem?_eq_getElem (by simpa using hlt)] at h3;exact Option.some.inj h3
 exact h4
theorem Dr.digits_any (b : Nat) (S : ByteArray) (g : Bool) (l : List UInt8) (w : World) (h : Dr.At b S l g w) (hs : S.size ≤ 9223372036854775807) (hT : Dr.Tabs w) :
 Calls Tryz.prog 76 #[.pointer (some ⟨b,0,none⟩)] w fun e w' => Dr.PostL b S g w (Dr.digits l) e w' := by
 obtain ⟨R,hR⟩ : ∃ z,Dr.digits l = z := ⟨_,rfl⟩
 rw [hR]
 unfold Dr.digits at hR
 have hne := h.tabs_ne hT
 cases hn : Dr.next l with
 | none =>
   rw [hn] at hR
   have HR := Lib.hid (show R = none from hR.symm)
   have KF := Dr.next_none b S l g w h hn hT
   clear h hT hn hR hne
   go_enter Tryz.func76,Tryz.ntmps76
   go_wp2_with fail
   refine KF.mono ?_
   rintro x w3 ⟨rfl,hb3⟩
   have HE : Hid (Dr.PostL b S g w R Dr.dead w3) := Lib.hid (by rw [HR.out]; exact ⟨rfl,Dr.Kept.of_below hb3⟩)
   clear hb3
   unfold Dr.dead at *
   go_wp2_with fail
   exact ⟨rfl,HE.out⟩
 | some x =>
   obtain ⟨c,r⟩ := x
   rw [hn] at hR
   have HR := Lib.hid (show some (Dr.semi (r.dropWhile Dr.hexB)) = R from hR)
   have KN := Dr.next_ok b S l g c r w h hs hn hT
   have HNE := Lib.hid (And.intro hT hne)
   clear h hT hn hR hne
   go_enter Tryz.func76,Tryz.ntmps76
   go_wp2_with fail
   refine KN.mono ?_
   rintro x w1 ⟨rfl,hA1,hK1⟩
   have H0 := Lib.hid (show ∃ l',Dr.At b S l' g w1 ∧ Dr.Kept b w w1 ∧ l'.dropWhile Dr.hexB = r.dropWhile Dr.hexB from ⟨r,hA1,hK1,rfl⟩)
   clear hA1 hK1
   go_wp2_with fail
   go_loopw [] (fun wr => ∃ l',Dr.At b S l' g wr ∧ Dr.Kept b w wr ∧ l'.dropWhile Dr.hexB = r.dropWhile Dr.hexB) (fun wr => Dr.left b S wr)
   case atStart => exact H0.out
   case round =>
    obtain ⟨l',hA,hK,hd⟩ := hrel
    clear H0
    have hb1 : Below wr.heap.size wr wr.drew := Below.drew (Below.refl _ _)
    obtain ⟨c0,c1,c2⟩ := hA.cells
    obtain ⟨hp1,hp2⟩ := hA.range
    have hbl := hA.lt
    have HM := Lib.hid hA.left
    obtain ⟨p,hp⟩ : ∃ z,S.size - l'.length = z := ⟨_,rfl⟩
    have HP := Lib.hid hp
    rw [hp] at c1 hp1 hp2
    have HS := Lib.hid (fun (w' : World) (hb : Below wr.heap.size wr w') => (show w'.cell? ⟨b,0,none⟩ = some (.string S) ∧ w'.cell? ⟨b,1,none⟩ = some (.int .i64 (p : Int)) from ⟨(hb.cell (p := ⟨b,0,none⟩) hbl).trans c0,(hb.cell (p := ⟨b,1,none⟩) hbl).trans c1⟩))
    have HA := Lib.hid hA
    have HK := Lib.hid hK
    have HD := Lib.hid hd
    cases l' with
    | nil =>
      have hpe : p = S.size := by simpa using hp.symm
      have HE := Lib.hid (show Dr.PostL b S g w R (.returned (.tuple #[])) wr.drew.drew from by
        rw [← HR.out,← hd]
        exact ⟨rfl,hA.below (Below.drew hb1),hK.trans (Dr.Kept.of_below (Below.drew hb1))⟩)
      clear hA hK hd hp c2 hbl HS HP
      subst hpe
      go_wp2_with fail
      go_region
      all_goals
       go_wp2_with fail
       go_region
       all_goals
        go_wp2_with fail
        first | go_end0 | refine bodyPost_ret (results_none rfl _ _ _) rfl ?_
        exact HE.out
    | cons x t =>
      obtain ⟨hlt,hx⟩ := hA.byte hp
      have hplt : (p : Int) < (S.size : Int) := by omega
      have KI : ∀ w',Calls Tryz.prog 95 #[.string Dr.cX,.int .u8 ((S[p]'hlt).toNat : Int)] w' fun e w'' => e = .returned (.int .i64 (Lib.indexByte Dr.cX.data.toList x)) ∧ w' = w'' := fun w' => by
       refine (Tryz.strings_IndexByte Dr.cX ((S[p]'hlt).toNat : Int) w').mono ?_;rintro e w'' ⟨rfl,rfl⟩;rw [hx];simp
      obtain ⟨v,hv⟩ : ∃ z,(S[p]'hlt).toNat = z := ⟨_,rfl⟩
      have hxv : x.toNat = v := by rw [← hx]; exact hv
      rw [hv] at KI
      have hk := Dr.ixX x
      obtain ⟨k,hk2⟩ : ∃ z,Lib.indexByte Dr.cX.data.toList x = z := ⟨_,rfl⟩
      rw [hk2] at KI hk
      unfold Dr.cX at KI
      have KI := Lib.hid KI
      clear hk2
      have hkeep := HS.out wr.drew hb1
      have hp64 : (p : Int) + 1 ≤ 9223372036854775807 := by omega
      cases hX : Dr.hexB x with
      | true =>
        rw [hX] at hk
        have hk0 : 0 ≤ k := of_decide_eq_true hk
        obtain ⟨W,hW,hfz,hAt,hKW,hz⟩ := Dr.setAt (hA.below hb1) hp (n := 1) (by simp) 1 rfl
        have HE := Lib.hid (show (∃ l',Dr.At b S l' g W ∧ Dr.Kept b w W ∧ l'.dropWhile Dr.hexB = r.dropWhile Dr.hexB) ∧ Dr.left b S W < Dr.left b S wr from
          ⟨⟨t,hAt,(hK.trans (Dr.Kept.of_below hb1)).trans hKW,by rw [← hd,List.dropWhile_cons,if_pos hX]⟩,by rw [hAt.left,HM.out]; simp⟩)
        clear hA hK hd hp c2 hx hbl hk hX hAt hKW hz hxv
        go_wp2_with fail
        go_region_held3 (fun w' => w'.cell? ⟨b,0,none⟩ = some (.string S) ∧ w'.cell? ⟨b,1,none⟩ = some (.int .i64 (p : Int)))
         (first | exact hkeep)
         (first
           | (go_at_call 95
              refine (KI.out _).mono ?_
              rintro x w2 ⟨rfl,rfl⟩))
        obtain ⟨d0,d1⟩ := hkeep
        generalize wr.drew = w2 at *
        go_wp2_with fail
        exact HE.out
      | false =>
        rw [hX] at hk
        have hk0 : k < 0 := by have := of_decide_eq_false hk; omega
        have hb2 : Below wr.heap.size wr wr.drew.drew := Below.drew hb1
        have hkeep2 := HS.out wr.drew.drew hb2
        have hdr : (x :: t).dropWhile Dr.hexB = x :: t := by rw [List.dropWhile_cons,if_neg (by rw [hX]; simp)]
        have hAb := hA.below hb2
        have hKb := hK.trans (Dr.Kept.of_below hb2)
        obtain ⟨W,hW,hfz,hAt,hKW,hz⟩ := Dr.setAt hAb hp (n := 1) (by simp) 1 rfl
        have HE1 := Lib.hid (fun (h59 : x = 59) => show Dr.PostL b S g w R (.returned (.tuple #[])) W from by
            rw [← HR.out,← hd,hdr];show Dr.PostL b S g w (some (if x = 59 then t else x :: t)) _ _;rw [if_pos h59]
            exact ⟨rfl,hAt,hKb.trans hKW⟩)
        have HE2 := Lib.hid (fun (h59 : ¬ x = 59) => show Dr.PostL b S g w R (.returned (.tuple #[])) wr.drew.drew from by
            rw [← HR.out,← hd,hdr];show Dr.PostL b S g w (some (if x = 59 then t else x :: t)) _ _;rw [if_neg h59]
            exact ⟨rfl,hAb,hKb⟩)
        have H59 : x = 59 ↔ v = 59 := by
         rw [← hxv];constructor
         · rintro rfl; rfl
         · exact fun e => UInt8.toNat.inj e
        clear hA hK hd hp c2 hx hbl hX hAt hKW hz hdr hAb hKb hxv
        by_cases h59 : v = 59
        · have HE := Lib.hid (HE1.out (H59.2 h59));subst h59;clear HE1 HE2 H59;go_wp2_with fail;go_region_held3 (fun w' => w'.cell? ⟨b,0,none⟩ = some (.string S) ∧ w'.cell? ⟨b,1,none⟩ = some (.int .i64 (p : Int)))
           (first | exact hkeep)
           (first
             | (go_at_call 95
                refine (KI.out _).mono ?_
                rintro x w2 ⟨rfl,rfl⟩))
          go_wp2_with fail;go_region_held3 (fun w' => w'.cell? ⟨b,0,none⟩ = some (.string S) ∧ w'.cell? ⟨b,1,none⟩ = some (.int .i64 (p : Int)))
           (first | exact hkeep2)
           (fail)
          obtain ⟨d0,d1⟩ := hkeep2;clear hkeep;generalize wr.drew.drew = w2 at *;go_wp2_with fail;first | go_end0 | refine bodyPost_ret (results_none rfl _ _ _) rfl ?_
          exact HE.out
        · have HE := Lib.hid (HE2.out (fun e => h59 (H59.1 e)));have e1 : ((v : Int) == 59) = false := beq_eq_false_iff_ne.2 (by omega);clear HE1 HE2 H59 hW hfz h59;go_wp2_with fail;go_region_held3 (fun w' => w'.cell? ⟨b,0,none⟩ = some (.string S) ∧ w'.cell? ⟨b,1,none⟩ = some (.int .i64 (p : Int)))
           (first | exact hkeep)
           (first
             | (go_at_call 95
                refine (KI.out _).mono ?_
                rintro x w2 ⟨rfl,rfl⟩))
          go_wp2_with fail;go_region_held3 (fun w' => w'.cell? ⟨b,0,none⟩ = some (.string S) ∧ w'.cell? ⟨b,1,none⟩ = some (.int .i64 (p : Int)))
           (first | exact hkeep2)
           (fail)
          go_wp2_with fail;first | go_end0 | refine bodyPost_ret (results_none rfl _ _ _) rfl ?_
          exact HE.out
theorem Dr.token_eq (l : List UInt8) (h : l ≠ []) (hb : Dr.bad l = false) : Dr.token l = if Dr.delim (Dr.cp l) = true then some l else if Dr.cp l = 92 then (match Dr.digits (l.drop (Dr.wd l)) with | none => none | some r => Dr.token r) else Dr.token (l.drop (Dr.wd l)) := by
 rw [Dr.token,dif_neg h,if_neg (by rw [hb]; simp)];split
 · rfl
 · split
   · split
     · rename_i e; rw [e]
     · rename_i r e; rw [e]
   · rfl
theorem Dr.token_nil : Dr.token [] = some [] := by rw [Dr.token,dif_pos rfl]
theorem Dr.token_bad (l : List UInt8) (h : l ≠ []) (hb : Dr.bad l = true) : Dr.token l = none := by rw [Dr.token,dif_neg h,if_pos hb]
theorem Dr.At.between {b b' : Nat} {S : ByteArray} {l r : List UInt8} {g g' : Bool} {w w' : World} (h : Dr.At b S l g w) (k : Dr.At b' S r g' w') (hl : r.length ≤ l.length) : S.extract (S.size - l.length) (S.size - r.length) = ⟨(Dr.upto l r).toArray⟩ := by
 apply ByteArray.ext;apply Array.ext';rw [ByteArray.data_extract,Array.toList_extract];simp only [List.extract_eq_take_drop];have h1 := h.suf;have h2 := h.le;have h3 := k.le;rw [h1];show _ = List.take (l.length - r.length) l;congr 1;omega
def Dr.PostT (b : Nat) (S : ByteArray) (g : Bool) (w : World) (l : List UInt8) (R : Option (List UInt8)) (e : Ending) (w' : World) : Prop :=
 match R with
 | none => e = Dr.dead ∧ Dr.Kept b w w'
 | some r => e = .returned (.string ⟨(Dr.upto l r).toArray⟩) ∧ Dr.At b S r g w' ∧ Dr.Kept b w w'
theorem Dr.token_any (b : Nat) (S : ByteArray) (g : Bool) (l : List UInt8) (w : World) (h : Dr.At b S l g w) (hs : S.size ≤ 9223372036854775807) (hT : Dr.Tabs w) :
 Calls Tryz.prog 45 #[.pointer (some ⟨b,0,none⟩)] w fun e w' => Dr.PostT b S g w l (Dr.token l) e w' := by
 obtain ⟨R,hR⟩ : ∃ z,Dr.token l = z := ⟨_,rfl⟩
 rw [hR]
 have HAT := Lib.hid h
 have HNE := Lib.hid (And.intro hT (h.tabs_ne hT))
 have H0 := Lib.hid (show ∃ l',Dr.At b S l' g w ∧ Dr.Kept b w w ∧ Dr.token l' = R ∧ l'.length ≤ l.length from ⟨l,h,Dr.Kept.refl _ _,hR,Nat.le_refl _⟩)
 obtain ⟨c0,c1,c2⟩ := h.cells
 obtain ⟨hq1,hq2⟩ := h.range
 obtain ⟨q,hq⟩ : ∃ z,S.size - l.length = z := ⟨_,rfl⟩
 have HQ := Lib.hid hq
 rw [hq] at c1 hq1 hq2
 clear h hT hR hq
 go_enter Tryz.func45,Tryz.ntmps45
 go_wp2_with fail
 go_loopw [] (fun wr => ∃ l',Dr.At b S l' g wr ∧ Dr.Kept b w wr ∧ Dr.token l' = R ∧ l'.length ≤ l.length) (fun wr => Dr.left b S wr)
 case atStart => exact H0.out
 case round =>
  obtain ⟨l',hA,hK,hR,hll⟩ := hrel
  clear H0 c0 c1 c2
  have hTr : Dr.Tabs wr := Dr.tabs_kept HNE.out.1 HNE.out.2.1 HNE.out.2.2 hK
  have HTr := Lib.hid hTr
  have HM := Lib.hid hA.left
  have hAle := hA.le
  obtain ⟨p,hp⟩ : ∃ z,S.size - l'.length = z := ⟨_,rfl⟩
  have HP := Lib.hid hp
  have hpq : q ≤ p := by have := HQ.out; omega
  have hpS : p ≤ S.size := by omega
  have hqp : (q : Int) ≤ (p : Int) := by omega
  have hps : (p : Int) ≤ (S.size : Int) := by omega
  have hp0 : 0 ≤ (p : Int) := by omega
  have hsub : S.extract q p = ⟨(Dr.upto l l').toArray⟩ := by
   have := HAT.out.between hA hll;rwa [HQ.out,hp] at this
  have HC := Lib.hid (fun (w' : World) (hb : Below wr.heap.size wr w') => (hA.below hb).cells)
  rw [hp] at HC
  have HF := Lib.hid (fun (w' : World) (hb : Below wr.heap.size wr w') (hR : Dr.token l' = some l') => show Dr.PostT b S g w l R (.returned (.string ⟨(Dr.upto l l').toArray⟩)) w' from by
    rw [← ‹Dr.token l' = R›,hR]
    exact ⟨rfl,hA.below hb,hK.trans (Dr.Kept.of_below hb)⟩)
  by_cases hl : l' = []
  · subst hl;have KP := Dr.peek_end b S g wr hA;clear hAle hA hK hR hll hp HP hTr HTr HM hpq hpS;go_wp2_with fail;refine KP.mono ?_;rintro x w1 ⟨rfl,hb1⟩;obtain ⟨d0,d1,d2⟩ := HC.out w1 hb1;have HE := Lib.hid (HF.out w1.drew (Below.drew hb1) Dr.token_nil);clear HC HF KP hb1;go_wp2_with fail;go_region_held3 (fun w' => w'.cell? ⟨b,0,none⟩ = some (.string S) ∧ w'.cell? ⟨b,1,none⟩ = some (.int .i64 (p : Int)))
     (go_keep)
     (fail)
    go_wp2_with fail;go_ret;exact HE.out
  cases hb : Dr.bad l' with
  | true =>
    have KP := Dr.peek_bad b S l' g wr hA hl hb hTr
    have HE0 := Lib.hid (fun (w1 : World) (hb1 : Below wr.heap.size wr w1) => show Dr.PostT b S g w l R Dr.dead w1 from by
      rw [← hR,Dr.token_bad l' hl hb]
      exact ⟨rfl,hK.trans (Dr.Kept.of_below hb1)⟩)
    clear hAle hA hK hR hll hp HP hTr HTr HM hpq hpS HC HF hl hb
    go_wp2_with fail
    refine KP.mono ?_
    rintro x w1 ⟨rfl,hb1⟩
    have HE := Lib.hid (HE0.out w1 hb1)
    clear HE0 hb1
    unfold Dr.dead at *
    go_wp2_with fail
    exact ⟨rfl,HE.out⟩
  | false =>
    have KP := Dr.peek_ok b S l' g wr hA hl hb hTr
    have hwp := Dr.wd_pos hl
    have hwl := Dr.wd_le hl
    have heq := Dr.token_eq l' hl hb
    have hok : Ru.okR (Dr.cp l') := Ru.decode_ok l' hl
    have KD := Lib.hid (fun w' => Dr.delim_any (Dr.cp l') hok w')
    have hnz : ((Dr.wd l' : Int) == 0) = false := beq_eq_false_iff_ne.2 (by omega)
    have HST := Lib.hid (fun w1 (hb1 : Below wr.heap.size wr w1) => Dr.setAt (hA.below hb1) hp hwl ((Dr.wd l' : Nat) : Int) rfl)
    have hsum : (p : Int) + (Dr.wd l' : Int) ≤ 9223372036854775807 ∧ 0 ≤ (Dr.wd l' : Int) := by omega
    have hdl : (l'.drop (Dr.wd l')).length < l'.length := Dr.drop_lt hl
    obtain ⟨hsum1,hsum2⟩ := hsum
    cases hd : Dr.delim (Dr.cp l') with
    | true =>
      rw [if_pos hd] at heq
      rw [hd] at KD
      have HF2 := Lib.hid (fun w' hb => HF.out w' hb heq)
      generalize Dr.cp l' = c at *
      generalize Dr.wd l' = n at *
      clear hAle hA hK hR hll hp HP hTr HTr HM hpq hpS HF hl hb heq hok HST hwp hwl hdl hd
      go_wp2_with fail
      refine KP.mono ?_
      rintro x w1 ⟨rfl,hb1⟩
      go_wp2_with fail
      refine (KD.out _).mono ?_
      rintro x w2 ⟨rfl,hb2⟩
      have hb12 : Below wr.heap.size wr w2 := hb1.trans (hb2.mono hb1.size)
      obtain ⟨d0,d1,d2⟩ := HC.out w2 hb12
      have HE := Lib.hid (HF2.out w2.drew (Below.drew hb12))
      clear HC HF2 KP hb1 hb2 hb12
      go_wp2_with fail
      go_region_held3 (fun w' => w'.cell? ⟨b,0,none⟩ = some (.string S) ∧ w'.cell? ⟨b,1,none⟩ = some (.int .i64 (p : Int)))
       (go_keep)
       (fail)
      go_wp2_with fail
      go_ret
      exact HE.out
    | false =>
      rw [if_neg (by rw [hd]; simp)] at heq
      rw [hd] at KD
      by_cases h92 : Dr.cp l' = 92
      · rw [if_pos h92] at heq;have h92b : (Dr.cp l' == 92) = true := beq_iff_eq.2 h92;have HKD := Lib.hid (fun (W : World) (hAt : Dr.At b S (l'.drop (Dr.wd l')) g W) (hTW : Dr.Tabs W) => Dr.digits_any b S g (l'.drop (Dr.wd l')) W hAt hs hTW);have HTW := Lib.hid (fun (w1 W : World) (hb1 : Below wr.heap.size wr w1) (hKW : Dr.Kept b w1 W) => Dr.tabs_kept hTr HNE.out.2.1 HNE.out.2.2 ((Dr.Kept.of_below hb1).trans hKW));cases hdg : Dr.digits (l'.drop (Dr.wd l')) with
        | none =>
          rw [hdg] at heq HKD;have HE0 := Lib.hid (fun (w1 W w3 : World) (hb1 : Below wr.heap.size wr w1) (hKW : Dr.Kept b w1 W) (hK3 : Dr.Kept b W w3) => show Dr.PostT b S g w l R Dr.dead w3 from by
            rw [← hR,heq]
            exact ⟨rfl,((hK.trans (Dr.Kept.of_below hb1)).trans hKW).trans hK3⟩)
          generalize Dr.cp l' = c at *;generalize Dr.wd l' = n at *;clear hAle hA hK hR hll hp HP hTr HTr HM hpq hpS HF hl hb heq hok hwp hwl hdl hd h92 hdg;go_wp2_with fail;refine KP.mono ?_;rintro x w1 ⟨rfl,hb1⟩;go_wp2_with fail;refine (KD.out _).mono ?_;rintro x w2 ⟨rfl,hb2⟩;have hb12 : Below wr.heap.size wr w2 := hb1.trans (hb2.mono hb1.size);obtain ⟨d0,d1,d2⟩ := HC.out w2 hb12;obtain ⟨W,hW,hfz,hAt,hKW,hz⟩ := HST.out w2 hb12;have KG := HKD.out W hAt (HTW.out w2 W hb12 hKW);have HE1 := Lib.hid (fun w3 hK3 => HE0.out w2 W w3 hb12 hKW hK3);clear HC HE0 KP hb1 hb2 hb12 HST hAt hKW hz HKD HTW;go_wp2_with fail;refine KG.mono ?_;rintro x w3 ⟨rfl,hK3⟩;have HE := Lib.hid (HE1.out w3 hK3);clear HE1 hK3;unfold Dr.dead at *;go_wp2_with fail;exact ⟨rfl,HE.out⟩
        | some r =>
          rw [hdg] at heq HKD;have hrl := Dr.digits_lt hdg;have HE0 := Lib.hid (fun (w1 W w3 : World) (hb1 : Below wr.heap.size wr w1) (hKW : Dr.Kept b w1 W) (hAt : Dr.At b S r g w3) (hK3 : Dr.Kept b W w3) => show (∃ l'',Dr.At b S l'' g w3 ∧ Dr.Kept b w w3 ∧ Dr.token l'' = R ∧ l''.length ≤ l.length) ∧ Dr.left b S w3 < Dr.left b S wr from
            ⟨⟨r,hAt,((hK.trans (Dr.Kept.of_below hb1)).trans hKW).trans hK3,by rw [← hR,heq],by omega⟩,by rw [hAt.left,HM.out]; omega⟩)
          generalize Dr.cp l' = c at *;generalize Dr.wd l' = n at *;clear hAle hA hK hR hll hp HP hTr HTr HM hpq hpS HF hl hb heq hok hwp hwl hdl hd h92 hdg hrl;go_wp2_with fail;refine KP.mono ?_;rintro x w1 ⟨rfl,hb1⟩;go_wp2_with fail;refine (KD.out _).mono ?_;rintro x w2 ⟨rfl,hb2⟩;have hb12 : Below wr.heap.size wr w2 := hb1.trans (hb2.mono hb1.size);obtain ⟨d0,d1,d2⟩ := HC.out w2 hb12;obtain ⟨W,hW,hfz,hAt,hKW,hz⟩ := HST.out w2 hb12;have KG := HKD.out W hAt (HTW.out w2 W hb12 hKW);have HE1 := Lib.hid (fun w3 hA3 hK3 => HE0.out w2 W w3 hb12 hKW hA3 hK3);clear HC HE0 KP hb1 hb2 hb12 HST hAt hKW hz HKD HTW;go_wp2_with fail;refine KG.mono ?_;rintro x w3 ⟨rfl,hA3,hK3⟩;have HE := Lib.hid (HE1.out w3 hA3 hK3);clear HE1 hK3 hA3;go_wp2_with fail;exact HE.out
      · rw [if_neg h92] at heq;have h92b : (Dr.cp l' == 92) = false := beq_eq_false_iff_ne.2 h92;have HE0 := Lib.hid (fun (w1 W : World) (hb1 : Below wr.heap.size wr w1) (hAt : Dr.At b S (l'.drop (Dr.wd l')) g W) (hKW : Dr.Kept b w1 W) => show (∃ l'',Dr.At b S l'' g W ∧ Dr.Kept b w W ∧ Dr.token l'' = R ∧ l''.length ≤ l.length) ∧ Dr.left b S W < Dr.left b S wr from
          ⟨⟨_,hAt,(hK.trans (Dr.Kept.of_below hb1)).trans hKW,by rw [← heq,hR],by omega⟩,by rw [hAt.left,HM.out]; exact hdl⟩)
        generalize Dr.cp l' = c at *;generalize Dr.wd l' = n at *;clear hAle hA hK hR hll hp HP hTr HTr HM hpq hpS HF hl hb heq hok hwp hwl hdl hd h92;go_wp2_with fail;refine KP.mono ?_;rintro x w1 ⟨rfl,hb1⟩;go_wp2_with fail;refine (KD.out _).mono ?_;rintro x w2 ⟨rfl,hb2⟩;have hb12 : Below wr.heap.size wr w2 := hb1.trans (hb2.mono hb1.size);obtain ⟨d0,d1,d2⟩ := HC.out w2 hb12;obtain ⟨W,hW,hfz,hAt,hKW,hz⟩ := HST.out w2 hb12;have HE := Lib.hid (HE0.out w2 W hb12 hAt hKW);clear HC HE0 KP hb1 hb2 hb12 HST hAt hKW hz;go_wp2_with fail;exact HE.out
theorem Dr.or16 (x y : Int) (h0 : 0 ≤ x) (h1 : x < 4294967296) (k0 : 0 ≤ y) (k1 : y < 16) : bits .or .i64 (x * 16) y = x * 16 + y :=
 bits_join .i64 63 (by decide) (fun n h0 h1 => by rw [IntKind.wrap_i64]; omega) 4 (x * 16) y (by omega) (by omega) (by omega) k0 k1 (by omega)
theorem Dr.tabV : ∀ n : Fin 256,Dr.hexB (UInt8.ofNat n.val) = true → (Lib.indexByte Dr.cX.data.toList (UInt8.ofNat n.val) ≤ 15 ∧ Lib.indexByte Dr.cX.data.toList (UInt8.ofNat n.val) = (Dr.hexV (UInt8.ofNat n.val) : Int)) ∨ (15 < Lib.indexByte Dr.cX.data.toList (UInt8.ofNat n.val) ∧ Lib.indexByte Dr.cX.data.toList (UInt8.ofNat n.val) - 6 = (Dr.hexV (UInt8.ofNat n.val) : Int) ∧ Lib.indexByte Dr.cX.data.toList (UInt8.ofNat n.val) ≤ 21) := by decide +kernel
theorem Dr.tabV2 : ∀ n : Fin 256,Dr.hexB (UInt8.ofNat n.val) = true → Dr.hexV (UInt8.ofNat n.val) < 16 := by decide +kernel
theorem Dr.ixV (x : UInt8) (h : Dr.hexB x = true) : (Lib.indexByte Dr.cX.data.toList x ≤ 15 ∧ Lib.indexByte Dr.cX.data.toList x = (Dr.hexV x : Int)) ∨ (15 < Lib.indexByte Dr.cX.data.toList x ∧ Lib.indexByte Dr.cX.data.toList x - 6 = (Dr.hexV x : Int) ∧ Lib.indexByte Dr.cX.data.toList x ≤ 21) := by
 have := Dr.tabV ⟨x.toNat,x.toNat_lt⟩;simp only [UInt8.ofNat_toNat] at this;exact this h
theorem Dr.hexV_lt (x : UInt8) (h : Dr.hexB x = true) : Dr.hexV x < 16 := by
 have := Dr.tabV2 ⟨x.toNat,x.toNat_lt⟩;simp only [UInt8.ofNat_toNat] at this;exact this h
def Dr.hexN (l : List UInt8) : Nat := l.foldl (fun n b => 16 * n + Dr.hexV b) 0
theorem Dr.hexN_snoc (l : List UInt8) (x : UInt8) : Dr.hexN (l ++ [x]) = 16 * Dr.hexN l + Dr.hexV x := by simp [Dr.hexN]
theorem Dr.hexN_lt : ∀ (n : Nat) (l : List UInt8),l.length = n → l.all Dr.hexB = true → Dr.hexN l < 16 ^ n
 | 0,l,h,_ => by rw [List.length_eq_zero_iff.1 h]; decide
 | n + 1,l,h,ha => by
   have hne : l ≠ [] := fun e => by rw [e] at h; cases h
   rw [← List.dropLast_concat_getLast hne] at ha ⊢;rw [List.all_append,Bool.and_eq_true] at ha;have h1 := Dr.hexN_lt n l.dropLast (by rw [List.length_dropLast]; omega) ha.1;have h2 := Dr.hexV_lt (l.getLast hne) (by simpa using ha.2);rw [Dr.hexN_snoc,Nat.pow_succ];omega
def Dr.PostC (w : World) (R : Option Int) (e : Ending) (w' : World) : Prop :=
 match R with
 | none => e = Dr.dead ∧ w = w'
 | some c => e = .returned (.int .i32 c) ∧ w = w'
theorem Dr.hex_some {l : List UInt8} (h1 : 1 ≤ l.length) (h2 : l.length ≤ 8) (h3 : l.all Dr.hexB = true) : Dr.hex l = if Tr.isChar ((Dr.hexN l : Nat) : Int) = true then some ((Dr.hexN l : Nat) : Int) else none := by
 unfold Dr.hex;rw [decide_eq_true h1,decide_eq_true h2,h3];rfl
theorem Dr.hex_none {l : List UInt8} (h : l.length < 1 ∨ 8 < l.length ∨ l.all Dr.hexB = false) : Dr.hex l = none := by
 unfold Dr.hex;rw [if_neg];intro e;simp only [Bool.and_eq_true,decide_eq_true_eq] at e;obtain ⟨⟨⟨e1,e2⟩,e3⟩,e4⟩ := e;rcases h with h | h | h
 · omega
 · omega
 · rw [h] at e3; cases e3
theorem Dr.hex_any (p : Value) (s : ByteArray) (w : World) (hs : s.size ≤ 9223372036854775807) :
 Calls Tryz.prog 73 #[p,.string s] w fun e w' => Dr.PostC w (Dr.hex s.data.toList) e w' := by
 have hlen : s.data.toList.length = s.size := by simp
 by_cases h1 : s.size < 1
 · have HE := Lib.hid (show Dr.PostC w (Dr.hex s.data.toList) Dr.dead w from by rw [Dr.hex_none (.inl (by omega))]; exact ⟨rfl,rfl⟩);have h1i : (s.size : Int) < 1 := by omega
   clear hlen h1;go_enter Tryz.func73,Tryz.ntmps73;go_wp2_with fail;refine (Dr.stop_any _ _).mono ?_;rintro x w3 ⟨rfl,hw3⟩;subst hw3;unfold Dr.dead at *;go_wp2_with fail;exact ⟨rfl,HE.out⟩
 by_cases h2 : 8 < s.size
 · have HE := Lib.hid (show Dr.PostC w (Dr.hex s.data.toList) Dr.dead w from by rw [Dr.hex_none (.inr (.inl (by omega)))]; exact ⟨rfl,rfl⟩);have h1i : 1 ≤ (s.size : Int) := by omega
   have h2i : 8 < (s.size : Int) := by omega
   clear hlen h1 h2;go_enter Tryz.func73,Tryz.ntmps73;go_wp2_with fail;refine (Dr.stop_any _ _).mono ?_;rintro x w3 ⟨rfl,hw3⟩;subst hw3;unfold Dr.dead at *;go_wp2_with fail;exact ⟨rfl,HE.out⟩
 obtain ⟨R,hR⟩ : ∃ z,Dr.hex s.data.toList = z := ⟨_,rfl⟩
 rw [hR]
 have HR := Lib.hid hR
 have HLEN := Lib.hid hlen
 have h1i : 1 ≤ (s.size : Int) := by omega
 have h2i : (s.size : Int) ≤ 8 := by omega
 have h1n : 1 ≤ s.size := by omega
 have h2n : s.size ≤ 8 := by omega
 clear hlen h1 h2 hR
 go_enter Tryz.func73,Tryz.ntmps73
 go_wp2_with fail
 go_loop [5,20] (fun n i => ∃ k : Nat,k ≤ s.size ∧ i = .int .i64 (k : Int) ∧ n = .int .i64 ((Dr.hexN (s.data.toList.take k) : Nat) : Int) ∧ (s.data.toList.take k).all Dr.hexB = true) (fun _ i => s.size - (intOf i).toNat)
 case atStart => exact ⟨0,Nat.zero_le _,rfl,rfl,rfl⟩
 case round =>
  obtain ⟨k,hk,rfl,rfl,ha⟩ := hrel
  have hlt8 : Dr.hexN (s.data.toList.take k) < 4294967296 := by
   have h := Dr.hexN_lt _ (s.data.toList.take k) rfl ha;have h2 : (s.data.toList.take k).length ≤ 8 := by rw [List.length_take]; omega
   have h3 : 16 ^ (s.data.toList.take k).length ≤ 16 ^ 8 := Nat.pow_le_pow_right (by decide) h2;have h4 : (16 : Nat) ^ 8 = 4294967296 := by decide
   omega
  by_cases hlt : k < s.size
  · have htake : s.data.toList.take (k + 1) = s.data.toList.take k ++ [s[k]'hlt] := by
     rw [List.take_succ_eq_append_getElem (by simpa using hlt)]; rfl
    have KI : ∀ w',Calls Tryz.prog 95 #[.string Dr.cX,.int .u8 ((s[k]'hlt).toNat : Int)] w' fun e w'' => e = .returned (.int .i64 (Lib.indexByte Dr.cX.data.toList (s[k]'hlt))) ∧ w' = w'' := fun w' => by
     refine (Tryz.strings_IndexByte Dr.cX ((s[k]'hlt).toNat : Int) w').mono ?_;rintro e w'' ⟨rfl,rfl⟩;simp
    have hk1 := Dr.ixX (s[k]'hlt);have hkV := Dr.ixV (s[k]'hlt);have hV16 := Dr.hexV_lt (s[k]'hlt);have hN1 := Dr.hexN_snoc (s.data.toList.take k) (s[k]'hlt);rw [← htake] at hN1;have hall1 : (s.data.toList.take (k + 1)).all Dr.hexB = Dr.hexB (s[k]'hlt) := by rw [htake,List.all_append,ha]; simp
    have hall2 : Dr.hexB (s[k]'hlt) = false → s.data.toList.all Dr.hexB = false := fun e => by
     rw [e] at hall1;rw [← List.take_append_drop (k + 1) s.data.toList,List.all_append,hall1];rfl
    obtain ⟨j,hj⟩ : ∃ z,Lib.indexByte Dr.cX.data.toList (s[k]'hlt) = z := ⟨_,rfl⟩;rw [hj] at KI hk1 hkV;unfold Dr.cX at KI;have KI := Lib.hid KI;obtain ⟨N,hN⟩ : ∃ z,Dr.hexN (s.data.toList.take k) = z := ⟨_,rfl⟩;rw [hN] at hlt8 hN1 ⊢;have HN1 := Lib.hid hN1;have hltI : (k : Int) < (s.size : Int) := by omega
    have hk0 : 0 ≤ (k : Int) := by omega
    clear hj hN hN1 htake ha;cases hX : Dr.hexB (s[k]'hlt) with
    | false =>
      have hk2 : decide (0 ≤ j) = false := by rw [hk1,hX]
      have hk3 : j < 0 := by have := of_decide_eq_false hk2; omega
      have HE := Lib.hid (show Dr.PostC w R Dr.dead w from by rw [← HR.out,Dr.hex_none (.inr (.inr (hall2 hX)))]; exact ⟨rfl,rfl⟩);clear hk1 hkV hV16 hall1 hall2 hX HN1 hk2;go_wp2_with (first | (go_at_call 95; refine (KI.out _).mono ?_; rintro x w2 ⟨rfl,rfl⟩));refine (Dr.stop_any _ _).mono ?_;rintro x w3 ⟨rfl,hw3⟩;subst hw3;unfold Dr.dead at *;go_wp2_with fail;exact ⟨rfl,HE.out⟩
    | true =>
      have hk3 : 0 ≤ j := of_decide_eq_true (by rw [hk1,hX]);have hV := hV16 hX;have HA1 := Lib.hid (hall1.trans hX);rcases hkV hX with ⟨q1,q2⟩ | ⟨q1,q2,q3⟩
      · have HQ := Lib.hid q2;have hor : bits .or .i64 ((N : Int) * 16) j = (N : Int) * 16 + j := Dr.or16 _ _ (by omega) (by omega) hk3 (by omega);clear hk1 hkV hV16 hall1 hall2 hX q2;go_wp2_with (first | (go_at_call 95; refine (KI.out _).mono ?_; rintro x w2 ⟨rfl,rfl⟩));exact ⟨⟨k + 1,hlt,rfl,congrArg (Value.int .i64) (by rw [HN1.out]; have := HQ.out; omega),HA1.out⟩,by simp [intOf]; omega⟩
      · have HQ := Lib.hid q2;have hor : bits .or .i64 ((N : Int) * 16) (j - 6) = (N : Int) * 16 + (j - 6) := Dr.or16 _ _ (by omega) (by omega) (by omega) (by omega);clear hk1 hkV hV16 hall1 hall2 hX q2;go_wp2_with (first | (go_at_call 95; refine (KI.out _).mono ?_; rintro x w2 ⟨rfl,rfl⟩));exact ⟨⟨k + 1,hlt,rfl,congrArg (Value.int .i64) (by rw [HN1.out]; have := HQ.out; omega),HA1.out⟩,by simp [intOf]; omega⟩
  · have hke : k = s.size := by omega
    have htk : s.data.toList.take k = s.data.toList := List.take_of_length_le (by rw [HLEN.out]; omega);rw [htk] at ha hlt8 ⊢;have hx := Dr.hex_some (by rw [HLEN.out]; exact h1n) (by rw [HLEN.out]; exact h2n) ha;rw [HR.out] at hx;obtain ⟨N,hN⟩ : ∃ z,Dr.hexN s.data.toList = z := ⟨_,rfl⟩;rw [hN] at hx hlt8 ⊢;have KC := fun w' => Tr.IsChar_any (N : Int) w';have hnk : ¬ k < s.size := hlt;have hnk2 : ¬ ((k : Int) < (s.size : Int)) := by omega
    cases hc : Tr.isChar (N : Int) with
    | true =>
      rw [if_pos hc] at hx;rw [hc] at KC;have hb : (N : Int) ≤ 1114111 := by
       simp only [Tr.isChar,Bool.or_eq_true,Bool.and_eq_true,decide_eq_true_eq] at hc;omega
      have hb0 : 0 ≤ (N : Int) := by omega
      have HE := Lib.hid (show Dr.PostC w R (.returned (.int .i32 (N : Int))) w from by rw [hx]; exact ⟨rfl,rfl⟩);clear hx htk ha hN hc hke;go_wp2_with (first | (go_at_call 49; refine (KC _).mono ?_; rintro x w2 ⟨rfl,rfl⟩));go_ret;exact HE.out
    | false =>
      rw [if_neg (by rw [hc]; simp)] at hx;rw [hc] at KC;have HE := Lib.hid (show Dr.PostC w R Dr.dead w from by rw [hx]; exact ⟨rfl,rfl⟩);clear hx htk ha hN hc hke;go_wp2_with (first | (go_at_call 49; refine (KC _).mono ?_; rintro x w2 ⟨rfl,rfl⟩));refine (Dr.stop_any _ _).mono ?_;rintro x w3 ⟨rfl,hw3⟩;subst hw3;unfold Dr.dead at *;go_wp2_with fail;exact ⟨rfl,HE.out⟩
end Go.Proofs.YteklhapffplohaaGreatDoor
