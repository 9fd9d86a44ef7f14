/-
  nat.Over, nat.Divisor of numbers, where the divisor is one word. nat.Times of numbers. nat.Less of numbers.
-/
import Derived.Deep.LoopGhost
import Derived.Laws.Bits64
import Derived.Deep.RegionHeld3
import Derived.Test.YteklhapffplohaaGreatDoorProg
import Derived.WalkKit
import Derived.WalkSpells
import Derived.WalkLawsBesides
import Derived.Handy
import Derived.Lib.Hide
import Derived.Shelf.Strings.Builder1
import Derived.Outline
import Derived.Lib.OthersKept
import Derived.Lib.RuneCount
import Derived.Test.YteklhapffplohaaGreatDoorOc
import Derived.Test.YteklhapffplohaaGreatDoorOb
import Derived.Test.YteklhapffplohaaGreatDoorOa
import Derived.Test.YteklhapffplohaaGreatDoorShelfO
set_option maxHeartbeats 4000000
set_option maxRecDepth 1000000
set_option linter.unusedVariables false
set_option linter.unusedSimpArgs false
namespace Go.Proofs.YteklhapffplohaaGreatDoor
open Go.RowKit
def Nt.Ok1 (m n : Nat) : Prop := n < 4294967296 ∧ (Nt.dig m).length ≤ 400000
def Nt.Ok (m n : Nat) : Prop := (Nt.dig n).length ≤ 400000 ∧ (Nt.dig m).length ≤ 400000
theorem Nt.dig_len_mono {m n : Nat} (h : m ≤ n) : (Nt.dig m).length ≤ (Nt.dig n).length := by
 rcases Nat.lt_or_ge (Nt.dig n).length (Nt.dig m).length with h1 | h1
 · have := Nt.dig_len_lt h1;omega
 · exact h1
theorem Nt.dig_len_one {n : Nat} (h0 : 0 < n) (h : n < 4294967296) : (Nt.dig n).length = 1 := by rw [Nt.dig_small h0 h]; rfl
theorem Nt.dig_len_le {n : Nat} (h : n < 4294967296) : (Nt.dig n).length ≤ 1 := by
 rcases Nat.eq_zero_or_pos n with h0 | h0
 · subst h0; rw [Nt.dig_zero]; exact Nat.zero_le _
 · rw [Nt.dig_len_one h0 h]; exact Nat.le_refl _
theorem Nt.Ok.step {m n : Nat} (h : Nt.Ok m n) (hn : 0 < n) : Nt.Ok n (m % n) :=
 ⟨Nat.le_trans (Nt.dig_len_mono (Nat.le_of_lt (Nat.mod_lt _ hn))) h.1,h.1⟩
theorem Nt.Over_short (m n : Nat) (v v2 : Value) (w : World) (h : Nt.N w v m) (h2 : Nt.N w v2 n) (hn : 0 < n) (hok : Nt.Ok1 m n) : Calls Tryz.prog 128 #[v,v2] w fun e w' => ∃ q r,e = .returned (.tuple #[q,r]) ∧ Nt.N w' q (m / n) ∧ Nt.N w' r (m % n) ∧ Below w.heap.size w w' := by
 have hl1 := hok.2;have hl2 := Nt.dig_len_one hn hok.1;have KO := Nt.Order_any m n v v2 w h h2 (by omega) (by omega);obtain ⟨ad,cap,rfl⟩ := Nt.In.slice h;obtain ⟨ad2,cap2,rfl⟩ := Nt.In.slice h2;have H := Lib.hid h;have H2 := Lib.hid h2;have hn32 := hok.1;clear h h2 hok;by_cases hlt : m < n
 · rw [Nt.cmp_lt hlt] at KO;have hq : m / n = 0 := Nat.div_eq_of_lt hlt;have hr : m % n = m := Nat.mod_eq_of_lt hlt;rw [hq,hr];have KC := fun w h => Nt.Clone_any (Nt.dig m) (.slice ad (Nt.dig m).length cap) w h (by omega);clear hq hr;generalize (Nt.dig m).length = l at *;generalize (Nt.dig n).length = l2 at *;clear hlt hn hn32 hl2;go_enter Tryz.func128,Tryz.ntmps128;go_wp2_with fail;refine KO.mono ?_;rintro x w1 ⟨rfl,hb1⟩;have HB1 := Lib.hid hb1;clear hb1;go_wp2_with fail;refine (KC _ (H.out.below HB1.out (Nat.le_refl _))).mono ?_;rintro x w2 ⟨v2,rfl,hi2,hb2⟩;have HI2 := Lib.hid hi2;have HB2 := Lib.hid (HB1.out.trans (hb2.mono HB1.out.size));clear hi2 hb2;go_wp2_with fail;go_ret2;exact ⟨_,_,rfl,Nt.N.zero _,HI2.out,HB2.out⟩
 · have hc : ¬ Nt.cmp m n < 0 := fun h => hlt (Nt.cmp_neg.1 h);have hcd : decide (Nt.cmp m n < 0) = false := decide_eq_false hc;have hdn := Nt.dig_small hn hn32;obtain ⟨b2,o2,rfl,hl22,hcap2,hbl2,hcell2⟩ := Nt.In.at H2.out (by omega);have c2 := hcell2 0 (by omega);rw [hdn] at c2;simp only [Nat.add_zero,List.getD_cons_zero] at c2;rw [hl2] at *;have KS := fun w h => Nt.short_ws (Nt.dig m) n (.slice ad (Nt.dig m).length cap) w h (Nt.dig_wd m) (by omega) hn hn32;rw [Nt.val_dig] at KS;have hml : m % n < 4294967296 := Nat.lt_trans (Nat.mod_lt _ hn) hn32;have hnw : Nt.Wd [m % n] := fun x hx => by simp only [List.mem_singleton] at hx; omega
   have KN := fun v w h => Nt.norm_any [m % n] v w h hnw (by simp);rw [show Nt.val [m % n] = m % n by simp [Nt.val]] at KN;have HA : Hid (∀ w : World,Nt.In (w.alloc (.cells #[.int .u32 (m % n : Nat)] 57)) (.slice (some ⟨w.heap.size,0,none⟩) 1 1) [m % n] ∧ Below w.heap.size w (w.alloc (.cells #[.int .u32 (m % n : Nat)] 57))) := Lib.hid (fun w => by
     refine ⟨?_,(Below.refl _ _).alloc (Nat.le_refl _) _⟩;have e : (#[.int .u32 (m % n : Nat)] : Array Value) = Nt.row [m % n] := by simp [Nt.row]
     rw [e]
     exact Nt.In.of_row (heap_alloc_new w _))
   generalize m % n = r at *;generalize (Nt.dig m).length = l at *;clear hcell2 hdn hc hlt hl22 hnw;generalize Nt.cmp m n = cc at *;go_enter Tryz.func128,Tryz.ntmps128;go_wp2_with fail;refine KO.mono ?_;rintro x w1 ⟨rfl,hb1⟩;have c3 := (hb1.cell (p := ⟨b2,o2,none⟩) hbl2).trans c2;have HB1 := Lib.hid hb1;clear hb1 c2;go_wp2_with fail;refine (KS _ (H.out.below HB1.out (Nat.le_refl _))).mono ?_;rintro x w2 ⟨vq,rfl,hq2,hb2⟩;have HQ2 := Lib.hid hq2;have HB2 := Lib.hid (HB1.out.trans (hb2.mono HB1.out.size));clear hq2 hb2 c3;go_wp2_with fail;refine (KN _ _ (HA.out _).1).mono ?_;rintro x w3 ⟨vr,rfl,hr3,hb3⟩;have HR3 := Lib.hid hr3;have hb3 := (HA.out w2).2.trans (hb3.mono (HA.out w2).2.size);have HQ3 := Lib.hid (HQ2.out.below hb3 (Nat.le_refl _));have HB3 := Lib.hid (HB2.out.trans (hb3.mono HB2.out.size));clear hr3 hb3;go_wp2_with fail;go_ret2;exact ⟨_,_,rfl,HQ3.out,HR3.out,HB3.out⟩
theorem Nt.Over_less (m n : Nat) (v v2 : Value) (w : World) (h : Nt.N w v m) (h2 : Nt.N w v2 n) (hlt : m < n) (hok : Nt.Ok m n) : Calls Tryz.prog 128 #[v,v2] w fun e w' => ∃ q r,e = .returned (.tuple #[q,r]) ∧ Nt.N w' q (m / n) ∧ Nt.N w' r (m % n) ∧ Below w.heap.size w w' := by
 have hl1 := hok.2;have hl2 := hok.1;have KO := Nt.Order_any m n v v2 w h h2 (by omega) (by omega);obtain ⟨ad,cap,rfl⟩ := Nt.In.slice h;obtain ⟨ad2,cap2,rfl⟩ := Nt.In.slice h2;have H := Lib.hid h;clear h h2 hok;rw [Nt.cmp_lt hlt] at KO;have hq : m / n = 0 := Nat.div_eq_of_lt hlt;have hr : m % n = m := Nat.mod_eq_of_lt hlt;rw [hq,hr];have KC := fun w h => Nt.Clone_any (Nt.dig m) (.slice ad (Nt.dig m).length cap) w h (by omega);clear hq hr;generalize (Nt.dig m).length = l at *;generalize (Nt.dig n).length = l2 at *;clear hlt hl2;go_enter Tryz.func128,Tryz.ntmps128;go_wp2_with fail;refine KO.mono ?_;rintro x w1 ⟨rfl,hb1⟩;have HB1 := Lib.hid hb1;clear hb1;go_wp2_with fail;refine (KC _ (H.out.below HB1.out (Nat.le_refl _))).mono ?_;rintro x w2 ⟨v2,rfl,hi2,hb2⟩;have HI2 := Lib.hid hi2;have HB2 := Lib.hid (HB1.out.trans (hb2.mono HB1.out.size));clear hi2 hb2;go_wp2_with fail;go_ret2;exact ⟨_,_,rfl,Nt.N.zero _,HI2.out,HB2.out⟩
theorem Nt.Over_any (m n : Nat) (v v2 : Value) (w : World) (h : Nt.N w v m) (h2 : Nt.N w v2 n) (hn : 0 < n) (hok : Nt.Ok m n) : Calls Tryz.prog 128 #[v,v2] w fun e w' => ∃ q r,e = .returned (.tuple #[q,r]) ∧ Nt.N w' q (m / n) ∧ Nt.N w' r (m % n) ∧ Below w.heap.size w w' := by
 rcases Nat.lt_or_ge n 4294967296 with h1 | h1
 · exact Nt.Over_short m n v v2 w h h2 hn ⟨h1,hok.2⟩
 · rcases Nat.lt_or_ge m n with h3 | h3
   · exact Nt.Over_less m n v v2 w h h2 h3 hok
   · exact Nt.Over_long m n v v2 w h h2 h1 h3 hok.2
theorem Nt.Divisor_any (m n : Nat) (v v2 : Value) (w : World) (h : Nt.N w v m) (h2 : Nt.N w v2 n) (hok : Nt.Ok m n) : Calls Tryz.prog 105 #[v,v2] w fun e w' => ∃ v',e = .returned v' ∧ Nt.N w' v' (Nat.gcd m n) ∧ Below w.heap.size w w' := by
 obtain ⟨ad,cap,rfl⟩ := Nt.In.slice h;obtain ⟨ad2,cap2,rfl⟩ := Nt.In.slice h2;have H := Lib.hid h;have H2 := Lib.hid h2;have HOK := Lib.hid hok;clear h h2 hok;go_enter Tryz.func105,Tryz.ntmps105;go_wp2_with fail;go_loopg [0,1] n (fun g va vb wr => ∃ a : Nat,Nt.N wr va a ∧ Nt.N wr vb g ∧ Nt.Ok a g ∧ Nat.gcd a g = Nat.gcd m n ∧ Below w.heap.size w wr);case atStart => exact ⟨m,H.out,H2.out,HOK.out,rfl,Below.refl _ _⟩
 case round =>
  obtain ⟨a,ha,hb,hok,hg,hbw⟩ := hrel;obtain ⟨adA,capA,rfl⟩ := Nt.In.slice ha;obtain ⟨adB,capB,rfl⟩ := Nt.In.slice hb;obtain ⟨wo,hwo⟩ : ∃ z,z = wr := ⟨_,rfl⟩;subst hwo;have HA := Lib.hid ha;have HB := Lib.hid hb;have HK := Lib.hid hok;have HG := Lib.hid hg;have HBW := Lib.hid hbw;clear ha hb hok hg hbw H H2 HOK;rcases Nat.eq_zero_or_pos gk with h0 | h0
  · subst h0;have hl0 : ((Nt.dig 0).length : Int) = 0 := by rw [Nt.dig_zero]; rfl
    have KC := fun w h => Nt.Clone_any (Nt.dig a) (.slice adA (Nt.dig a).length capA) w h (by have := HK.out.2; omega);have hga : a = Nat.gcd m n := by have := HG.out; rwa [Nat.gcd_zero_right] at this
    have HGA := Lib.hid hga;clear hga;generalize (Nt.dig a).length = l at *;go_wp2_with fail;refine (KC _ HA.out).mono ?_;rintro x w2 ⟨v2,rfl,hi2,hb2⟩;have HI2 := Lib.hid hi2;have HB2 := Lib.hid (HBW.out.trans (hb2.mono HBW.out.size));clear hi2 hb2;go_wp2_with fail;go_ret;exact ⟨_,rfl,HGA.out ▸ HI2.out,HB2.out⟩
  · have hl1 := Nt.dig_len_pos.2 h0;have KO := Nt.Over_any a gk _ _ wo HA.out HB.out h0 HK.out;have hlp : ((Nt.dig gk).length : Int) > 0 := by omega
    have HL1 := Lib.hid hl1;clear hl1;go_wp2_with fail;refine KO.mono ?_;rintro x w2 ⟨q,r,rfl,hq2,hr2,hb2⟩;have HR2 := Lib.hid hr2;have HB2 := Lib.hid (HB.out.below hb2 (Nat.le_refl _));have HBB := Lib.hid (HBW.out.trans (hb2.mono HBW.out.size));clear hq2 hr2 hb2;go_wp2_with fail;go_roundg (a % gk);case measure => exact Nat.mod_lt _ h0
    case rel => exact ⟨gk,HB2.out,HR2.out,HK.out.step h0,by rw [Nt.gcd_step,HG.out],HBB.out⟩
end Go.Proofs.YteklhapffplohaaGreatDoor
namespace Go.Proofs.YteklhapffplohaaGreatDoor
open Go.RowKit
end Go.Proofs.YteklhapffplohaaGreatDoor
namespace Go.Proofs.YteklhapffplohaaGreatDoor
open Go.RowKit
theorem Nt.less_end {a b ws : List Nat} {n c : Nat} (hw : Nt.Wd ws) (hl : ws.length = n) (h : Nt.val ws + Nt.val b = Nt.val a + 4294967296 ^ n * c) (hab : Nt.val b ≤ Nt.val a) : Nt.val ws = Nt.val a - Nt.val b := by
 have h1 := Nt.val_lt ws hw;rw [hl] at h1;rcases Nat.eq_zero_or_pos c with h0 | h0
 · subst h0; omega
 · have : 4294967296 ^ n * 1 ≤ 4294967296 ^ n * c := Nat.mul_le_mul_left _ h0;omega
theorem Rt.cell_of {w : World} {b : Nat} {C : Array Value} {t : TypeId} (h : w.heap[b]? = some (.cells C t (0,0))) (k : Nat) : w.cell? ⟨b,k,none⟩ = C[k]? := by
 simp [World.cell?,h]
theorem Rt.setCells {w : World} {b : Nat} {C : Array Value} {t : TypeId} (h : w.heap[b]? = some (.cells C t (0,0))) (k : Nat) (u : Value) : (w.setCell ⟨b,k,none⟩ u).heap[b]? = some (.cells (C.set! k u) t (0,0)) := by
 obtain ⟨hlt,hk⟩ := Array.getElem?_eq_some_iff.1 h;show (w.heap.modify b _)[b]? = _;rw [Array.getElem?_eq_getElem (by rw [Array.size_modify]; exact hlt),Array.getElem_modify_self,hk];rfl
theorem Rt.frozen_of {w : World} {b : Nat} {C : Array Value} {t : TypeId} (h : w.heap[b]? = some (.cells C t (0,0))) (k : Nat) : w.frozen? ⟨b,k,none⟩ = false := by
 simp [World.frozen?,h]
theorem Rt.put3 {w : World} {b : Nat} {v0 v1 v2 : Value} {t : TypeId} (h : w.heap[b]? = some (.cells #[v0,v1,v2] t (0,0))) (u0 u1 u2 : Value) :
 ∃ W1 W2 W3 : World,
 (w.cell? ⟨b,0,none⟩ = some v0 ∧ w.frozen? ⟨b,0,none⟩ = false ∧ w.setCell ⟨b,0,none⟩ u0 = W1) ∧
 (W1.cell? ⟨b,1,none⟩ = some v1 ∧ W1.frozen? ⟨b,1,none⟩ = false ∧ W1.setCell ⟨b,1,none⟩ u1 = W2) ∧
 (W2.cell? ⟨b,2,none⟩ = some v2 ∧ W2.frozen? ⟨b,2,none⟩ = false ∧ W2.setCell ⟨b,2,none⟩ u2 = W3) ∧
 (W3.cell? ⟨b,0,none⟩ = some u0 ∧ W3.cell? ⟨b,1,none⟩ = some u1 ∧ W3.cell? ⟨b,2,none⟩ = some u2) ∧
 Hid (W3.heap[b]? = some (.cells #[u0,u1,u2] t (0,0)) ∧ W3.heap.size = w.heap.size ∧ (∀ q,q ≠ b → W3.heap[q]? = w.heap[q]?) ∧ ∀ (B : Nat) (w0 : World),Below B w0 w → B ≤ b → Below B w0 W3) := by
 have h1 : (w.setCell ⟨b,0,none⟩ u0).heap[b]? = some (.cells #[u0,v1,v2] t (0,0)) := Rt.setCells h 0 u0
 have h2 : ((w.setCell ⟨b,0,none⟩ u0).setCell ⟨b,1,none⟩ u1).heap[b]? = some (.cells #[u0,u1,v2] t (0,0)) := Rt.setCells h1 1 u1
 have h3 : (((w.setCell ⟨b,0,none⟩ u0).setCell ⟨b,1,none⟩ u1).setCell ⟨b,2,none⟩ u2).heap[b]? = some (.cells #[u0,u1,u2] t (0,0)) := Rt.setCells h2 2 u2
 refine ⟨_,_,_,⟨Rt.cell_of h 0,Rt.frozen_of h 0,rfl⟩,⟨Rt.cell_of h1 1,Rt.frozen_of h1 1,rfl⟩,⟨Rt.cell_of h2 2,Rt.frozen_of h2 2,rfl⟩,⟨Rt.cell_of h3 0,Rt.cell_of h3 1,Rt.cell_of h3 2⟩,Lib.hid ⟨h3,by simp,fun q hq => ?_,fun B w0 hb hB => ?_⟩⟩
 · rw [Below.heap_setCell _ ⟨b,2,none⟩ _ q hq,Below.heap_setCell _ ⟨b,1,none⟩ _ q hq,Below.heap_setCell _ ⟨b,0,none⟩ _ q hq]
 · exact ((hb.setCell (p := ⟨b,0,none⟩) hB _).setCell (p := ⟨b,1,none⟩) hB _).setCell (p := ⟨b,2,none⟩) hB _
theorem Nt.In.othr {w w' : World} {v : Value} {ws : List Nat} {r : Nat} {C : Array Value} {t : TypeId} (h : Nt.In w v ws) (hr : w.heap[r]? = some (.cells C t (0,0))) (hC : ∀ (k : Nat) (n : Int),C[k]? ≠ some (.int .u32 n)) (hk : ∀ q,q ≠ r → w'.heap[q]? = w.heap[q]?) (hs : w'.heap.size = w.heap.size) : Nt.In w' v ws := by
 rcases h with h | h | ⟨h0,b,off,cap,hv,hc,hl,hcell⟩
 · exact .inl h
 · exact .inr (.inl h)
 · have hb : b ≠ r := by
    rintro rfl;have := hcell 0 h0;rw [Rt.cell_of hr] at this;exact hC _ _ this
   exact .inr (.inr ⟨h0,b,off,cap,hv,hc,by omega,fun j hj => (World.cell?_of_block (a := ⟨b,off + j,none⟩) (hk b hb)).trans (hcell j hj)⟩)
def Rt.R (w : World) (v : Value) (s : Bool) (t b : Nat) : Prop := ∃ tv bv,v = .agg #[.bool s,tv,bv] ∧ Nt.N w tv t ∧ Nt.N w bv b
theorem Rt.R.below {w w' : World} {v : Value} {s : Bool} {t b B : Nat} (h : Rt.R w v s t b) (hb : Below B w w') (hB : w.heap.size ≤ B) : Rt.R w' v s t b := by
 obtain ⟨tv,bv,hv,h1,h2⟩ := h;exact ⟨tv,bv,hv,h1.below hb hB,h2.below hb hB⟩
theorem Rt.noWords {s : Bool} {a1 a2 : Option Addr} {n1 n2 c1 c2 : Nat} : ∀ (k : Nat) (n : Int),(#[Value.bool s,.slice a1 n1 c1,.slice a2 n2 c2] : Array Value)[k]? ≠ some (.int .u32 n) := by
 intro k n h;have hm := Array.mem_of_getElem? h;simp at hm
def Rt.ratS (neg : Bool) (t b : Nat) : Bool × Nat × Nat := (neg && decide (0 < t / Nat.gcd t b),t / Nat.gcd t b,b / Nat.gcd t b)
theorem Rt.ok_gcd {t b : Nat} (h : Nt.Ok t b) (hb : 0 < b) : 0 < Nat.gcd t b ∧ Nt.Ok t (Nat.gcd t b) ∧ Nt.Ok b (Nat.gcd t b) := by
 have h1 : Nat.gcd t b ≤ b := Nat.gcd_le_right _ hb;exact ⟨Nat.gcd_pos_of_pos_right _ hb,⟨Nat.le_trans (Nt.dig_len_mono h1) h.1,h.2⟩,⟨Nat.le_trans (Nt.dig_len_mono h1) h.1,h.1⟩⟩
theorem Rt.rat_any (neg : Bool) (t b : Nat) (tv bv : Value) (w : World) (h : Nt.N w tv t) (h2 : Nt.N w bv b) (hb : 0 < b) (hok : Nt.Ok t b) : Calls Tryz.prog 141 #[.bool neg,tv,bv] w fun e w' => ∃ v',e = .returned v' ∧ Rt.R w' v' (Rt.ratS neg t b).1 (Rt.ratS neg t b).2.1 (Rt.ratS neg t b).2.2 ∧ Below w.heap.size w w' := by
 obtain ⟨hg0,hg1,hg2⟩ := Rt.ok_gcd hok hb;have hdef : Rt.ratS neg t b = (neg && decide (0 < t / Nat.gcd t b),t / Nat.gcd t b,b / Nat.gcd t b) := rfl;rw [hdef];have KD := fun w h h2 => Nt.Divisor_any t b tv bv w h h2 hok;generalize Nat.gcd t b = g at *;have KO1 := fun v v2 w h h2 => Nt.Over_any t g v v2 w h h2 hg0 hg1;have KO2 := fun v v2 w h h2 => Nt.Over_any b g v v2 w h h2 hg0 hg2;obtain ⟨ad,cap,rfl⟩ := Nt.In.slice h;obtain ⟨ad2,cap2,rfl⟩ := Nt.In.slice h2;have hpos : (0 < t / g) ↔ 0 < (Nt.dig (t / g)).length := Nt.dig_len_pos.symm;have H := Lib.hid h;have H2 := Lib.hid h2;obtain ⟨W2,hW2⟩ : ∃ z,w.alloc (.cells #[.bool false,.slice none 0 0,.slice none 0 0] 24) = z := ⟨_,rfl⟩;have q0 : W2.heap[w.heap.size]? = some (.cells #[.bool false,.slice none 0 0,.slice none 0 0] 24 (0,0)) := hW2 ▸ heap_alloc_new w _;have hb0 : Below w.heap.size w W2 := hW2 ▸ (Below.refl _ _).alloc (Nat.le_refl _) _;have hsz : w.heap.size < W2.heap.size := (Array.getElem?_eq_some_iff.1 q0).1;have HIN := Lib.hid (fun (w' : World) (hb : Below W2.heap.size W2 w') => And.intro (Nt.N.below (Nt.N.below H.out hb0 (Nat.le_refl _)) hb (Nat.le_refl _)) (Nt.N.below (Nt.N.below H2.out hb0 (Nat.le_refl _)) hb (Nat.le_refl _)));have HR := Lib.hid (fun (w' : World) (hb : Below W2.heap.size W2 w') => (hb.block w.heap.size hsz).trans q0);have HB := Lib.hid (fun (w' : World) (hb : Below W2.heap.size W2 w') => hb0.trans (hb.mono (Nat.le_of_lt hsz)))
 clear h h2 q0 hb0 hg1 hg2 hok hdef;obtain ⟨dd,hdd⟩ : ∃ dd,(neg && decide (0 < t / g)) = dd := ⟨_,rfl⟩;rw [hdd];have HDD := Lib.hid hdd;clear hdd;go_enter Tryz.func141,Tryz.ntmps141;go_wp2_with fail;refine (KD _ (HIN.out _ (Below.refl _ _)).1 (HIN.out _ (Below.refl _ _)).2).mono ?_;rintro x w1 ⟨vg,rfl,hvg,hb1⟩;have HG := Lib.hid hvg;have HB1 := Lib.hid hb1;clear hvg hb1;go_wp2_with fail;refine (KO1 _ _ _ (HIN.out _ HB1.out).1 HG.out).mono ?_;rintro x w3 ⟨q,r,rfl,hq,hr,hb3⟩;obtain ⟨adq,capq,rfl⟩ := Nt.In.slice hq;have HQ := Lib.hid hq;have HG := Lib.hid (HG.out.below hb3 (Nat.le_refl _));have HB3 := Lib.hid (HB1.out.trans (hb3.mono HB1.out.size));clear hq hr hb3;go_wp2_with fail;refine (KO2 _ _ _ (HIN.out _ HB3.out).2 HG.out).mono ?_;rintro x w4 ⟨q2,r2,rfl,hq2,hr2,hb4⟩;obtain ⟨adq2,capq2,rfl⟩ := Nt.In.slice hq2;have HB4 := Lib.hid (HB3.out.trans (hb4.mono HB3.out.size));have hq4 := HQ.out.below hb4 (Nat.le_refl _);obtain ⟨X1,X2,X3,⟨f0,z0,s0⟩,⟨f1,z1,s1⟩,⟨f2,z2,s2⟩,⟨r0,r1,r2'⟩,HX⟩ := Rt.put3 (HR.out _ HB4.out) (.bool dd) (.slice adq (Nt.dig (t / g)).length capq) (.slice adq2 (Nt.dig (b / g)).length capq2)
 have HOUT : Hid (Nt.N X3 (.slice adq (Nt.dig (t / g)).length capq) (t / g) ∧ Nt.N X3 (.slice adq2 (Nt.dig (b / g)).length capq2) (b / g) ∧ Below w.heap.size w X3) := Lib.hid ⟨Nt.In.othr hq4 (HR.out _ HB4.out) Rt.noWords HX.out.2.2.1 HX.out.2.1,Nt.In.othr hq2 (HR.out _ HB4.out) Rt.noWords HX.out.2.2.1 HX.out.2.1,HX.out.2.2.2 _ _ (HB.out _ HB4.out) (Nat.le_refl _)⟩;clear hq2 hr2 hb4 hq4 HX;generalize (Nt.dig (t / g)).length = l at *;generalize (Nt.dig (b / g)).length = l2 at *;cases neg with
 | false =>
   obtain rfl := HDD.out;simp only [Bool.false_and] at *;go_wp2_with fail;refine bodyPost_ret (v := .agg #[.bool false,.slice adq l capq,.slice adq2 l2 capq2]) (by simp [results,Tryz.results141,go_sem,r0,r1,r2']) rfl ⟨_,rfl,⟨_,_,rfl,HOUT.out.1,HOUT.out.2.1⟩,HOUT.out.2.2⟩
 | true =>
   have hdec : decide (0 < l) = dd := by
    rw [← HDD.out,Bool.true_and];by_cases h : 0 < t / g
    · rw [decide_eq_true h];exact decide_eq_true (hpos.1 h)
    · rw [decide_eq_false h];exact decide_eq_false (fun h2 => h (hpos.2 h2))
   clear hpos;go_wp2_with fail;refine bodyPost_ret (v := .agg #[.bool dd,.slice adq l capq,.slice adq2 l2 capq2]) (by simp [results,Tryz.results141,go_sem,r0,r1,r2']) rfl ⟨_,rfl,⟨_,_,rfl,HOUT.out.1,HOUT.out.2.1⟩,HOUT.out.2.2⟩
def Rt.wholeS (neg : Bool) (t : Nat) : Bool × Nat × Nat := Rt.ratS neg t 1
theorem Rt.wholeS_eq (neg : Bool) (t : Nat) : Rt.wholeS neg t = (neg && decide (0 < t),t,1) := by
 simp [Rt.wholeS,Rt.ratS]
theorem Rt.whole_any (neg : Bool) (t : Nat) (tv : Value) (w : World) (h : Nt.N w tv t) (hl : (Nt.dig t).length ≤ 400000) : Calls Tryz.prog 122 #[.bool neg,tv] w fun e w' => ∃ v',e = .returned v' ∧ Rt.R w' v' (neg && decide (0 < t)) t 1 ∧ Below w.heap.size w w' := by
 have KR := fun bv w h h2 => Rt.rat_any neg t 1 tv bv w h h2 (by decide) ⟨by rw [Nt.dig_small (by decide) (by decide)]; decide,hl⟩;have e0 := Rt.wholeS_eq neg t;unfold Rt.wholeS at e0;rw [e0] at KR;obtain ⟨ad,cap,rfl⟩ := Nt.In.slice h;have H := Lib.hid h;have hs0 : (w.alloc (.cells #[.bool false,.slice none 0 0,.slice none 0 0] 24)).heap.size = w.heap.size + 1 := by simp
 have hn1 : ∀ w : World,Nt.N (w.alloc (.cells #[.int .u32 1] 57)) (.slice (some ⟨w.heap.size,0,none⟩) 1 1) 1 := fun w => by
  have e : (#[.int .u32 1] : Array Value) = Nt.row [1] := rfl;unfold Nt.N;rw [Nt.dig_small (by decide) (by decide),e];exact Nt.In.of_row (heap_alloc_new w _)
 obtain ⟨W2,hW2⟩ : ∃ z,(w.alloc (.cells #[.bool false,.slice none 0 0,.slice none 0 0] 24)).alloc (.cells #[.int .u32 1] 57) = z := ⟨_,rfl⟩;have q0 : W2.heap[w.heap.size]? = some (.cells #[.bool false,.slice none 0 0,.slice none 0 0] 24 (0,0)) := hW2 ▸ (Lib.alloc_old _ _ _ (by rw [hs0]; omega)).trans (heap_alloc_new w _);have hb0 : Below w.heap.size w W2 := hW2 ▸ ((Below.refl _ _).alloc (Nat.le_refl _) _).alloc (by rw [hs0]; omega) _;have h1 : Nt.N W2 (.slice (some ⟨w.heap.size + 1,0,none⟩) 1 1) 1 := by
  have := hn1 (w.alloc (.cells #[.bool false,.slice none 0 0,.slice none 0 0] 24));rw [hs0,hW2] at this;exact this
 have hsz : w.heap.size < W2.heap.size := (Array.getElem?_eq_some_iff.1 q0).1;have HIN := Lib.hid (And.intro (H.out.below hb0 (Nat.le_refl _)) h1);have HR := Lib.hid (fun (w' : World) (hb : Below W2.heap.size W2 w') => (hb.block w.heap.size hsz).trans q0);have HB := Lib.hid (fun (w' : World) (hb : Below W2.heap.size W2 w') => hb0.trans (hb.mono (Nat.le_of_lt hsz)));clear h q0 hb0 h1 hs0 hn1 e0;generalize (neg && decide (0 < t)) = ss at *;go_enter Tryz.func122,Tryz.ntmps122;go_wp2_with fail;refine (KR _ _ HIN.out.1 HIN.out.2).mono ?_;rintro x w1 ⟨v1,rfl,⟨tv,bv,rfl,hn,hd⟩,hb1⟩;obtain ⟨ad1,cap1,rfl⟩ := Nt.In.slice hn;obtain ⟨ad2,cap2,rfl⟩ := Nt.In.slice hd;obtain ⟨X1,X2,X3,⟨f0,z0,s0⟩,⟨f1,z1,s1⟩,⟨f2,z2,s2⟩,⟨r0,r1,r2'⟩,HX⟩ := Rt.put3 (HR.out _ hb1) (.bool ss) (.slice ad1 (Nt.dig t).length cap1) (.slice ad2 (Nt.dig 1).length cap2);have HOUT : Hid (Nt.N X3 (.slice ad1 (Nt.dig t).length cap1) t ∧ Nt.N X3 (.slice ad2 (Nt.dig 1).length cap2) 1 ∧ Below w.heap.size w X3) := Lib.hid ⟨Nt.In.othr hn (HR.out _ hb1) Rt.noWords HX.out.2.2.1 HX.out.2.1,Nt.In.othr hd (HR.out _ hb1) Rt.noWords HX.out.2.2.1 HX.out.2.1,HX.out.2.2.2 _ _ (HB.out _ hb1) (Nat.le_refl _)⟩;clear hn hd hb1 HX;generalize (Nt.dig t).length = l at *;generalize (Nt.dig 1).length = l2 at *;go_wp2_with fail
 refine bodyPost_ret (v := .agg #[.bool ss,.slice ad1 l cap1,.slice ad2 l2 cap2]) (by simp [results,Tryz.results122,go_sem,r0,r1,r2']) rfl ⟨_,rfl,⟨_,_,rfl,HOUT.out.1,HOUT.out.2.1⟩,HOUT.out.2.2⟩
theorem Rt.belowD {w0 w : World} (h : Below w0.heap.size w0 w) : Below w0.heap.size w0 w.drew := h.drew
theorem Rt.belowT {w0 w w2 : World} (h : Below w0.heap.size w0 w) (h2 : Below w.heap.size w w2) : Below w0.heap.size w0 w2 := h.trans (h2.mono h.size)
theorem Rt.three (w : World) (o o2 o3 : Obj) : ∃ W2,((w.alloc o).alloc o2).alloc o3 = W2 ∧ W2.heap[w.heap.size]? = some o ∧ W2.heap[w.heap.size + 1]? = some o2 ∧ W2.heap[w.heap.size + 2]? = some o3 ∧ W2.heap.size = w.heap.size + 3 ∧ Below w.heap.size w W2 := by
 have h1 : (w.alloc o).heap.size = w.heap.size + 1 := by simp
 have h2 : ((w.alloc o).alloc o2).heap.size = w.heap.size + 2 := by simp
 refine ⟨_,rfl,?_,?_,?_,by simp,?_⟩
 · exact (Lib.alloc_old _ _ _ (by rw [h2]; omega)).trans ((Lib.alloc_old _ _ _ (by rw [h1]; omega)).trans (heap_alloc_new w o))
 · have := heap_alloc_new (w.alloc o) o2;rw [h1] at this;exact (Lib.alloc_old _ _ _ (by rw [h2]; omega)).trans this
 · have := heap_alloc_new ((w.alloc o).alloc o2) o3;rwa [h2] at this
 · exact (((Below.refl _ _).alloc (Nat.le_refl _) _).alloc (by rw [h1]; omega) _).alloc (by rw [h2]; omega) _
theorem Rt.cells3 {w : World} {b : Nat} {v0 v1 v2 : Value} {t : TypeId} (h : w.heap[b]? = some (.cells #[v0,v1,v2] t (0,0))) : w.cell? ⟨b,0,none⟩ = some v0 ∧ w.cell? ⟨b,1,none⟩ = some v1 ∧ w.cell? ⟨b,2,none⟩ = some v2 := ⟨Rt.cell_of h 0,Rt.cell_of h 1,Rt.cell_of h 2⟩
end Go.Proofs.YteklhapffplohaaGreatDoor
namespace Go.Proofs.YteklhapffplohaaGreatDoor
open Go.RowKit
end Go.Proofs.YteklhapffplohaaGreatDoor
namespace Go.Proofs.YteklhapffplohaaGreatDoor
open Go.RowKit
theorem Rt.two (w : World) (o o2 : Obj) : ∃ W2,(w.alloc o).alloc o2 = W2 ∧ W2.heap[w.heap.size]? = some o ∧ W2.heap[w.heap.size + 1]? = some o2 ∧ W2.heap.size = w.heap.size + 2 ∧ Below w.heap.size w W2 := by
 have h1 : (w.alloc o).heap.size = w.heap.size + 1 := by simp
 refine ⟨_,rfl,?_,?_,by simp,?_⟩
 · exact (Lib.alloc_old _ _ _ (by rw [h1]; omega)).trans (heap_alloc_new w o)
 · have := heap_alloc_new (w.alloc o) o2;rwa [h1] at this
 · exact ((Below.refl _ _).alloc (Nat.le_refl _) _).alloc (by rw [h1]; omega) _
def Rt.Q (w : World) (v : Value) (s : Bool) (t b : Nat) (s2 : Bool) (t2 b2 : Nat) : Prop := ∃ tv bv tv2 bv2,v = .agg #[.bool s,tv,bv,.bool s2,tv2,bv2] ∧ Nt.N w tv t ∧ Nt.N w bv b ∧ Nt.N w tv2 t2 ∧ Nt.N w bv2 b2
theorem Rt.noWords6 {s s2 : Bool} {a1 a2 a3 a4 : Option Addr} {n1 n2 n3 n4 c1 c2 c3 c4 : Nat} : ∀ (k : Nat) (n : Int),(#[Value.bool s,.slice a1 n1 c1,.slice a2 n2 c2,.bool s2,.slice a3 n3 c3,.slice a4 n4 c4] : Array Value)[k]? ≠ some (.int .u32 n) := by
 intro k n h;have hm := Array.mem_of_getElem? h;simp at hm
theorem Rt.cells6 {w : World} {b : Nat} {v0 v1 v2 v3 v4 v5 : Value} {t : TypeId} (h : w.heap[b]? = some (.cells #[v0,v1,v2,v3,v4,v5] t (0,0))) : w.cell? ⟨b,0,none⟩ = some v0 ∧ w.cell? ⟨b,1,none⟩ = some v1 ∧ w.cell? ⟨b,2,none⟩ = some v2 ∧ w.cell? ⟨b,3,none⟩ = some v3 ∧ w.cell? ⟨b,4,none⟩ = some v4 ∧ w.cell? ⟨b,5,none⟩ = some v5 := ⟨Rt.cell_of h 0,Rt.cell_of h 1,Rt.cell_of h 2,Rt.cell_of h 3,Rt.cell_of h 4,Rt.cell_of h 5⟩
theorem Rt.put6 {w : World} {b : Nat} {v0 v1 v2 v3 v4 v5 : Value} {t : TypeId} (h : w.heap[b]? = some (.cells #[v0,v1,v2,v3,v4,v5] t (0,0))) (u0 u1 u2 u3 u4 u5 : Value) :
 ∃ W1 W2 W3 W4 W5 W6 : World,
 (w.cell? ⟨b,0,none⟩ = some v0 ∧ w.frozen? ⟨b,0,none⟩ = false ∧ w.setCell ⟨b,0,none⟩ u0 = W1) ∧
 (W1.cell? ⟨b,1,none⟩ = some v1 ∧ W1.frozen? ⟨b,1,none⟩ = false ∧ W1.setCell ⟨b,1,none⟩ u1 = W2) ∧
 (W2.cell? ⟨b,2,none⟩ = some v2 ∧ W2.frozen? ⟨b,2,none⟩ = false ∧ W2.setCell ⟨b,2,none⟩ u2 = W3) ∧
 (W3.cell? ⟨b,3,none⟩ = some v3 ∧ W3.frozen? ⟨b,3,none⟩ = false ∧ W3.setCell ⟨b,3,none⟩ u3 = W4) ∧
 (W4.cell? ⟨b,4,none⟩ = some v4 ∧ W4.frozen? ⟨b,4,none⟩ = false ∧ W4.setCell ⟨b,4,none⟩ u4 = W5) ∧
 (W5.cell? ⟨b,5,none⟩ = some v5 ∧ W5.frozen? ⟨b,5,none⟩ = false ∧ W5.setCell ⟨b,5,none⟩ u5 = W6) ∧
 (W6.cell? ⟨b,0,none⟩ = some u0 ∧ W6.cell? ⟨b,1,none⟩ = some u1 ∧ W6.cell? ⟨b,2,none⟩ = some u2 ∧ W6.cell? ⟨b,3,none⟩ = some u3 ∧ W6.cell? ⟨b,4,none⟩ = some u4 ∧ W6.cell? ⟨b,5,none⟩ = some u5) ∧
 Hid (W6.heap[b]? = some (.cells #[u0,u1,u2,u3,u4,u5] t (0,0)) ∧ W6.heap.size = w.heap.size ∧ (∀ q,q ≠ b → W6.heap[q]? = w.heap[q]?) ∧ ∀ (B : Nat) (w0 : World),Below B w0 w → B ≤ b → Below B w0 W6) := by
 obtain ⟨A1,h1⟩ : ∃ z,w.setCell ⟨b,0,none⟩ u0 = z := ⟨_,rfl⟩
 obtain ⟨A2,h2⟩ : ∃ z,A1.setCell ⟨b,1,none⟩ u1 = z := ⟨_,rfl⟩
 obtain ⟨A3,h3⟩ : ∃ z,A2.setCell ⟨b,2,none⟩ u2 = z := ⟨_,rfl⟩
 obtain ⟨A4,h4⟩ : ∃ z,A3.setCell ⟨b,3,none⟩ u3 = z := ⟨_,rfl⟩
 obtain ⟨A5,h5⟩ : ∃ z,A4.setCell ⟨b,4,none⟩ u4 = z := ⟨_,rfl⟩
 obtain ⟨A6,h6⟩ : ∃ z,A5.setCell ⟨b,5,none⟩ u5 = z := ⟨_,rfl⟩
 have g1 : A1.heap[b]? = some (.cells #[u0,v1,v2,v3,v4,v5] t (0,0)) := h1 ▸ Rt.setCells h 0 u0
 have g2 : A2.heap[b]? = some (.cells #[u0,u1,v2,v3,v4,v5] t (0,0)) := h2 ▸ Rt.setCells g1 1 u1
 have g3 : A3.heap[b]? = some (.cells #[u0,u1,u2,v3,v4,v5] t (0,0)) := h3 ▸ Rt.setCells g2 2 u2
 have g4 : A4.heap[b]? = some (.cells #[u0,u1,u2,u3,v4,v5] t (0,0)) := h4 ▸ Rt.setCells g3 3 u3
 have g5 : A5.heap[b]? = some (.cells #[u0,u1,u2,u3,u4,v5] t (0,0)) := h5 ▸ Rt.setCells g4 4 u4
 have g6 : A6.heap[b]? = some (.cells #[u0,u1,u2,u3,u4,u5] t (0,0)) := h6 ▸ Rt.setCells g5 5 u5
 refine ⟨A1,A2,A3,A4,A5,A6,⟨Rt.cell_of h 0,Rt.frozen_of h 0,h1⟩,⟨Rt.cell_of g1 1,Rt.frozen_of g1 1,h2⟩,⟨Rt.cell_of g2 2,Rt.frozen_of g2 2,h3⟩,⟨Rt.cell_of g3 3,Rt.frozen_of g3 3,h4⟩,⟨Rt.cell_of g4 4,Rt.frozen_of g4 4,h5⟩,⟨Rt.cell_of g5 5,Rt.frozen_of g5 5,h6⟩,Rt.cells6 g6,Lib.hid ⟨g6,?_,fun q hq => ?_,fun B w0 hb hB => ?_⟩⟩
 · subst h1 h2 h3 h4 h5 h6;simp
 · subst h1 h2 h3 h4 h5 h6;rw [Below.heap_setCell _ ⟨b,5,none⟩ _ q hq,Below.heap_setCell _ ⟨b,4,none⟩ _ q hq,Below.heap_setCell _ ⟨b,3,none⟩ _ q hq,Below.heap_setCell _ ⟨b,2,none⟩ _ q hq,Below.heap_setCell _ ⟨b,1,none⟩ _ q hq,Below.heap_setCell _ ⟨b,0,none⟩ _ q hq]
 · subst h1 h2 h3 h4 h5 h6;exact (((((hb.setCell (p := ⟨b,0,none⟩) hB _).setCell (p := ⟨b,1,none⟩) hB _).setCell (p := ⟨b,2,none⟩) hB _).setCell (p := ⟨b,3,none⟩) hB _).setCell (p := ⟨b,4,none⟩) hB _).setCell (p := ⟨b,5,none⟩) hB _
def Nt.Fr (B : Nat) (v : Value) : Prop := ∀ b off l c,v = .slice (some ⟨b,off,none⟩) l c → B ≤ b
theorem Nt.Fr.mono {B B' : Nat} {v : Value} (h : Nt.Fr B v) (hB : B' ≤ B) : Nt.Fr B' v := fun b off l c e => Nat.le_trans hB (h b off l c e)
theorem Nt.Fr.own {w : World} {B : Nat} {t : TypeId} {v : Value} {n : Nat} {xs : List Value} (h : w.ownsRow B t 1 v n xs) : Nt.Fr B v := by
 intro b off l c e;rcases h.2 with ⟨hv,_⟩ | ⟨g,cap,cur,hv,hB,_⟩
 · rw [hv] at e; simp at e
 · rw [hv] at e;simp only [Value.slice.injEq,Option.some.injEq,Addr.mk.injEq] at e;omega
theorem Nt.Clone_fr (ws : List Nat) (v : Value) (w : World) (h : Nt.In w v ws) (hl : ws.length ≤ 1000000) : Calls Tryz.prog 129 #[v] w fun e w' => ∃ v',e = .returned v' ∧ Nt.In w' v' ws ∧ Nt.Fr w.heap.size v' ∧ Below w.heap.size w w' :=
 (Nt.Clone_own ws v w h hl).mono fun _ _ ⟨v',he,ho,hb⟩ => ⟨v',he,Nt.In.of_own ho,Nt.Fr.own ho,hb⟩
def Rt.Fr (B : Nat) (v : Value) : Prop := ∃ s tv bv,v = .agg #[s,tv,bv] ∧ Nt.Fr B tv ∧ Nt.Fr B bv
set_option maxHeartbeats 8000000 in
theorem Rt.own1_any (s : Bool) (t b : Nat) (v : Value) (w : World) (h : Rt.R w v s t b) (hl : (Nt.dig t).length ≤ 400000 ∧ (Nt.dig b).length ≤ 400000) :
 Calls Tryz.prog 143 #[v] w fun e w' => ∃ v',e = .returned v' ∧ Rt.R w' v' s t b ∧ Rt.Fr w.heap.size v' ∧ Below w.heap.size w w' := by
 have KT := fun v w h => Nt.Clone_fr (Nt.dig t) v w h (by omega)
 have KB := fun v w h => Nt.Clone_fr (Nt.dig b) v w h (by omega)
 clear hl
 obtain ⟨tv1,bv1,rfl,hn1,hd1⟩ := h
 obtain ⟨a1,c1,rfl⟩ := Nt.In.slice hn1
 obtain ⟨a2,c2,rfl⟩ := Nt.In.slice hd1
 generalize (Nt.dig t).length = l1 at *
 generalize (Nt.dig b).length = l2 at *
 obtain ⟨W2,hW2,q0,q1,hsz,hb0⟩ := Rt.two w (.cells #[.bool s,.slice a1 l1 c1,.slice a2 l2 c2] 24) (.cells #[.bool false,.slice none 0 0,.slice none 0 0] 24)
 have HI := Lib.hid (fun (w' : World) (hb : Below W2.heap.size W2 w') => And.intro ((Nt.N.below hn1 hb0 (Nat.le_refl _)).below hb (Nat.le_refl _)) ((Nt.N.below hd1 hb0 (Nat.le_refl _)).below hb (Nat.le_refl _)))
 have HK := Lib.hid (fun (w' : World) (hb : Below W2.heap.size W2 w') => Rt.cells3 ((hb.block w.heap.size (by omega)).trans q0))
 have HR := Lib.hid (fun (w' : World) (hb : Below W2.heap.size W2 w') => (hb.block (w.heap.size + 1) (by omega)).trans q1)
 have HKX := Lib.hid (fun (w' w'' : World) (hb : Below W2.heap.size W2 w') (hx : ∀ q,q ≠ w.heap.size + 1 → w''.heap[q]? = w'.heap[q]?) => (Rt.cells3 ((hx w.heap.size (by omega)).trans ((hb.block w.heap.size (by omega)).trans q0))))
 have HB := Lib.hid (fun (w' : World) (hb : Below W2.heap.size W2 w') => hb0.trans (hb.mono (by omega : w.heap.size ≤ W2.heap.size)))
 have hacc : Below W2.heap.size W2 W2.drew := Rt.belowD (Below.refl _ _)
 have hkeep := HK.out _ hacc
 have HZ : Hid (∀ w',Below W2.heap.size W2 w' → w.heap.size ≤ w'.heap.size) := Lib.hid (fun w' hb => by have := hb.size; omega)
 clear q0 q1 hb0 hn1 hd1 hsz
 go_enter Tryz.func143,Tryz.ntmps143
 go_wp2_with fail
 clear hW2
 go_region_held3 (fun w' => w'.cell? ⟨w.heap.size,0,none⟩ = some (.bool s) ∧ w'.cell? ⟨w.heap.size,1,none⟩ = some (.slice a1 l1 c1) ∧ w'.cell? ⟨w.heap.size,2,none⟩ = some (.slice a2 l2 c2))
  (first | exact hkeep | exact hkeepX)
  (first
    | (go_at_call_of 129 (Value.slice a1 l1 c1)
       refine (KT _ _ (HI.out _ hacc).1).mono ?_
       rintro x w5 ⟨v5,rfl,hv5,hf5,hb5⟩
       have hf5 := Lib.hid (hf5.mono (HZ.out _ hacc))
       have hacc := Rt.belowT hacc hb5
       have hkeep := HK.out _ hacc)
    | (go_at_call_of 129 (Value.slice a2 l2 c2)
       refine (KB _ _ (HI.out _ hacc).2).mono ?_
       rintro x w6 ⟨v6,rfl,hv6,hf6,hb6⟩
       have hf6 := Lib.hid (hf6.mono (HZ.out _ hacc))
       have hn : Nt.N w6 v5 t := Nt.In.below hv5 hb6 (Nat.le_refl _)
       have hd : Nt.N w6 v6 b := hv6
       obtain ⟨a5,c5,rfl⟩ := Nt.In.slice hn
       obtain ⟨a6,c6,rfl⟩ := Nt.In.slice hd
       have hacc := Rt.belowT hacc hb6
       have hkeep := HK.out _ hacc
       obtain ⟨X1,X2,X3,⟨f0,z0,s0⟩,⟨f1,z1,s1'⟩,⟨f2,z2,s2'⟩,⟨r0,r1,r2'⟩,HX⟩ := Rt.put3 (HR.out _ hacc) (.bool s) (.slice a5 (Nt.dig t).length c5) (.slice a6 (Nt.dig b).length c6)
       have HOUT : Hid (Nt.N X3 (.slice a5 (Nt.dig t).length c5) t ∧ Nt.N X3 (.slice a6 (Nt.dig b).length c6) b ∧ Below w.heap.size w X3) := Lib.hid ⟨Nt.In.othr hn (HR.out _ hacc) Rt.noWords HX.out.2.2.1 HX.out.2.1,Nt.In.othr hd (HR.out _ hacc) Rt.noWords HX.out.2.2.1 HX.out.2.1,HX.out.2.2.2 _ _ (HB.out _ hacc) (by omega)⟩
       have hkeepX := HKX.out _ X3 hacc HX.out.2.2.1))
 all_goals
  clear hkeep hkeepX hacc hb5 hb6 hv5 hv6 hn hd HX
  generalize (Nt.dig t).length = l5 at *
  generalize (Nt.dig b).length = l6 at *
  go_wp2_with fail
  refine bodyPost_ret (v := .agg #[.bool s,.slice a5 l5 c5,.slice a6 l6 c6]) (by simp [results,Tryz.results143,go_sem,r0,r1,r2']) rfl ⟨_,rfl,⟨_,_,rfl,HOUT.out.1,HOUT.out.2.1⟩,⟨_,_,_,rfl,hf5.out,hf6.out⟩,HOUT.out.2.2⟩
def Rt.FrN (B : Nat) (v : Value) : Prop := ∃ s tv bv s2 tv2 bv2,v = .agg #[s,tv,bv,s2,tv2,bv2] ∧ Nt.Fr B tv ∧ Nt.Fr B bv ∧ Nt.Fr B tv2 ∧ Nt.Fr B bv2
theorem Rt.Fr.open {B B' : Nat} {s tv bv : Value} (h : Rt.Fr B (.agg #[s,tv,bv])) (hB : B' ≤ B) : Nt.Fr B' tv ∧ Nt.Fr B' bv := by
 obtain ⟨s',tv',bv',e,h1,h2⟩ := h;simp only [Value.agg.injEq] at e;have e1 : tv = tv' := by have := congrArg (fun a : Array Value => a[1]?) e; simpa using this
 have e2 : bv = bv' := by have := congrArg (fun a : Array Value => a[2]?) e; simpa using this
 subst e1 e2;exact ⟨h1.mono hB,h2.mono hB⟩
set_option maxHeartbeats 8000000 in
theorem Rt.own_any (s : Bool) (t b : Nat) (s2 : Bool) (t2 b2 : Nat) (v : Value) (w : World) (h : Rt.Q w v s t b s2 t2 b2) (hl : (Nt.dig t).length ≤ 400000 ∧ (Nt.dig b).length ≤ 400000 ∧ (Nt.dig t2).length ≤ 400000 ∧ (Nt.dig b2).length ≤ 400000) :
 Calls Tryz.prog 126 #[v] w fun e w' => ∃ v',e = .returned v' ∧ Rt.Q w' v' s t b s2 t2 b2 ∧ Rt.FrN w.heap.size v' ∧ Below w.heap.size w w' := by
 have K1 := fun v w h => Rt.own1_any s t b v w h ⟨hl.1,hl.2.1⟩
 have K2 := fun v w h => Rt.own1_any s2 t2 b2 v w h ⟨hl.2.2.1,hl.2.2.2⟩
 clear hl
 obtain ⟨tv1,bv1,tv2,bv2,rfl,hn1,hd1,hn2,hd2⟩ := h
 obtain ⟨a1,c1,rfl⟩ := Nt.In.slice hn1
 obtain ⟨a2,c2,rfl⟩ := Nt.In.slice hd1
 obtain ⟨a3,c3,rfl⟩ := Nt.In.slice hn2
 obtain ⟨a4,c4,rfl⟩ := Nt.In.slice hd2
 generalize (Nt.dig t).length = l1 at *
 generalize (Nt.dig b).length = l2 at *
 generalize (Nt.dig t2).length = l3 at *
 generalize (Nt.dig b2).length = l4 at *
 obtain ⟨W2,hW2,q0,q1,hsz,hb0⟩ := Rt.two w (.cells #[.bool s,.slice a1 l1 c1,.slice a2 l2 c2,.bool s2,.slice a3 l3 c3,.slice a4 l4 c4] 26) (.cells #[.bool false,.slice none 0 0,.slice none 0 0,.bool false,.slice none 0 0,.slice none 0 0] 26)
 have HI := Lib.hid (fun (w' : World) (hb : Below W2.heap.size W2 w') => And.intro (show Rt.R w' (.agg #[.bool s,.slice a1 l1 c1,.slice a2 l2 c2]) s t b from ⟨_,_,rfl,(Nt.N.below hn1 hb0 (Nat.le_refl _)).below hb (Nat.le_refl _),(Nt.N.below hd1 hb0 (Nat.le_refl _)).below hb (Nat.le_refl _)⟩) (show Rt.R w' (.agg #[.bool s2,.slice a3 l3 c3,.slice a4 l4 c4]) s2 t2 b2 from ⟨_,_,rfl,(Nt.N.below hn2 hb0 (Nat.le_refl _)).below hb (Nat.le_refl _),(Nt.N.below hd2 hb0 (Nat.le_refl _)).below hb (Nat.le_refl _)⟩))
 have HK := Lib.hid (fun (w' : World) (hb : Below W2.heap.size W2 w') => Rt.cells6 ((hb.block w.heap.size (by omega)).trans q0))
 have HR := Lib.hid (fun (w' : World) (hb : Below W2.heap.size W2 w') => (hb.block (w.heap.size + 1) (by omega)).trans q1)
 have HKX := Lib.hid (fun (w' w'' : World) (hb : Below W2.heap.size W2 w') (hx : ∀ q,q ≠ w.heap.size + 1 → w''.heap[q]? = w'.heap[q]?) => (Rt.cells6 ((hx w.heap.size (by omega)).trans ((hb.block w.heap.size (by omega)).trans q0))))
 have HB := Lib.hid (fun (w' : World) (hb : Below W2.heap.size W2 w') => hb0.trans (hb.mono (by omega : w.heap.size ≤ W2.heap.size)))
 have hacc : Below W2.heap.size W2 W2.drew := Rt.belowD (Below.refl _ _)
 have hkeep := HK.out _ hacc
 have HZ : Hid (∀ w',Below W2.heap.size W2 w' → w.heap.size ≤ w'.heap.size) := Lib.hid (fun w' hb => by have := hb.size; omega)
 clear q0 q1 hb0 hn1 hd1 hn2 hd2 hsz
 go_enter Tryz.func126,Tryz.ntmps126
 go_wp2_with fail
 clear hW2
 go_region_held3 (fun w' => w'.cell? ⟨w.heap.size,0,none⟩ = some (.bool s) ∧ w'.cell? ⟨w.heap.size,1,none⟩ = some (.slice a1 l1 c1) ∧ w'.cell? ⟨w.heap.size,2,none⟩ = some (.slice a2 l2 c2) ∧ w'.cell? ⟨w.heap.size,3,none⟩ = some (.bool s2) ∧ w'.cell? ⟨w.heap.size,4,none⟩ = some (.slice a3 l3 c3) ∧ w'.cell? ⟨w.heap.size,5,none⟩ = some (.slice a4 l4 c4))
  (first | exact hkeep | exact hkeepX)
  (first
    | (go_at_call_of 143 (Value.agg #[.bool s,.slice a1 l1 c1,.slice a2 l2 c2])
       refine (K1 _ _ (HI.out _ hacc).1).mono ?_
       rintro x w5 ⟨v5,rfl,hv5,hf5,hb5⟩
       obtain ⟨tvx,bvx,rfl,hn5,hd5⟩ := hv5
       have hf5 := Lib.hid (Rt.Fr.open hf5 (HZ.out _ hacc))
       have hacc := Rt.belowT hacc hb5
       have hkeep := HK.out _ hacc)
    | (go_at_call_of 143 (Value.agg #[.bool s2,.slice a3 l3 c3,.slice a4 l4 c4])
       refine (K2 _ _ (HI.out _ hacc).2).mono ?_
       rintro x w6 ⟨v6,rfl,hv6,hf6,hb6⟩
       obtain ⟨tvy,bvy,rfl,hn6,hd6⟩ := hv6
       have hf6 := Lib.hid (Rt.Fr.open hf6 (HZ.out _ hacc))
       have hn := hn5.below hb6 (Nat.le_refl _)
       have hd := hd5.below hb6 (Nat.le_refl _)
       obtain ⟨a5,c5,rfl⟩ := Nt.In.slice hn
       obtain ⟨a6,c6,rfl⟩ := Nt.In.slice hd
       obtain ⟨a7,c7,rfl⟩ := Nt.In.slice hn6
       obtain ⟨a8,c8,rfl⟩ := Nt.In.slice hd6
       have hacc := Rt.belowT hacc hb6
       have hkeep := HK.out _ hacc
       obtain ⟨X1,X2,X3,X4,X5,X6,⟨f0,z0,s0⟩,⟨f1,z1,s1'⟩,⟨f2,z2,s2'⟩,⟨f3,z3,s3'⟩,⟨f4,z4,s4'⟩,⟨f5,z5,s5'⟩,⟨r0,r1,r2',r3,r4,r5⟩,HX⟩ := Rt.put6 (HR.out _ hacc) (.bool s) (.slice a5 (Nt.dig t).length c5) (.slice a6 (Nt.dig b).length c6) (.bool s2) (.slice a7 (Nt.dig t2).length c7) (.slice a8 (Nt.dig b2).length c8)
       have HOUT : Hid (Rt.Q X6 (.agg #[.bool s,.slice a5 (Nt.dig t).length c5,.slice a6 (Nt.dig b).length c6,.bool s2,.slice a7 (Nt.dig t2).length c7,.slice a8 (Nt.dig b2).length c8]) s t b s2 t2 b2 ∧ Below w.heap.size w X6) := Lib.hid ⟨⟨_,_,_,_,rfl,Nt.In.othr hn (HR.out _ hacc) Rt.noWords6 HX.out.2.2.1 HX.out.2.1,Nt.In.othr hd (HR.out _ hacc) Rt.noWords6 HX.out.2.2.1 HX.out.2.1,Nt.In.othr hn6 (HR.out _ hacc) Rt.noWords6 HX.out.2.2.1 HX.out.2.1,Nt.In.othr hd6 (HR.out _ hacc) Rt.noWords6 HX.out.2.2.1 HX.out.2.1⟩,HX.out.2.2.2 _ _ (HB.out _ hacc) (by omega)⟩
       have hkeepX := HKX.out _ X6 hacc HX.out.2.2.1))
 all_goals
  clear hkeep hkeepX hacc hb5 hb6 hn5 hd5 hn6 hd6 hn hd HX
  generalize (Nt.dig t).length = l5 at *
  generalize (Nt.dig b).length = l6 at *
  generalize (Nt.dig t2).length = l7 at *
  generalize (Nt.dig b2).length = l8 at *
  go_wp2_with fail
  refine bodyPost_ret (v := .agg #[.bool s,.slice a5 l5 c5,.slice a6 l6 c6,.bool s2,.slice a7 l7 c7,.slice a8 l8 c8]) (by simp [results,Tryz.results126,go_sem,r0,r1,r2',r3,r4,r5]) rfl ⟨_,rfl,HOUT.out.1,⟨_,_,_,_,_,_,rfl,hf5.out.1,hf5.out.2,hf6.out.1,hf6.out.2⟩,HOUT.out.2⟩
theorem Rt.FrN.mono {B B' : Nat} {v : Value} (h : Rt.FrN B v) (hB : B' ≤ B) : Rt.FrN B' v := by
 obtain ⟨s,tv,bv,s2,tv2,bv2,e,h1,h2,h3,h4⟩ := h;exact ⟨s,tv,bv,s2,tv2,bv2,e,h1.mono hB,h2.mono hB,h3.mono hB,h4.mono hB⟩
set_option maxHeartbeats 8000000 in
theorem Rt.fit_ok (s : Bool) (t b : Nat) (s2 : Bool) (t2 b2 : Nat) (v v2 : Value) (w : World) (h : Rt.R w v s t b) (h2 : Rt.R w v2 s2 t2 b2) (hl : (Nt.dig t).length ≤ 512 ∧ (Nt.dig b).length ≤ 512 ∧ (Nt.dig t2).length ≤ 512 ∧ (Nt.dig b2).length ≤ 512) :
 Calls Tryz.prog 103 #[v,v2] w fun e w' => ∃ v',e = .returned (.tuple #[v',.int .i64 0]) ∧ Rt.Q w' v' s t b s2 t2 b2 ∧ Rt.FrN w.heap.size v' ∧ Below w.heap.size w w' := by
 have KO := fun v w h => Rt.own_any s t b s2 t2 b2 v w h ⟨by omega,by omega,by omega,by omega⟩
 obtain ⟨tv1,bv1,rfl,hn1,hd1⟩ := h
 obtain ⟨tv2,bv2,rfl,hn2,hd2⟩ := h2
 obtain ⟨a1,c1,rfl⟩ := Nt.In.slice hn1
 obtain ⟨a2,c2,rfl⟩ := Nt.In.slice hd1
 obtain ⟨a3,c3,rfl⟩ := Nt.In.slice hn2
 obtain ⟨a4,c4,rfl⟩ := Nt.In.slice hd2
 obtain ⟨g1,g2,g3,g4⟩ := hl
 have HI := Lib.hid (fun (w' : World) (hb : Below w.heap.size w w') => (show Rt.Q w' (.agg #[.bool s,.slice a1 (Nt.dig t).length c1,.slice a2 (Nt.dig b).length c2,.bool s2,.slice a3 (Nt.dig t2).length c3,.slice a4 (Nt.dig b2).length c4]) s t b s2 t2 b2 from ⟨_,_,_,_,rfl,Nt.N.below hn1 hb (Nat.le_refl _),Nt.N.below hd1 hb (Nat.le_refl _),Nt.N.below hn2 hb (Nat.le_refl _),Nt.N.below hd2 hb (Nat.le_refl _)⟩))
 clear hn1 hd1 hn2 hd2
 generalize (Nt.dig t).length = l1 at *
 generalize (Nt.dig b).length = l2 at *
 generalize (Nt.dig t2).length = l3 at *
 generalize (Nt.dig b2).length = l4 at *
 have i1 : (l1 : Int) ≤ 512 := by omega
 have i2 : (l2 : Int) ≤ 512 := by omega
 have i3 : (l3 : Int) ≤ 512 := by omega
 have i4 : (l4 : Int) ≤ 512 := by omega
 obtain ⟨W2,hW2,q0,q1,q2,hsz,hb0⟩ := Rt.three w (.cells #[.bool s,.slice a1 l1 c1,.slice a2 l2 c2] 24) (.cells #[.bool s2,.slice a3 l3 c3,.slice a4 l4 c4] 24) (.cells #[.bool false,.slice none 0 0,.slice none 0 0,.bool false,.slice none 0 0,.slice none 0 0] 26)
 obtain ⟨W3,hW3⟩ : ∃ z,W2.alloc (.cells #[.slice a1 l1 c1,.slice a2 l2 c2,.slice a3 l3 c3,.slice a4 l4 c4] 22) = z := ⟨_,rfl⟩
 have hb3 : Below w.heap.size w W3 := by rw [← hW3]; exact hb0.alloc hb0.size _
 have r0 := Rt.cells3 (show W3.heap[w.heap.size]? = some _ by rw [← hW3]; exact (Lib.alloc_old _ _ _ (by omega)).trans q0)
 have r1 := Rt.cells3 (show W3.heap[w.heap.size + 1]? = some _ by rw [← hW3]; exact (Lib.alloc_old _ _ _ (by omega)).trans q1)
 have r2 : W3.heap[w.heap.size + 2]? = some (.cells #[.bool false,.slice none 0 0,.slice none 0 0,.bool false,.slice none 0 0,.slice none 0 0] 26 (0,0)) := by rw [← hW3]; exact (Lib.alloc_old _ _ _ (by omega)).trans q2
 have r3 : W3.heap[W2.heap.size]? = some (.cells #[.slice a1 l1 c1,.slice a2 l2 c2,.slice a3 l3 c3,.slice a4 l4 c4] 22 (0,0)) := by rw [← hW3]; exact heap_alloc_new W2 _
 obtain ⟨k0,k1,k2⟩ := Rt.cells3 q0
 obtain ⟨m0,m1,m2⟩ := Rt.cells3 q1
 have HR2 := Lib.hid r2
 have HB3 := Lib.hid hb3
 have HR0 := Lib.hid r0
 have HR1 := Lib.hid r1
 have e0 : W3.cell? ⟨W2.heap.size,0,none⟩ = some (.slice a1 l1 c1) := Rt.cell_of r3 0
 have e1 : W3.cell? ⟨W2.heap.size,1,none⟩ = some (.slice a2 l2 c2) := Rt.cell_of r3 1
 have e2 : W3.cell? ⟨W2.heap.size,2,none⟩ = some (.slice a3 l3 c3) := Rt.cell_of r3 2
 have e3 : W3.cell? ⟨W2.heap.size,3,none⟩ = some (.slice a4 l4 c4) := Rt.cell_of r3 3
 clear q0 q1 q2 hb0 hb3 r0 r1 r2 r3 g1 g2 g3 g4 hsz
 go_enter Tryz.func103,Tryz.ntmps103
 go_wp2_with fail
 go_loopw [18] (fun i wr => wr = W3 ∧ ∃ k : Nat,i = .int .i64 k ∧ k ≤ 4) (fun i _ => 4 - (intOf i).toNat)
 case atStart => exact ⟨rfl,0,rfl,by decide⟩
 case round =>
  obtain ⟨hwr,k,rfl,hk⟩ := hrel
  subst hwr
  rcases (show k = 0 ∨ k = 1 ∨ k = 2 ∨ k = 3 ∨ k = 4 by omega) with rfl | rfl | rfl | rfl | rfl
  case inr.inr.inr.inr =>
   obtain ⟨k0,k1,k2⟩ := HR0.out
   obtain ⟨m0,m1,m2⟩ := HR1.out
   go_wp2_with fail
   refine (KO _ _ (HI.out _ HB3.out)).mono ?_
   rintro x w4 ⟨v4,rfl,hq4,hf4,hb4⟩
   have hr4 : w4.heap[w.heap.size + 1 + 1]? = some (.cells #[.bool false,.slice none 0 0,.slice none 0 0,.bool false,.slice none 0 0,.slice none 0 0] 26 (0,0)) := (hb4.block (w.heap.size + 1 + 1) ((Array.getElem?_eq_some_iff.1 HR2.out).1)).trans HR2.out
   have hbw4 : Below w.heap.size w w4 := HB3.out.trans (hb4.mono HB3.out.size)
   have HF4 := Lib.hid (hf4.mono HB3.out.size)
   obtain ⟨tvx,bvx,tvy,bvy,rfl,hn5,hd5,hn6,hd6⟩ := hq4
   obtain ⟨a5,c5,rfl⟩ := Nt.In.slice hn5
   obtain ⟨a6,c6,rfl⟩ := Nt.In.slice hd5
   obtain ⟨a7,c7,rfl⟩ := Nt.In.slice hn6
   obtain ⟨a8,c8,rfl⟩ := Nt.In.slice hd6
   obtain ⟨X1,X2,X3,X4,X5,X6,⟨f0,z0,s0⟩,⟨f1,z1,s1'⟩,⟨f2,z2,s2'⟩,⟨f3,z3,s3'⟩,⟨f4,z4,s4'⟩,⟨f5,z5,s5'⟩,⟨r0,r1,r2',r3,r4,r5⟩,HX⟩ := Rt.put6 hr4 (.bool s) (.slice a5 (Nt.dig t).length c5) (.slice a6 (Nt.dig b).length c6) (.bool s2) (.slice a7 (Nt.dig t2).length c7) (.slice a8 (Nt.dig b2).length c8)
   have HOUT : Hid (Rt.Q X6 (.agg #[.bool s,.slice a5 (Nt.dig t).length c5,.slice a6 (Nt.dig b).length c6,.bool s2,.slice a7 (Nt.dig t2).length c7,.slice a8 (Nt.dig b2).length c8]) s t b s2 t2 b2 ∧ Below w.heap.size w X6) := Lib.hid ⟨⟨_,_,_,_,rfl,Nt.In.othr hn5 hr4 Rt.noWords6 HX.out.2.2.1 HX.out.2.1,Nt.In.othr hd5 hr4 Rt.noWords6 HX.out.2.2.1 HX.out.2.1,Nt.In.othr hn6 hr4 Rt.noWords6 HX.out.2.2.1 HX.out.2.1,Nt.In.othr hd6 hr4 Rt.noWords6 HX.out.2.2.1 HX.out.2.1⟩,HX.out.2.2.2 _ _ hbw4 (by omega)⟩
   clear hf4 hb4 hbw4 hr4 hn5 hd5 hn6 hd6 HX
   generalize (Nt.dig t).length = l5 at *
   generalize (Nt.dig b).length = l6 at *
   generalize (Nt.dig t2).length = l7 at *
   generalize (Nt.dig b2).length = l8 at *
   go_wp2_with fail
   refine bodyPost_ret (v := .tuple #[.agg #[.bool s,.slice a5 l5 c5,.slice a6 l6 c6,.bool s2,.slice a7 l7 c7,.slice a8 l8 c8],.int .i64 0]) (by simp [results,Tryz.results103,go_sem,r0,r1,r2',r3,r4,r5]) rfl ⟨_,rfl,HOUT.out.1,HF4.out,HOUT.out.2⟩
  all_goals
   go_wp2_with fail
   go_roundw
   case rel => exact ⟨by first | rfl | trivial,_,by first | rfl | go_num,by decide⟩
   case measure => simp [intOf]
def Dr.cp (l : List UInt8) : Int := ((Lib.decodeL l).1 : Int)
def Dr.wd (l : List UInt8) : Nat := (Lib.decodeL l).2
def Dr.bad (l : List UInt8) : Bool := decide (Dr.cp l = 65533) && decide (Dr.wd l = 1)
theorem Dr.wd_pos {l : List UInt8} (h : l ≠ []) : 1 ≤ Dr.wd l := Ru.width_pos l h
theorem Dr.wd_le {l : List UInt8} (h : l ≠ []) : Dr.wd l ≤ l.length := Ru.width_le l h
theorem Dr.drop_lt {l : List UInt8} (h : l ≠ []) : (l.drop (Dr.wd l)).length < l.length := by
 have := Dr.wd_pos h;have := List.length_pos_iff.2 h;rw [List.length_drop];omega
def Dr.next (l : List UInt8) : Option (Int × List UInt8) := if l = [] then none else if Dr.bad l = true then none else some (Dr.cp l,l.drop (Dr.wd l))
theorem Dr.next_lt {l r : List UInt8} {c : Int} (h : Dr.next l = some (c,r)) : r.length < l.length := by
 unfold Dr.next at h;split at h
 · cases h
 · rename_i hn;split at h
   · cases h
   · simp only [Option.some.injEq,Prod.mk.injEq] at h;rw [← h.2];exact Dr.drop_lt hn
def Dr.lineC (c : Int) : Bool := decide (c = 10) || decide (c = 13) || decide (c = 133) || decide (c = 8232)
def Dr.line (l : List UInt8) : Option (List UInt8) :=
 if h : l = [] then some l else if Dr.bad l = true then none else if Dr.lineC (Dr.cp l) = true then some l else Dr.line (l.drop (Dr.wd l))
termination_by l.length
decreasing_by exact Dr.drop_lt h
def Dr.remark (d : Nat) (l : List UInt8) : Option (List UInt8) :=
 if h1 : l.take 2 = [35,124] then Dr.remark (d + 1) (l.drop 2) else if h2 : l.take 2 = [124,35] then (if d = 1 then some (l.drop 2) else Dr.remark (d - 1) (l.drop 2))
 else if h : l = [] then none else if Dr.bad l = true then none else Dr.remark d (l.drop (Dr.wd l))
termination_by l.length
decreasing_by
 · rw [List.length_drop]; have := congrArg List.length h1; simp at this; omega
 · rw [List.length_drop]; have := congrArg List.length h2; simp at this; omega
 · exact Dr.drop_lt h
def Dr.hexB (b : UInt8) : Bool := (decide (48 ≤ b.toNat) && decide (b.toNat ≤ 57)) || (decide (97 ≤ b.toNat) && decide (b.toNat ≤ 102)) || (decide (65 ≤ b.toNat) && decide (b.toNat ≤ 70))
def Dr.semi : List UInt8 → List UInt8
 | [] => []
 | b :: r => if b = 59 then r else b :: r
def Dr.digits (l : List UInt8) : Option (List UInt8) := (Dr.next l).map fun x => Dr.semi (x.2.dropWhile Dr.hexB)
theorem Dr.dropWhile_le (p : UInt8 → Bool) : ∀ (l : List UInt8),(l.dropWhile p).length ≤ l.length
 | [] => Nat.le_refl _
 | b :: r => by
   rw [List.dropWhile_cons];split
   · have := Dr.dropWhile_le p r;rw [List.length_cons]; omega
   · exact Nat.le_refl _
theorem Dr.semi_le (l : List UInt8) : (Dr.semi l).length ≤ l.length := by
 cases l with
 | nil => exact Nat.le_refl _
 | cons b r =>
   show (if b = 59 then r else b :: r).length ≤ _;split
   · rw [List.length_cons]; omega
   · exact Nat.le_refl _
theorem Dr.digits_lt {l r : List UInt8} (h : Dr.digits l = some r) : r.length < l.length := by
 unfold Dr.digits at h;cases hn : Dr.next l with
 | none => rw [hn] at h; cases h
 | some x =>
   rw [hn] at h;simp only [Option.map_some,Option.some.injEq] at h;obtain ⟨c,r2⟩ := x;have h1 := Dr.next_lt hn;have h2 := Dr.dropWhile_le Dr.hexB r2;have h3 := Dr.semi_le (r2.dropWhile Dr.hexB);rw [← h];show (Dr.semi (r2.dropWhile Dr.hexB)).length < _;omega
def Dr.delim (c : Int) : Bool := Ch.blankB c || decide (c = 40) || decide (c = 41) || decide (c = 91) || decide (c = 93) || decide (c = 34) || decide (c = 59)
def Dr.token (l : List UInt8) : Option (List UInt8) :=
 if h : l = [] then some l else if Dr.bad l = true then none else if Dr.delim (Dr.cp l) = true then some l
 else if Dr.cp l = 92 then (match h2 : Dr.digits (l.drop (Dr.wd l)) with | none => none | some r => Dr.token r) else Dr.token (l.drop (Dr.wd l))
termination_by l.length
decreasing_by
 · exact Nat.lt_trans (Dr.digits_lt h2) (Dr.drop_lt h)
 · exact Dr.drop_lt h
def Dr.upto (l r : List UInt8) : List UInt8 := l.take (l.length - r.length)
def Dr.hexV (b : UInt8) : Nat := if b.toNat ≤ 57 then b.toNat - 48 else if 97 ≤ b.toNat then b.toNat - 87 else b.toNat - 55
def Dr.hex (ds : List UInt8) : Option Int :=
 if (decide (1 ≤ ds.length) && decide (ds.length ≤ 8) && ds.all Dr.hexB && Tr.isChar ((ds.foldl (fun n b => 16 * n + Dr.hexV b) 0 : Nat) : Int)) = true then some ((ds.foldl (fun n b => 16 * n + Dr.hexV b) 0 : Nat) : Int) else none
def Dr.escEnd (l : List UInt8) : Option (List UInt8 × List UInt8) :=
 if h : l = [] then none else if Dr.bad l = true then none else if Dr.cp l = 59 then some ([],l.drop (Dr.wd l))
 else (Dr.escEnd (l.drop (Dr.wd l))).map fun x => (l.take (Dr.wd l) ++ x.1,x.2)
termination_by l.length
decreasing_by exact Dr.drop_lt h
theorem Dr.escEnd_lt : ∀ (n : Nat) (l : List UInt8),l.length ≤ n → ∀ x,Dr.escEnd l = some x → x.2.length < l.length
 | 0,l,hl,x,h => by
   have : l = [] := List.length_eq_zero_iff.1 (by omega);rw [Dr.escEnd,dif_pos this] at h;cases h
 | n + 1,l,hl,x,h => by
   rw [Dr.escEnd] at h;split at h
   · cases h
   · rename_i hne;have hlt := Dr.drop_lt hne;split at h
     · cases h
     · split at h
       · simp only [Option.some.injEq] at h;rw [← h];exact hlt
       · cases hy : Dr.escEnd (l.drop (Dr.wd l)) with
         | none => rw [hy] at h; cases h
         | some y =>
           rw [hy] at h;simp only [Option.map_some,Option.some.injEq] at h;have := Dr.escEnd_lt n _ (by omega) y hy;rw [← h];show y.2.length < _;omega
def Dr.esc (l : List UInt8) : Option (Int × List UInt8) :=
 match Dr.escEnd l with
 | none => none
 | some x => (Dr.hex x.1).map fun c => (c,x.2)
theorem Dr.esc_lt {l r : List UInt8} {c : Int} (h : Dr.esc l = some (c,r)) : r.length < l.length := by
 unfold Dr.esc at h;split at h
 · cases h
 · rename_i x hx;have := Dr.escEnd_lt _ l (Nat.le_refl _) x hx;cases hh : Dr.hex x.1 with
   | none => rw [hh] at h; cases h
   | some d =>
     rw [hh] at h;simp only [Option.map_some,Option.some.injEq,Prod.mk.injEq] at h;rw [← h.2];exact this
def Dr.unesc (c : Int) : Option UInt8 :=
 if c = 97 then some 7 else if c = 98 then some 8 else if c = 116 then some 9 else if c = 110 then some 10 else if c = 118 then some 11 else if c = 102 then some 12 else if c = 114 then some 13
 else if c = 34 then some 34 else if c = 92 then some 92 else none
def Dr.ret (l : List UInt8) : Option (List UInt8) := if l = [] then some l else if Dr.bad l = true then none else if (decide (Dr.cp l = 10) || decide (Dr.cp l = 133)) = true then some (l.drop (Dr.wd l)) else some l
theorem Dr.ret_le {l r : List UInt8} (h : Dr.ret l = some r) : r.length ≤ l.length := by
 unfold Dr.ret at h;split at h
 · simp only [Option.some.injEq] at h; rw [h]; exact Nat.le_refl _
 · split at h
   · cases h
   · split at h
     · simp only [Option.some.injEq] at h; rw [← h,List.length_drop]; omega
     · simp only [Option.some.injEq] at h; rw [h]; exact Nat.le_refl _
inductive Dr.Step where
 | no
 | stop (r : List UInt8)
 | go (b r : List UInt8)
def Dr.txt1 (l : List UInt8) : Dr.Step :=
 match Dr.next l with
 | none => .no
 | some (c,r) =>
   if c = 34 then .stop r
   else if c = 92 then
    (match Dr.next r with
    | none => .no
    | some (c2,r2) =>
      if c2 = 120 then (match Dr.esc r2 with | none => .no | some (d,r3) => .go (Lib.encodeRune d) r3)
      else (match Dr.unesc c2 with | none => .no | some b => .go [b] r2))
   else if c = 13 then (match Dr.ret r with | none => .no | some r2 => .go [10] r2)
   else if (decide (c = 133) || decide (c = 8232)) = true then .go [10] r
   else .go (Lib.encodeRune c) r
theorem Dr.txt1_lt {l b r : List UInt8} (h : Dr.txt1 l = .go b r) : r.length < l.length := by
 unfold Dr.txt1 at h;split at h
 · cases h
 · rename_i c r1 h1;have q1 := Dr.next_lt h1;split at h
   · cases h
   · split at h
     · split at h
       · cases h
       · rename_i c2 r2 h2;have q2 := Dr.next_lt h2;split at h
         · split at h
           · cases h
           · rename_i d r3 h3;have q3 := Dr.esc_lt h3;simp only [Dr.Step.go.injEq] at h;rw [← h.2]; omega
         · split at h
           · cases h
           · simp only [Dr.Step.go.injEq] at h;rw [← h.2]; omega
     · split at h
       · split at h
         · cases h
         · rename_i r2 h2;have q2 := Dr.ret_le h2;simp only [Dr.Step.go.injEq] at h;rw [← h.2]; omega
       · split at h <;> (simp only [Dr.Step.go.injEq] at h; rw [← h.2]; omega)
def Dr.text (l : List UInt8) : Option (List UInt8 × List UInt8) :=
 match h : Dr.txt1 l with
 | .no => none
 | .stop r => some ([],r)
 | .go b r => (Dr.text r).map fun x => (b ++ x.1,x.2)
termination_by l.length
decreasing_by exact Dr.txt1_lt h
def Dr.named (name : List UInt8) : Option Int := ((List.range 128).find? fun (n : Nat) => decide (Wt.name ((n : Nat) : Int) = name)).map fun (n : Nat) => ((n : Nat) : Int)
def Dr.char (l : List UInt8) : Option (Int × List UInt8) :=
 match Dr.next l with
 | none => none
 | some (c,r) =>
   if Dr.delim c = true then (if r = [] then some (c,r) else if Dr.bad r = true then none else if Dr.delim (Dr.cp r) = true then some (c,r) else none)
   else
    match Dr.token r with
    | none => none
    | some r2 =>
      if Dr.upto r r2 = [] then some (c,r2)
      else if Lib.encodeRune c ++ Dr.upto r r2 = [108,105,110,101,102,101,101,100] then some (10,r2)
      else match Dr.named (Lib.encodeRune c ++ Dr.upto r r2) with
       | some n => some (n,r2)
       | none => if c = 120 then (Dr.hex (Dr.upto r r2)).map fun n => (n,r2) else none
def Dr.sym1 (first : Bool) (l : List UInt8) : Option (List UInt8 × List UInt8) :=
 match Dr.next l with
 | none => none
 | some (c,r) =>
   if c = 92 then
    (match Dr.next r with
    | none => none
    | some (c2,r2) => if c2 = 120 then (match Dr.esc r2 with | none => none | some (d,r3) => some (Lib.encodeRune d,r3)) else none)
   else if ((first && !Wt.firstB c) || !Wt.restB c) = true then none else some (Lib.encodeRune c,r)
theorem Dr.sym1_lt {first : Bool} {l b r : List UInt8} (h : Dr.sym1 first l = some (b,r)) : r.length < l.length := by
 unfold Dr.sym1 at h;split at h
 · cases h
 · rename_i c r1 h1;have q1 := Dr.next_lt h1;split at h
   · split at h
     · cases h
     · rename_i c2 r2 h2;have q2 := Dr.next_lt h2;split at h
       · split at h
         · cases h
         · rename_i d r3 h3;have q3 := Dr.esc_lt h3;simp only [Option.some.injEq,Prod.mk.injEq] at h;rw [← h.2]; omega
       · cases h
   · split at h
     · cases h
     · simp only [Option.some.injEq,Prod.mk.injEq] at h;rw [← h.2]; omega
def Dr.syms (first : Bool) (l : List UInt8) : Option (List UInt8) :=
 if l = [] ∧ first = false then some [] else
 match h : Dr.sym1 first l with
 | none => none
 | some x => (Dr.syms false x.2).map fun y => x.1 ++ y
termination_by l.length
decreasing_by exact Dr.sym1_lt (b := x.1) h
def Dr.symbol (t : List UInt8) : Option (List UInt8) := if t.take 2 = [45,62] then (Dr.syms false (t.drop 2)).map fun y => [45,62] ++ y else Dr.syms true t
def Dr.val (b : UInt8) : Nat := if 48 ≤ b.toNat ∧ b.toNat ≤ 57 then b.toNat - 48 else if 97 ≤ b.toNat ∧ b.toNat ≤ 122 then b.toNat - 87 else if 65 ≤ b.toNat ∧ b.toNat ≤ 90 then b.toNat - 55 else 99
def Dr.natV (rx : Nat) (ds : List UInt8) : Nat := ds.foldl (fun n b => n * rx + Dr.val b) 0
def Dr.natR (rx : Nat) (ds : List UInt8) : Option Nat := if 16384 < ds.length then none else if 512 < (Nt.dig (Dr.natV rx ds)).length then none else some (Dr.natV rx ds)
def Dr.isDig (rx : Nat) (b : UInt8) : Bool := decide (Dr.val b < rx)
def Dr.digs (rx : Nat) (s : List UInt8) (w : Int) : Option (Nat × List UInt8 × Int) :=
 if s.takeWhile (Dr.isDig rx) = [] then none else
 match Dr.natR rx (s.takeWhile (Dr.isDig rx)) with
 | some v => some (v,s.dropWhile (Dr.isDig rx),w)
 | none => some (0,s.dropWhile (Dr.isDig rx),4)
abbrev Dr.Fr := Bool × Nat × Nat
def Dr.ratS (neg : Bool) (t b : Nat) : Dr.Fr := (neg && decide (0 < t / Nat.gcd t b),t / Nat.gcd t b,b / Nat.gcd t b)
def Dr.whole (neg : Bool) (t : Nat) : Dr.Fr := (neg && decide (0 < t),t,1)
def Dr.frac (rx : Nat) (neg : Bool) (s : List UInt8) (w : Int) : Option (Dr.Fr × List UInt8 × Int) :=
 match Dr.digs rx s w with
 | none => none
 | some (t,s1,w1) =>
   match s1 with
   | 47 :: s2 =>
     (match Dr.digs rx s2 w1 with
     | none => none
     | some (b,s3,w2) => if b = 0 then some (Dr.whole neg t,s3,if w2 = 0 then 3 else w2) else some (Dr.ratS neg t b,s3,w2))
   | _ => some (Dr.whole neg t,s1,w1)
def Dr.sign : List UInt8 → Bool × Bool × List UInt8
 | 43 :: r => (false,true,r)
 | 45 :: r => (true,true,r)
 | l => (false,false,l)
def Dr.unit (l : List UInt8) : Bool := decide (l = [105]) || decide (l = [73])
def Dr.number (rx : Nat) (s : List UInt8) : Option (Dr.Fr × Dr.Fr × Int) :=
 let a := Dr.sign s
 if (a.2.1 && Dr.unit a.2.2) = true then some (Dr.whole false 0,Dr.whole a.1 1,0) else
 match Dr.frac rx a.1 a.2.2 0 with
 | none => none
 | some (re,s2,w) =>
   if s2 = [] then some (re,Dr.whole false 0,w)
   else if (a.2.1 && Dr.unit s2) = true then some (Dr.whole false 0,re,w)
   else
    let b := Dr.sign s2
    if b.2.1 = false then none
    else if Dr.unit b.2.2 = true then some (re,Dr.whole b.1 1,w)
    else match Dr.frac rx b.1 b.2.2 w with
     | none => none
     | some (im,s4,w4) => if Dr.unit s4 = true then some (re,im,w4) else none
def Dr.radix (c : UInt8) : Nat := if c = 98 then 2 else if c = 111 then 8 else if c = 100 then 10 else if c = 120 then 16 else 0
def Dr.pre (rx : Nat) (rs ex : Bool) : List UInt8 → Option (Nat × List UInt8)
 | 35 :: c :: r =>
   if (decide (c ||| 32 = 101) && !ex) = true then Dr.pre rx rs true r
   else if (decide (0 < Dr.radix (c ||| 32)) && !rs) = true then Dr.pre (Dr.radix (c ||| 32)) true ex r
   else none
 | [35] => none
 | l => some (rx,l)
inductive Dr.Num where
 | ok (re im : Dr.Fr)
 | err (e : Int)
def Dr.num (t : List UInt8) : Dr.Num :=
 match Dr.pre 10 false false t with
 | none => .err 5
 | some (rx,s) =>
   match Dr.number rx s with
   | none => .err 5
   | some (re,im,w) => if 16384 < t.length then .err 4 else if w ≠ 0 then .err w else .ok re im
def Dr.leaf (k n : Int) (x : List UInt8) : Tr := .mk ⟨k,n,false,[],[],false,[],[],⟨x.toArray⟩,⟨#[]⟩⟩ []
def Dr.nil : Tr := Dr.leaf 1 0 []
def Dr.numT (re im : Dr.Fr) : Tr := .mk ⟨3,0,re.1,Nt.dig re.2.1,Nt.dig re.2.2,im.1,Nt.dig im.2.1,Nt.dig im.2.2,⟨#[]⟩,⟨#[]⟩⟩ []
def Dr.bytesT (b : List UInt8) : Tr := .mk ⟨7,0,false,[],[],false,[],[],⟨#[]⟩,⟨b.toArray⟩⟩ []
def Dr.vec (l : List Tr) : Tr := .mk ⟨9,0,false,[],[],false,[],[],⟨#[]⟩,⟨#[]⟩⟩ l
def Dr.cons (a r : Tr) : Tr := .mk ⟨8,0,false,[],[],false,[],[],⟨#[]⟩,⟨#[]⟩⟩ [a,r]
def Dr.listT (l : List Tr) (last : Tr) : Tr := l.foldr Dr.cons last
def Dr.atom (t : List UInt8) : Option (Tr × Bool) :=
 if t = [35,116] ∨ t = [35,84] then some (Dr.leaf 2 1 [],false)
 else if t = [35,102] ∨ t = [35,70] then some (Dr.leaf 2 0 [],false)
 else if t = [43] ∨ t = [45] ∨ t = [46,46,46] then some (Dr.leaf 6 0 t,false)
 else match Dr.num t with
  | .ok re im => some (Dr.numT re im,false)
  | .err e => if e = 4 then some (Dr.leaf 10 0 [],true) else if e = 3 then none else (Dr.symbol t).map fun x => (Dr.leaf 6 0 x,false)
def Dr.byteOf : Tr → Option UInt8
 | .mk h _ => if h.k = 3 ∧ Nt.val h.t2 = 0 ∧ Nt.val h.b1 = 1 ∧ Nt.val h.t1 ≤ 255 ∧ (h.s1 = true → Nt.val h.t1 = 0) then some (UInt8.ofNat (Nt.val h.t1)) else none
def Dr.bytesOf : List Tr → Option (List UInt8)
 | [] => some []
 | t :: ts => match Dr.byteOf t with | none => none | some b => (Dr.bytesOf ts).map fun x => b :: x
inductive Dr.Job where
 | blanks (l : List UInt8)
 | datum (l : List UInt8)
 | items (e : Int) (l : List UInt8)
 | pairs (e : Int) (fresh : Bool) (l : List UInt8)
inductive Dr.Res where
 | fault
 | skip (l : List UInt8)
 | got (t : Tr) (l : List UInt8) (big : Bool)
 | list (ts : List Tr) (l : List UInt8) (big : Bool)
 | lst (ts : List Tr) (last : Tr) (l : List UInt8) (big : Bool)
def Dr.close (c : Int) : Int := if c = 40 then 41 else 93
inductive Dr.Bk where
 | fault | stop
 | go (l : List UInt8)
 | datum (l : List UInt8)
def Dr.bk (l : List UInt8) : Dr.Bk :=
 if l = [] then .stop else if Dr.bad l = true then .fault
 else if Ch.blankB (Dr.cp l) = true then .go (l.drop (Dr.wd l))
 else if Dr.cp l = 59 then (match Dr.line l with | none => .fault | some r => .go r)
 else if l.take 2 = [35,59] then .datum (l.drop 2)
 else if l.take 2 = [35,124] then (match Dr.remark 0 l with | none => .fault | some r => .go r)
 else .stop
inductive Dr.Dk where
 | fault
 | done (t : Tr) (l : List UInt8) (big : Bool)
 | pairs (e : Int) (l : List UInt8)
 | quote (l : List UInt8)
 | vec (l : List UInt8)
 | bytes (l : List UInt8)
def Dr.dk (l : List UInt8) : Dr.Dk :=
 if l = [] then .fault else if Dr.bad l = true then .fault
 else if Dr.cp l = 40 ∨ Dr.cp l = 91 then .pairs (Dr.close (Dr.cp l)) (l.drop (Dr.wd l))
 else if Dr.cp l = 34 then (match Dr.text (l.drop (Dr.wd l)) with | none => .fault | some x => .done (Dr.leaf 5 0 x.1) x.2 false)
 else if Dr.cp l = 39 then .quote (l.drop (Dr.wd l))
 else if l.take 2 = [35,40] then .vec (l.drop 2)
 else if l.take 5 = [35,118,117,56,40] then .bytes (l.drop 5)
 else if l.take 2 = [35,92] then (match Dr.char (l.drop 2) with | none => .fault | some x => .done (Dr.leaf 4 x.1 []) x.2 false)
 else match Dr.token l with
  | none => .fault
  | some r => (match Dr.atom (Dr.upto l r) with | none => .fault | some x => .done x.1 r x.2)
inductive Dr.Pk where
 | fault | stop (l : List UInt8) | dot (l : List UInt8) | item
def Dr.pk (e : Int) (fresh : Bool) (l : List UInt8) : Dr.Pk :=
 if l = [] then .item else if Dr.bad l = true then .fault
 else if Dr.cp l = e then .stop (l.drop (Dr.wd l))
 else if (decide (Dr.cp l = 46) && !fresh) = true then (match Dr.token l with | none => .fault | some r => if Dr.upto l r = [46] then .dot r else .item)
 else .item
inductive Dr.Rel : Dr.Job → Dr.Res → Prop where
 | bFault {l} (h : Dr.bk l = .fault) : Dr.Rel (.blanks l) .fault
 | bStop {l} (h : Dr.bk l = .stop) : Dr.Rel (.blanks l) (.skip l)
 | bGo {l r R} (h : Dr.bk l = .go r) (h2 : Dr.Rel (.blanks r) R) : Dr.Rel (.blanks l) R
 | bDat1 {l r} (h : Dr.bk l = .datum r) (h2 : Dr.Rel (.blanks r) .fault) : Dr.Rel (.blanks l) .fault
 | bDat2 {l r r1} (h : Dr.bk l = .datum r) (h2 : Dr.Rel (.blanks r) (.skip r1)) (h3 : Dr.Rel (.datum r1) .fault) : Dr.Rel (.blanks l) .fault
 | bDat3 {l r r1 t r2 big R} (h : Dr.bk l = .datum r) (h2 : Dr.Rel (.blanks r) (.skip r1)) (h3 : Dr.Rel (.datum r1) (.got t r2 big)) (h4 : Dr.Rel (.blanks r2) R) : Dr.Rel (.blanks l) R
 | dFault {l} (h : Dr.dk l = .fault) : Dr.Rel (.datum l) .fault
 | dDone {l t r big} (h : Dr.dk l = .done t r big) : Dr.Rel (.datum l) (.got t r big)
 | dPairs1 {l e r} (h : Dr.dk l = .pairs e r) (h2 : Dr.Rel (.pairs e true r) .fault) : Dr.Rel (.datum l) .fault
 | dPairs2 {l e r ts last r2 big} (h : Dr.dk l = .pairs e r) (h2 : Dr.Rel (.pairs e true r) (.lst ts last r2 big)) : Dr.Rel (.datum l) (.got (Dr.listT ts last) r2 big)
 | dQuote1 {l r} (h : Dr.dk l = .quote r) (h2 : Dr.Rel (.blanks r) .fault) : Dr.Rel (.datum l) .fault
 | dQuote2 {l r r1} (h : Dr.dk l = .quote r) (h2 : Dr.Rel (.blanks r) (.skip r1)) (h3 : Dr.Rel (.datum r1) .fault) : Dr.Rel (.datum l) .fault
 | dQuote3 {l r r1 t r2 big} (h : Dr.dk l = .quote r) (h2 : Dr.Rel (.blanks r) (.skip r1)) (h3 : Dr.Rel (.datum r1) (.got t r2 big)) : Dr.Rel (.datum l) (.got (Dr.listT [Dr.leaf 6 0 [113,117,111,116,101],t] Dr.nil) r2 big)
 | dVec1 {l r} (h : Dr.dk l = .vec r) (h2 : Dr.Rel (.items 41 r) .fault) : Dr.Rel (.datum l) .fault
 | dVec2 {l r ts r2 big} (h : Dr.dk l = .vec r) (h2 : Dr.Rel (.items 41 r) (.list ts r2 big)) : Dr.Rel (.datum l) (.got (Dr.vec ts) r2 big)
 | dByt1 {l r} (h : Dr.dk l = .bytes r) (h2 : Dr.Rel (.items 41 r) .fault) : Dr.Rel (.datum l) .fault
 | dByt2 {l r ts r2 big} (h : Dr.dk l = .bytes r) (h2 : Dr.Rel (.items 41 r) (.list ts r2 big)) (h3 : Dr.bytesOf ts = none) : Dr.Rel (.datum l) .fault
 | dByt3 {l r ts r2 big b} (h : Dr.dk l = .bytes r) (h2 : Dr.Rel (.items 41 r) (.list ts r2 big)) (h3 : Dr.bytesOf ts = some b) : Dr.Rel (.datum l) (.got (Dr.bytesT b) r2 big)
 | iFault1 {e l} (h : Dr.Rel (.blanks l) .fault) : Dr.Rel (.items e l) .fault
 | iFault2 {e l r} (h : Dr.Rel (.blanks l) (.skip r)) (h2 : Dr.pk e true r = .fault) : Dr.Rel (.items e l) .fault
 | iStop {e l r r2} (h : Dr.Rel (.blanks l) (.skip r)) (h2 : Dr.pk e true r = .stop r2) : Dr.Rel (.items e l) (.list [] r2 false)
 | iItem1 {e l r} (h : Dr.Rel (.blanks l) (.skip r)) (h2 : Dr.pk e true r = .item) (h3 : Dr.Rel (.datum r) .fault) : Dr.Rel (.items e l) .fault
 | iItem2 {e l r t r2 big} (h : Dr.Rel (.blanks l) (.skip r)) (h2 : Dr.pk e true r = .item) (h3 : Dr.Rel (.datum r) (.got t r2 big)) (h4 : Dr.Rel (.items e r2) .fault) : Dr.Rel (.items e l) .fault
 | iItem3 {e l r t r2 big ts r3 big2} (h : Dr.Rel (.blanks l) (.skip r)) (h2 : Dr.pk e true r = .item) (h3 : Dr.Rel (.datum r) (.got t r2 big)) (h4 : Dr.Rel (.items e r2) (.list ts r3 big2)) : Dr.Rel (.items e l) (.list (t :: ts) r3 (big || big2))
 | pFault1 {e f l} (h : Dr.Rel (.blanks l) .fault) : Dr.Rel (.pairs e f l) .fault
 | pFault2 {e f l r} (h : Dr.Rel (.blanks l) (.skip r)) (h2 : Dr.pk e f r = .fault) : Dr.Rel (.pairs e f l) .fault
 | pStop {e f l r r2} (h : Dr.Rel (.blanks l) (.skip r)) (h2 : Dr.pk e f r = .stop r2) : Dr.Rel (.pairs e f l) (.lst [] Dr.nil r2 false)
 | pDot1 {e f l r r2} (h : Dr.Rel (.blanks l) (.skip r)) (h2 : Dr.pk e f r = .dot r2) (h3 : Dr.Rel (.blanks r2) .fault) : Dr.Rel (.pairs e f l) .fault
 | pDot2 {e f l r r2 r3} (h : Dr.Rel (.blanks l) (.skip r)) (h2 : Dr.pk e f r = .dot r2) (h3 : Dr.Rel (.blanks r2) (.skip r3)) (h4 : Dr.Rel (.datum r3) .fault) : Dr.Rel (.pairs e f l) .fault
 | pDot3 {e f l r r2 r3 t r4 big} (h : Dr.Rel (.blanks l) (.skip r)) (h2 : Dr.pk e f r = .dot r2) (h3 : Dr.Rel (.blanks r2) (.skip r3)) (h4 : Dr.Rel (.datum r3) (.got t r4 big)) (h5 : Dr.Rel (.blanks r4) .fault) : Dr.Rel (.pairs e f l) .fault
 | pDot4 {e f l r r2 r3 t r4 big r5} (h : Dr.Rel (.blanks l) (.skip r)) (h2 : Dr.pk e f r = .dot r2) (h3 : Dr.Rel (.blanks r2) (.skip r3)) (h4 : Dr.Rel (.datum r3) (.got t r4 big)) (h5 : Dr.Rel (.blanks r4) (.skip r5)) (h6 : ∀ r6,Dr.pk e true r5 ≠ .stop r6) : Dr.Rel (.pairs e f l) .fault
 | pDot5 {e f l r r2 r3 t r4 big r5 r6} (h : Dr.Rel (.blanks l) (.skip r)) (h2 : Dr.pk e f r = .dot r2) (h3 : Dr.Rel (.blanks r2) (.skip r3)) (h4 : Dr.Rel (.datum r3) (.got t r4 big)) (h5 : Dr.Rel (.blanks r4) (.skip r5)) (h6 : Dr.pk e true r5 = .stop r6) : Dr.Rel (.pairs e f l) (.lst [] t r6 big)
 | pItem1 {e f l r} (h : Dr.Rel (.blanks l) (.skip r)) (h2 : Dr.pk e f r = .item) (h3 : Dr.Rel (.datum r) .fault) : Dr.Rel (.pairs e f l) .fault
 | pItem2 {e f l r t r2 big} (h : Dr.Rel (.blanks l) (.skip r)) (h2 : Dr.pk e f r = .item) (h3 : Dr.Rel (.datum r) (.got t r2 big)) (h4 : Dr.Rel (.pairs e false r2) .fault) : Dr.Rel (.pairs e f l) .fault
 | pItem3 {e f l r t r2 big ts last r3 big2} (h : Dr.Rel (.blanks l) (.skip r)) (h2 : Dr.pk e f r = .item) (h3 : Dr.Rel (.datum r) (.got t r2 big)) (h4 : Dr.Rel (.pairs e false r2) (.lst ts last r3 big2)) : Dr.Rel (.pairs e f l) (.lst (t :: ts) last r3 (big || big2))
theorem Dr.Rel.det {j : Dr.Job} {R : Dr.Res} (h : Dr.Rel j R) : ∀ {R' : Dr.Res},Dr.Rel j R' → R = R' := by
 induction h <;> intro R' k <;> cases k <;> first
  | rfl
  | (simp_all; done)
  | (rename_i a b; grind)
  | grind
theorem Dr.line_le : ∀ (n : Nat) (l : List UInt8),l.length ≤ n → ∀ r,Dr.line l = some r → r.length ≤ l.length
 | n,l,hl,r,h => by
   rw [Dr.line] at h;split at h
   · simp only [Option.some.injEq] at h; rw [h]; exact Nat.le_refl _
   · rename_i hne;split at h
     · cases h
     · split at h
       · simp only [Option.some.injEq] at h; rw [h]; exact Nat.le_refl _
       · have hlt := Dr.drop_lt hne;cases n with
         | zero => exact absurd (List.length_eq_zero_iff.1 (Nat.le_zero.1 hl)) hne
         | succ n =>
           have := Dr.line_le n _ (by omega) r h;omega
theorem Dr.remark_lt : ∀ (n d : Nat) (l : List UInt8),l.length ≤ n → ∀ r,Dr.remark d l = some r → r.length < l.length
 | n,d,l,hl,r,h => by
   rw [Dr.remark] at h;have two : ∀ {a b : UInt8},l.take 2 = [a,b] → 2 ≤ l.length := fun e => by
    have := congrArg List.length e;simp at this;omega
   split at h
   · rename_i h1;have h2 := two h1;cases n with
     | zero => omega
     | succ n =>
       have := Dr.remark_lt n (d + 1) (l.drop 2) (by rw [List.length_drop]; omega) r h;rw [List.length_drop] at this;omega
   · split at h
     · rename_i h1;have h2 := two h1;split at h
       · simp only [Option.some.injEq] at h;rw [← h,List.length_drop];omega
       · cases n with
         | zero => omega
         | succ n =>
           have := Dr.remark_lt n (d - 1) (l.drop 2) (by rw [List.length_drop]; omega) r h;rw [List.length_drop] at this;omega
     · split at h
       · cases h
       · rename_i hne;have hlt := Dr.drop_lt hne;split at h
         · cases h
         · cases n with
           | zero => exact absurd (List.length_eq_zero_iff.1 (Nat.le_zero.1 hl)) hne
           | succ n =>
             have := Dr.remark_lt n d _ (by omega) r h;omega
theorem Dr.token_le : ∀ (n : Nat) (l : List UInt8),l.length ≤ n → ∀ r,Dr.token l = some r → r.length ≤ l.length
 | n,l,hl,r,h => by
   rw [Dr.token] at h;split at h
   · simp only [Option.some.injEq] at h; rw [h]; exact Nat.le_refl _
   · rename_i hne;have hlt := Dr.drop_lt hne;split at h
     · cases h
     · split at h
       · simp only [Option.some.injEq] at h; rw [h]; exact Nat.le_refl _
       · cases n with
         | zero => exact absurd (List.length_eq_zero_iff.1 (Nat.le_zero.1 hl)) hne
         | succ n =>
           split at h
           · split at h
             · cases h
             · rename_i r2 h2;have q := Dr.digits_lt h2;have := Dr.token_le n r2 (by omega) r h;omega
           · have := Dr.token_le n _ (by omega) r h;omega
theorem Dr.text_lt : ∀ (n : Nat) (l : List UInt8),l.length ≤ n → ∀ x,Dr.text l = some x → x.2.length < l.length
 | n,l,hl,x,h => by
   rw [Dr.text] at h;split at h
   · cases h
   · rename_i r hr;simp only [Option.some.injEq] at h;rw [← h];show r.length < l.length;unfold Dr.txt1 at hr;split at hr
     · cases hr
     · rename_i c r1 h1;have q1 := Dr.next_lt h1;split at hr
       · simp only [Dr.Step.stop.injEq] at hr;rw [← hr]; exact q1
       · split at hr
         · split at hr
           · cases hr
           · split at hr
             · split at hr <;> cases hr
             · split at hr <;> cases hr
         · split at hr
           · split at hr <;> cases hr
           · split at hr <;> cases hr
   · rename_i b r hr;have q := Dr.txt1_lt hr;cases n with
     | zero => omega
     | succ n =>
       cases hy : Dr.text r with
       | none => rw [hy] at h; cases h
       | some y =>
         rw [hy] at h;simp only [Option.map_some,Option.some.injEq] at h;have := Dr.text_lt n r (by omega) y hy;rw [← h];show y.2.length < _;omega
theorem Dr.char_lt {l : List UInt8} {x : Int × List UInt8} (h : Dr.char l = some x) : x.2.length < l.length := by
 unfold Dr.char at h;split at h
 · cases h
 · rename_i c r h1;have q1 := Dr.next_lt h1;split at h
   · split at h
     · simp only [Option.some.injEq] at h; rw [← h]; exact q1
     · split at h
       · cases h
       · split at h
         · simp only [Option.some.injEq] at h; rw [← h]; exact q1
         · cases h
   · split at h
     · cases h
     · rename_i r2 h2;have q2 := Dr.token_le _ r (Nat.le_refl _) r2 h2;split at h
       · simp only [Option.some.injEq] at h; rw [← h]; show r2.length < _; omega
       · split at h
         · simp only [Option.some.injEq] at h; rw [← h]; show r2.length < _; omega
         · split at h
           · simp only [Option.some.injEq] at h; rw [← h]; show r2.length < _; omega
           · split at h
             · cases hh : Dr.hex (Dr.upto r r2) with
               | none => rw [hh] at h; cases h
               | some m =>
                 rw [hh] at h;simp only [Option.map_some,Option.some.injEq] at h;rw [← h]; show r2.length < _; omega
             · cases h
theorem Dr.atom_nil : Dr.atom [] = none := by
 have h1 : Dr.num [] = .err 5 := rfl;have h2 : Dr.symbol [] = none := by
  unfold Dr.symbol;rw [if_neg (by decide),Dr.syms];simp only [Dr.sym1,Dr.next];simp
 unfold Dr.atom;rw [h1,h2];simp
theorem Dr.upto_lt {l r : List UInt8} (h : r.length ≤ l.length) (hne : Dr.upto l r ≠ []) : r.length < l.length := by
 rcases Nat.lt_or_ge r.length l.length with h1 | h1
 · exact h1
 · exact absurd (by unfold Dr.upto; rw [show l.length - r.length = 0 by omega,List.take_zero]) hne
theorem Dr.take_two {l : List UInt8} {a b : UInt8} (h : l.take 2 = [a,b]) : 2 ≤ l.length := by
 have := congrArg List.length h;simp at this;omega
theorem Dr.bk_go {l r : List UInt8} (h : Dr.bk l = .go r) : r.length < l.length := by
 unfold Dr.bk at h;split at h
 · cases h
 · rename_i hne;have hlt := Dr.drop_lt hne;split at h
   · cases h
   · rename_i hb;split at h
     · simp only [Dr.Bk.go.injEq] at h; rw [← h]; exact hlt
     · split at h
       · rename_i h59;split at h
         · cases h
         · rename_i r2 h2;simp only [Dr.Bk.go.injEq] at h;rw [Dr.line,dif_neg hne,if_neg hb,if_neg (by rw [h59]; decide)] at h2;have := Dr.line_le _ _ (Nat.le_refl _) r2 h2;rw [← h]; omega
       · split at h
         · cases h
         · split at h
           · split at h
             · cases h
             · rename_i r2 h2;simp only [Dr.Bk.go.injEq] at h;rw [← h];exact Dr.remark_lt _ 0 l (Nat.le_refl _) r2 h2
           · cases h
theorem Dr.bk_datum {l r : List UInt8} (h : Dr.bk l = .datum r) : r.length < l.length := by
 unfold Dr.bk at h;split at h
 · cases h
 · split at h
   · cases h
   · split at h
     · cases h
     · split at h
       · split at h <;> cases h
       · split at h
         · rename_i h2;simp only [Dr.Bk.datum.injEq] at h;have := Dr.take_two h2;rw [← h,List.length_drop]; omega
         · split at h
           · split at h <;> cases h
           · cases h
def Dr.Dk.less (n : Nat) : Dr.Dk → Prop
 | .fault => True
 | .done _ r _ => r.length < n
 | .pairs _ r => r.length < n
 | .quote r => r.length < n
 | .vec r => r.length < n
 | .bytes r => r.length < n
theorem Dr.dk_less (l : List UInt8) : (Dr.dk l).less l.length := by
 unfold Dr.dk;split
 · trivial
 · rename_i hne;have hlt := Dr.drop_lt hne;split
   · trivial
   · split
     · exact hlt
     · split
       · split
         · trivial
         · rename_i x hx2;have := Dr.text_lt _ _ (Nat.le_refl _) x hx2;show x.2.length < _;omega
       · split
         · exact hlt
         · split
           · rename_i h2;have := Dr.take_two h2;show (l.drop 2).length < _;rw [List.length_drop]; omega
           · split
             · rename_i h2;have := congrArg List.length h2;show (l.drop 5).length < _;simp at this;rw [List.length_drop]; omega
             · split
               · rename_i h2;have h3 := Dr.take_two h2;split
                 · trivial
                 · rename_i x hx2;have := Dr.char_lt hx2;rw [List.length_drop] at this;show x.2.length < _;omega
               · split
                 · trivial
                 · rename_i r2 h2;split
                   · trivial
                   · rename_i x hx2;have := Dr.token_le _ _ (Nat.le_refl _) r2 h2;exact Dr.upto_lt this (fun e => by rw [e,Dr.atom_nil] at hx2; cases hx2)
def Dr.Pk.less (n : Nat) : Dr.Pk → Prop
 | .stop r => r.length < n
 | .dot r => r.length < n
 | _ => True
theorem Dr.pk_less (e : Int) (f : Bool) (l : List UInt8) : (Dr.pk e f l).less l.length := by
 unfold Dr.pk;split
 · trivial
 · rename_i hne;have hlt := Dr.drop_lt hne;split
   · trivial
   · split
     · exact hlt
     · split
       · split
         · trivial
         · rename_i r2 h2;have := Dr.token_le _ _ (Nat.le_refl _) r2 h2;split
           · rename_i h46;exact Dr.upto_lt this (by rw [h46]; simp)
           · trivial
       · trivial
def Dr.Res.less (j : Dr.Job) : Dr.Res → Prop
 | .fault => True
 | .skip r => match j with | .blanks l => r.length ≤ l.length | _ => False
 | .got _ r _ => match j with | .datum l => r.length < l.length | _ => False
 | .list _ r _ => match j with | .items _ l => r.length < l.length | _ => False
 | .lst _ _ r _ => match j with | .pairs _ _ l => r.length < l.length | _ => False
theorem Dr.Rel.less {j : Dr.Job} {R : Dr.Res} (h : Dr.Rel j R) : R.less j := by
 induction h with
 | bFault => trivial
 | bStop => exact Nat.le_refl _
 | @bGo l r R h h2 ih =>
   have := Dr.bk_go h;cases R with
   | fault => trivial
   | skip r2 => exact Nat.le_trans ih (Nat.le_of_lt this)
   | got => exact ih
   | list => exact ih
   | lst => exact ih
 | bDat1 => trivial
 | bDat2 => trivial
 | @bDat3 l r r1 t r2 big R h h2 h3 h4 i2 i3 i4 =>
   have := Dr.bk_datum h;have i2 : r1.length ≤ r.length := i2;have i3 : r2.length < r1.length := i3;cases R with
   | fault => trivial
   | skip r3 => have i4 : r3.length ≤ r2.length := i4; show r3.length ≤ l.length; omega
   | got => exact i4
   | list => exact i4
   | lst => exact i4
 | dFault => trivial
 | @dDone l t r big h => have := Dr.dk_less l; rw [h] at this; exact this
 | dPairs1 => trivial
 | @dPairs2 l e r ts last r2 big h h2 i2 => have := Dr.dk_less l; rw [h] at this; exact Nat.lt_trans i2 this
 | dQuote1 => trivial
 | dQuote2 => trivial
 | @dQuote3 l r r1 t r2 big h h2 h3 i2 i3 =>
   have := Dr.dk_less l; rw [h] at this;have this : r.length < l.length := this;have i2 : r1.length ≤ r.length := i2;have i3 : r2.length < r1.length := i3;show r2.length < l.length;omega
 | dVec1 => trivial
 | @dVec2 l r ts r2 big h h2 i2 => have := Dr.dk_less l; rw [h] at this; exact Nat.lt_trans i2 this
 | dByt1 => trivial
 | dByt2 => trivial
 | @dByt3 l r ts r2 big b h h2 h3 i2 => have := Dr.dk_less l; rw [h] at this; exact Nat.lt_trans i2 this
 | iFault1 => trivial
 | iFault2 => trivial
 | @iStop e l r r2 h h2 i1 =>
   have := Dr.pk_less e true r; rw [h2] at this;exact Nat.lt_of_lt_of_le this i1
 | iItem1 => trivial
 | iItem2 => trivial
 | @iItem3 e l r t r2 big ts r3 big2 h h2 h3 h4 i1 i3 i4 =>
   have i1 : r.length ≤ l.length := i1;have i3 : r2.length < r.length := i3;have i4 : r3.length < r2.length := i4;show r3.length < l.length;omega
 | pFault1 => trivial
 | pFault2 => trivial
 | @pStop e f l r r2 h h2 i1 =>
   have := Dr.pk_less e f r; rw [h2] at this;exact Nat.lt_of_lt_of_le this i1
 | pDot1 => trivial
 | pDot2 => trivial
 | pDot3 => trivial
 | pDot4 => trivial
 | @pDot5 e f l r r2 r3 t r4 big r5 r6 h h2 h3 h4 h5 h6 i1 i3 i4 i5 =>
   have q1 := Dr.pk_less e f r; rw [h2] at q1;have q2 := Dr.pk_less e true r5; rw [h6] at q2;have q1 : r2.length < r.length := q1;have q2 : r6.length < r5.length := q2;have i1 : r.length ≤ l.length := i1;have i3 : r3.length ≤ r2.length := i3;have i4 : r4.length < r3.length := i4;have i5 : r5.length ≤ r4.length := i5;show r6.length < l.length;omega
 | pItem1 => trivial
 | pItem2 => trivial
 | @pItem3 e f l r t r2 big ts last r3 big2 h h2 h3 h4 i1 i3 i4 =>
   have i1 : r.length ≤ l.length := i1;have i3 : r2.length < r.length := i3;have i4 : r3.length < r2.length := i4;show r3.length < l.length;omega
def Dr.Job.len : Dr.Job → Nat
 | .blanks l => 2 * l.length
 | .datum l => 2 * l.length
 | .items _ l => 2 * l.length + 1
 | .pairs _ _ l => 2 * l.length + 1
theorem Dr.total_step (j : Dr.Job) (IH : ∀ j' : Dr.Job,j'.len < j.len → ∃ R,Dr.Rel j' R) : ∃ R,Dr.Rel j R := by
 have skp : ∀ l R,Dr.Rel (.blanks l) R → R = .fault ∨ ∃ r,R = .skip r ∧ r.length ≤ l.length := fun l R h => by
  have := h.less;cases R with
  | fault => exact .inl rfl
  | skip r => exact .inr ⟨r,rfl,this⟩
  | got => exact absurd this id
  | list => exact absurd this id
  | lst => exact absurd this id
 have gt : ∀ l R,Dr.Rel (.datum l) R → R = .fault ∨ ∃ t r b,R = .got t r b ∧ r.length < l.length := fun l R h => by
  have := h.less;cases R with
  | fault => exact .inl rfl
  | got t r b => exact .inr ⟨t,r,b,rfl,this⟩
  | skip => exact absurd this id
  | list => exact absurd this id
  | lst => exact absurd this id
 have it : ∀ e l R,Dr.Rel (.items e l) R → R = .fault ∨ ∃ ts r b,R = .list ts r b ∧ r.length < l.length := fun e l R h => by
  have := h.less;cases R with
  | fault => exact .inl rfl
  | list t r b => exact .inr ⟨t,r,b,rfl,this⟩
  | skip => exact absurd this id
  | got => exact absurd this id
  | lst => exact absurd this id
 have pr : ∀ e f l R,Dr.Rel (.pairs e f l) R → R = .fault ∨ ∃ ts last r b,R = .lst ts last r b ∧ r.length < l.length := fun e f l R h => by
  have := h.less;cases R with
  | fault => exact .inl rfl
  | lst t x r b => exact .inr ⟨t,x,r,b,rfl,this⟩
  | skip => exact absurd this id
  | got => exact absurd this id
  | list => exact absurd this id
 cases j with
 | blanks l =>
   cases hb : Dr.bk l with
   | fault => exact ⟨_,.bFault hb⟩
   | stop => exact ⟨_,.bStop hb⟩
   | go r =>
     have := Dr.bk_go hb;obtain ⟨R,hR⟩ := IH (.blanks r) (by simp only [Dr.Job.len]; omega);exact ⟨R,.bGo hb hR⟩
   | datum r =>
     have h0 := Dr.bk_datum hb;obtain ⟨R,hR⟩ := IH (.blanks r) (by simp only [Dr.Job.len]; omega);rcases skp _ _ hR with rfl | ⟨r1,rfl,h1⟩
     · exact ⟨_,.bDat1 hb hR⟩
     · obtain ⟨R2,hR2⟩ := IH (.datum r1) (by simp only [Dr.Job.len]; omega);rcases gt _ _ hR2 with rfl | ⟨t,r2,b,rfl,h2⟩
       · exact ⟨_,.bDat2 hb hR hR2⟩
       · obtain ⟨R3,hR3⟩ := IH (.blanks r2) (by simp only [Dr.Job.len]; omega);exact ⟨R3,.bDat3 hb hR hR2 hR3⟩
 | datum l =>
   have hd := Dr.dk_less l;cases hk : Dr.dk l with
   | fault => exact ⟨_,.dFault hk⟩
   | done t r b => exact ⟨_,.dDone hk⟩
   | pairs e r =>
     rw [hk] at hd;have hd : r.length < l.length := hd;obtain ⟨R,hR⟩ := IH (.pairs e true r) (by simp only [Dr.Job.len]; omega);rcases pr _ _ _ _ hR with rfl | ⟨ts,last,r2,b,rfl,_⟩
     · exact ⟨_,.dPairs1 hk hR⟩
     · exact ⟨_,.dPairs2 hk hR⟩
   | quote r =>
     rw [hk] at hd;have hd : r.length < l.length := hd;obtain ⟨R,hR⟩ := IH (.blanks r) (by simp only [Dr.Job.len]; omega);rcases skp _ _ hR with rfl | ⟨r1,rfl,h1⟩
     · exact ⟨_,.dQuote1 hk hR⟩
     · obtain ⟨R2,hR2⟩ := IH (.datum r1) (by simp only [Dr.Job.len]; omega);rcases gt _ _ hR2 with rfl | ⟨t,r2,b,rfl,h2⟩
       · exact ⟨_,.dQuote2 hk hR hR2⟩
       · exact ⟨_,.dQuote3 hk hR hR2⟩
   | vec r =>
     rw [hk] at hd;have hd : r.length < l.length := hd;obtain ⟨R,hR⟩ := IH (.items 41 r) (by simp only [Dr.Job.len]; omega);rcases it _ _ _ hR with rfl | ⟨ts,r2,b,rfl,_⟩
     · exact ⟨_,.dVec1 hk hR⟩
     · exact ⟨_,.dVec2 hk hR⟩
   | bytes r =>
     rw [hk] at hd;have hd : r.length < l.length := hd;obtain ⟨R,hR⟩ := IH (.items 41 r) (by simp only [Dr.Job.len]; omega);rcases it _ _ _ hR with rfl | ⟨ts,r2,b,rfl,_⟩
     · exact ⟨_,.dByt1 hk hR⟩
     · cases hb : Dr.bytesOf ts with
       | none => exact ⟨_,.dByt2 hk hR hb⟩
       | some x => exact ⟨_,.dByt3 hk hR hb⟩
 | items e l =>
   obtain ⟨R,hR⟩ := IH (.blanks l) (by simp only [Dr.Job.len]; omega);rcases skp _ _ hR with rfl | ⟨r,rfl,h1⟩
   · exact ⟨_,.iFault1 hR⟩
   · cases hk : Dr.pk e true r with
     | fault => exact ⟨_,.iFault2 hR hk⟩
     | stop r2 => exact ⟨_,.iStop hR hk⟩
     | dot r2 =>
       unfold Dr.pk at hk;simp only [Bool.not_true,Bool.and_false,Bool.false_eq_true,if_false] at hk;split at hk
       · cases hk
       · split at hk
         · cases hk
         · split at hk <;> cases hk
     | item =>
       obtain ⟨R2,hR2⟩ := IH (.datum r) (by simp only [Dr.Job.len]; omega);rcases gt _ _ hR2 with rfl | ⟨t,r2,b,rfl,h2⟩
       · exact ⟨_,.iItem1 hR hk hR2⟩
       · obtain ⟨R3,hR3⟩ := IH (.items e r2) (by simp only [Dr.Job.len]; omega);rcases it _ _ _ hR3 with rfl | ⟨ts,r3,b2,rfl,_⟩
         · exact ⟨_,.iItem2 hR hk hR2 hR3⟩
         · exact ⟨_,.iItem3 hR hk hR2 hR3⟩
 | pairs e f l =>
   obtain ⟨R,hR⟩ := IH (.blanks l) (by simp only [Dr.Job.len]; omega);rcases skp _ _ hR with rfl | ⟨r,rfl,h1⟩
   · exact ⟨_,.pFault1 hR⟩
   · have hp := Dr.pk_less e f r;cases hk : Dr.pk e f r with
     | fault => exact ⟨_,.pFault2 hR hk⟩
     | stop r2 => exact ⟨_,.pStop hR hk⟩
     | dot r2 =>
       rw [hk] at hp;have hp : r2.length < r.length := hp;obtain ⟨R3,hR3⟩ := IH (.blanks r2) (by simp only [Dr.Job.len]; omega);rcases skp _ _ hR3 with rfl | ⟨r3,rfl,h3⟩
       · exact ⟨_,.pDot1 hR hk hR3⟩
       · obtain ⟨R4,hR4⟩ := IH (.datum r3) (by simp only [Dr.Job.len]; omega);rcases gt _ _ hR4 with rfl | ⟨t,r4,b,rfl,h4⟩
         · exact ⟨_,.pDot2 hR hk hR3 hR4⟩
         · obtain ⟨R5,hR5⟩ := IH (.blanks r4) (by simp only [Dr.Job.len]; omega);rcases skp _ _ hR5 with rfl | ⟨r5,rfl,h5⟩
           · exact ⟨_,.pDot3 hR hk hR3 hR4 hR5⟩
           · by_cases h6 : ∃ r6,Dr.pk e true r5 = .stop r6
             · obtain ⟨r6,h6⟩ := h6;exact ⟨_,.pDot5 hR hk hR3 hR4 hR5 h6⟩
             · exact ⟨_,.pDot4 hR hk hR3 hR4 hR5 (fun r6 e6 => h6 ⟨r6,e6⟩)⟩
     | item =>
       obtain ⟨R2,hR2⟩ := IH (.datum r) (by simp only [Dr.Job.len]; omega);rcases gt _ _ hR2 with rfl | ⟨t,r2,b,rfl,h2⟩
       · exact ⟨_,.pItem1 hR hk hR2⟩
       · obtain ⟨R3,hR3⟩ := IH (.pairs e false r2) (by simp only [Dr.Job.len]; omega);rcases pr _ _ _ _ hR3 with rfl | ⟨ts,last,r3,b2,rfl,_⟩
         · exact ⟨_,.pItem2 hR hk hR2 hR3⟩
         · exact ⟨_,.pItem3 hR hk hR2 hR3⟩
theorem Dr.total (j : Dr.Job) : ∃ R,Dr.Rel j R := Dr.total_step j (fun j' _ => Dr.total j')
termination_by j.len
decreasing_by assumption
theorem Wr.infoByte : (Tryz.prog.info? 5).map (fun i => (i.zero,i.size,i.bytes)) = some (some (.int .u8 0),1,1) := by kernel_rfl
theorem Wr.sizeBuilder : (Tryz.prog.info? 63).map (·.size) = some 2 := by kernel_rfl
theorem Wr.lies : liesAt Tryz.prog Tryz.prog.depth 65 (3 / Tryz.prog.cellsOf 65) 0 63 1 = true := by kernel_rfl
theorem Wr.cellsByte : Tryz.prog.cellsOf 5 = 1 := by kernel_rfl
def Wr.At (B b : Nat) (p : Value) (m : Bool) (bs : List Value) (w : World) : Prop :=
 B ≤ b ∧ ∃ v,w.heap[b]? = some (.cells #[p,v,.bool m] 65 (0,0)) ∧ w.ownsRowF B 5 1 v bs.length bs ∧ v.ownBlock ≠ some b
def Wr.Is (B b : Nat) (m : Bool) (bs : List Value) (w : World) : Prop := Wr.At B b (.pointer none) m bs w ∨ Wr.At B b (.pointer (some ⟨b,0,none⟩)) m bs w
theorem Wr.At.cells {B b : Nat} {p : Value} {m : Bool} {bs : List Value} {w : World} (h : Wr.At B b p m bs w) : w.cell? ⟨b,0,none⟩ = some p ∧ w.cell? ⟨b,2,none⟩ = some (.bool m) ∧ w.frozen? ⟨b,0,none⟩ = false ∧ w.shape? b = some (65,3) := by
 obtain ⟨_,v,hb,_⟩ := h;simp [World.cell?,World.frozen?,World.shape?,hb]
theorem Wr.At.used {B b : Nat} {p : Value} {m : Bool} {bs : List Value} {w : World} (h : Wr.At B b p m bs w) (q : Value) : Wr.At B b q m bs (w.setCell ⟨b,0,none⟩ q) := by
 obtain ⟨hB,v,hb,hown,hne⟩ := h;refine ⟨hB,v,?_,?_,hne⟩
 · simp [World.setCell,Array.getElem?_modify,hb]
 · exact hown.kept (row := some b) ⟨rfl,rfl,rfl,by simp [World.setCell],fun k _ hk => Below.heap_setCell _ _ _ _ (fun e => hk (by simp [e]))⟩ (Or.inr hne)
theorem Wr.At.put {B b : Nat} {p v v' : Value} {m : Bool} {bs' : List Value} {w : World} (hB : B ≤ b) (hb : w.heap[b]? = some (.cells #[p,v,.bool m] 65 (0,0))) (hown : w.ownsRowF B 5 1 v' bs'.length bs') :
 Wr.At B b p m bs' (w.setCell ⟨b,1,none⟩ v') := by
 have hne := Lib.ownBlock_neF hown hb (by decide)
 refine ⟨hB,v',?_,?_,hne⟩
 · simp [World.setCell,Array.getElem?_modify,hb]
 · exact hown.kept (row := some b) ⟨rfl,rfl,rfl,by simp [World.setCell],fun k _ hk => Below.heap_setCell _ _ _ _ (fun e => hk (by simp [e]))⟩ (Or.inr hne)
theorem Wr.copyCheck_used (b : Nat) (w : World) (h0 : w.cell? ⟨b,0,none⟩ = some (.pointer (some ⟨b,0,none⟩))) :
 Calls Tryz.prog 84 #[.pointer (some ⟨b,0,none⟩)] w fun e w' => e = .returned (.tuple #[]) ∧ w' = w := by
 obtain ⟨j,hj,_⟩ := Option.map_eq_some_iff.1 Wr.sizeBuilder
 go_enter Tryz.func84,Tryz.ntmps84
 go_wp2
 rw [Lib.run_neq_ptr_same w _ Tryz.underlying61 hj]
 go_wp2
 go_end0
 exact ⟨rfl,rfl⟩
theorem Wr.copyCheck_fresh (b : Nat) (w : World) (h0 : w.cell? ⟨b,0,none⟩ = some (.pointer none)) (hsh : w.shape? b = some (65,3)) (hfz : w.frozen? ⟨b,0,none⟩ = false) :
 Calls Tryz.prog 84 #[.pointer (some ⟨b,0,none⟩)] w fun e w' => e = .returned (.tuple #[]) ∧ w' = w.setCell ⟨b,0,none⟩ (.pointer (some ⟨b,0,none⟩)) := by
 obtain ⟨j,hj,hjs⟩ := Option.map_eq_some_iff.1 Wr.sizeBuilder
 go_enter Tryz.func84,Tryz.ntmps84
 go_wp2
 rw [Lib.run_to_unsafe w ⟨b,0,none⟩ Tryz.underlying61 Tryz.underlying135 hj (by rw [hjs]; decide) hsh (Nat.zero_lt_succ 2)]
 simp only [Result.andThen]
 rw [Oper.upon_value]
 go_wp2
 rw [run_callFunc_extern Tryz.func114 (by kernel_rfl) (by kernel_rfl) (by kernel_rfl) (e := Extern.AbiNoEscape.same) (by kernel_rfl)]
 rw [Lib.run_noEscape]
 simp only [Result.andThen]
 rw [Oper.upon_value]
 go_wp2
 rw [Lib.run_from_unsafe w ⟨b,0,none⟩ Tryz.underlying135 Tryz.underlying61 hj hsh Wr.lies]
 simp only [Result.andThen]
 rw [Oper.upon_value]
 go_wp2
 go_end0
 exact ⟨rfl,rfl⟩
theorem Wr.string (B b : Nat) (m : Bool) (l : List UInt8) (p : Value) (w : World) (h : Wr.At B b p m (Lib.byteCells l) w) (h0 : l ≠ []) :
 Calls Tryz.prog 31 #[.pointer (some ⟨b,0,none⟩)] w fun e w' => e = .returned (.string ⟨l.toArray⟩) ∧ Below B w w' := by
 obtain ⟨hB,v,hbk,hown,hne⟩ := h
 have hl0 : l.length ≠ 0 := by simpa using h0
 rw [Lib.byteCells_length] at hown
 obtain ⟨g,cap,cur,fz,rfl,hbg,hg,hfz,hnc,hcm,hcs,htake⟩ : ∃ g cap cur fz,v = .slice (some ⟨g,0,none⟩) l.length cap ∧ B ≤ g ∧ w.heap[g]? = some (.cells cur 5 fz) ∧ fz.2 ≤ l.length * 1 ∧ l.length ≤ cap ∧ cap ≤ maxLen ∧ cur.size = cap * 1 ∧ cur.toList.take (l.length * 1) = Lib.byteCells l := by
  rcases hown.2 with ⟨_,hz⟩ | ⟨g,cap,cur,fz,hv,r⟩
  · exact absurd hz hl0
  · exact ⟨g,cap,cur,fz,hv,r⟩
 have c1 : w.drew.cell? ⟨b,1,none⟩ = some (.slice (some ⟨g,0,none⟩) l.length cap) := by
  have : w.drew.heap[b]? = some (.cells #[p,.slice (some ⟨g,0,none⟩) l.length cap,.bool m] 65 (0,0)) := hbk;rw [Lib.cell_of_heap this]; rfl
 have hSD : (Builtin.unsafeSliceData_ #[27] 90 #[.slice (some ⟨g,0,none⟩) l.length cap]).run Tryz.prog w.drew = .ok (.pointer (some ⟨g,0,none⟩)) w.drew :=
  Lib.run_unsafeSliceData_row _ _ _ _ _ _ (by omega)
 have hUS : (Builtin.unsafeString_ #[90,3] 9 #[.pointer (some ⟨g,0,none⟩),.int .i64 l.length]).run Tryz.prog w.drew = .ok (.string ⟨l.toArray⟩) (w.drew.freeze ⟨g,0,none⟩ l.length) := by
  refine Lib.run_unsafeString_row w.drew 90 3 9 5 Tryz.underlying90 Wr.cellsByte g cur.size (by have hg' : w.drew.heap[g]? = some (.cells cur 5 fz) := hg; simp [World.shape?,hg']) l h0 (by omega) (by unfold maxLen at hcm; omega) ?_;intro j x hx;have := hown.cells (g := g) rfl j (.int .u8 x.toNat) (by simp [Lib.byteCells,hx]);exact this
 have hend : Below B w (w.drew.freeze ⟨g,0,none⟩ l.length) := Lib.below_freeze (Below.drew (Below.refl B w)) (p := ⟨g,0,none⟩) hbg _
 go_enter Tryz.func31,Tryz.ntmps31
 go_wp2
 go_region
 all_goals (go_wp2; go_ret; exact ⟨rfl,hend⟩)
def Wt.Kept (B b : Nat) (w w' : World) : Prop := Below B w w' ∧ Lib.OthersKept 5 (some b) w w'
theorem Wt.Kept.refl (B b : Nat) (w : World) : Wt.Kept B b w w := ⟨Below.refl _ _,Lib.OthersKept.refl _ _ _⟩
theorem Wt.Kept.trans {B b : Nat} {w1 w2 w3 : World} (h : Wt.Kept B b w1 w2) (k : Wt.Kept B b w2 w3) : Wt.Kept B b w1 w3 := ⟨h.1.trans k.1,h.2.trans k.2⟩
theorem Wt.Kept.alloc {B b : Nat} {w1 w2 : World} (h : Wt.Kept B b w1 w2) (hB : B ≤ w1.heap.size) (o : Obj) : Wt.Kept B b w1 (w2.alloc o) := ⟨h.1.alloc (by have := h.1.size; omega) o,h.2.alloc o⟩
theorem Wt.Kept.drew {B b : Nat} {w1 w2 : World} (h : Wt.Kept B b w1 w2) : Wt.Kept B b w1 w2.drew := ⟨Below.drew h.1,h.2.drew⟩
theorem Wt.Kept.size {B b : Nat} {w1 w2 : World} (h : Wt.Kept B b w1 w2) : w1.heap.size ≤ w2.heap.size := h.1.size
theorem Wt.Kept.box {B b k : Nat} {w1 w2 : World} (h : Wt.Kept B b w1 w2) {c : Array Value} {t : TypeId} {fz : Nat × Nat} (hk : w1.heap[k]? = some (.cells c t fz)) (hb : k ≠ b) (ht : t ≠ 5) : w2.heap[k]? = some (.cells c t fz) :=
 h.2 k _ hk (fun e => hb (Option.some.inj e)) (fun c' fz' e => by injection e with _ e _; exact ht e)
theorem Wt.Kept.below {B b : Nat} {w1 w2 : World} (h : Below w1.heap.size w1 w2) (hB : B ≤ w1.heap.size) : Wt.Kept B b w1 w2 :=
 ⟨h.mono hB,fun k o hk _ _ => (h.block k (Array.getElem?_eq_some_iff.1 hk).1).trans hk⟩
theorem Wr.At.keptBelow {B b : Nat} {p : Value} {m : Bool} {bs : List Value} {w w' : World} (h : Wr.At B b p m bs w) (hb : Below w.heap.size w w') : Wr.At B b p m bs w' := by
 obtain ⟨hB,v,hbk,hown,hne⟩ := h;have hlt : b < w.heap.size := (Array.getElem?_eq_some_iff.1 hbk).1;exact ⟨hB,v,(hb.block b hlt).trans hbk,hown.kept (row := none) ⟨hb.os,hb.tape,hb.output,hb.size,fun k hk _ => hb.block k hk⟩ (by cases hv : v.ownBlock <;> simp),hne⟩
theorem Wr.At.is {B b : Nat} {m : Bool} {bs : List Value} {w : World} (h : Wr.At B b (.pointer (some ⟨b,0,none⟩)) m bs w) : Wr.Is B b m bs w := .inr h
theorem Wr.Is.keptBelow {B b : Nat} {m : Bool} {bs : List Value} {w w' : World} (h : Wr.Is B b m bs w) (hb : Below w.heap.size w w') : Wr.Is B b m bs w' :=
 h.imp (·.keptBelow hb) (·.keptBelow hb)
theorem Wr.Is.blk {B b : Nat} {m : Bool} {bs : List Value} {w : World} (h : Wr.Is B b m bs w) : B ≤ b ∧ b < w.heap.size := by
 rcases h with ⟨hB,v,hb,_⟩ | ⟨hB,v,hb,_⟩
 · exact ⟨hB,(Array.getElem?_eq_some_iff.1 hb).1⟩
 · exact ⟨hB,(Array.getElem?_eq_some_iff.1 hb).1⟩
theorem Wr.Is.marked {B b : Nat} {m : Bool} {bs : List Value} {w : World} (h : Wr.Is B b m bs w) : w.cell? ⟨b,2,none⟩ = some (.bool m) := by
 rcases h with h | h
 · exact h.cells.2.1
 · exact h.cells.2.1
theorem Wt.copyCheck (B b : Nat) (m : Bool) (bs : List Value) (w : World) (h : Wr.Is B b m bs w) :
 Calls Tryz.prog 84 #[.pointer (some ⟨b,0,none⟩)] w fun e w' => e = .returned (.tuple #[]) ∧ (Wr.At B b (.pointer (some ⟨b,0,none⟩)) m bs w' ∧ Wt.Kept B b w w') := by
 rcases h with h | h
 · refine (Wr.copyCheck_fresh b w h.cells.1 h.cells.2.2.2 h.cells.2.2.1).mono ?_;rintro e w' ⟨rfl,rfl⟩;exact ⟨rfl,h.used _,(Below.refl B w).setCell (p := ⟨b,0,none⟩) h.1 _,(Lib.OthersKept.refl _ _ w).setCell ⟨b,0,none⟩ rfl _⟩
 · refine (Wr.copyCheck_used b w h.cells.1).mono ?_;rintro e w' ⟨rfl,rfl⟩;exact ⟨rfl,h,Wt.Kept.refl B b _⟩
theorem Wt.writeString (B b : Nat) (m : Bool) (bs : List Value) (s : ByteArray) (w : World) (h : Wr.Is B b m bs w) (hlen : bs.length + s.size ≤ 140737488355328) (hBw : B ≤ w.heap.size) :
 Calls Tryz.prog 56 #[.pointer (some ⟨b,0,none⟩),.string s] w fun e w' => e = .returned (.tuple #[.int .i64 s.size,.nilIface]) ∧ (Wr.At B b (.pointer (some ⟨b,0,none⟩)) m (bs ++ Lib.strCells s) w' ∧ Wt.Kept B b w w') := by
 obtain ⟨i0,hi,hz0,hz1,hz2⟩ := info_parts Wr.infoByte
 go_enter Tryz.func56,Tryz.ntmps56
 go_wp2_with (go_at_call 84; refine (Wt.copyCheck B b m bs _ h).mono ?_)
 rintro e w1 ⟨rfl,h1,hb1,hk1⟩
 obtain ⟨hB,v,hbk,hown,hne⟩ := h1
 have c0 : w1.cell? ⟨b,0,none⟩ = some (.pointer (some ⟨b,0,none⟩)) := by rw [Lib.cell_of_heap hbk]; rfl
 have c1 : w1.cell? ⟨b,1,none⟩ = some v := by rw [Lib.cell_of_heap hbk]; rfl
 go_wp2_with (at_builtin; refine Lib.wpList_append_own_stringF _ rfl _ _ 27 9 rfl B 5 i0 Tryz.underlying27 Tryz.underlying9 hi hz0 hz1 hz2 _ _ _ rfl hown s rfl ?c3 ?c4 ?c5 ?_)
 case c3 => unfold maxLen; omega
 case c4 => omega
 case c5 => have := hb1.size; omega
 intro v' w2 hown' hgrow _
 have hlt : b < w1.heap.size := (Array.getElem?_eq_some_iff.1 hbk).1
 have hb2 : w2.heap[b]? = some (.cells #[.pointer (some ⟨b,0,none⟩),v,.bool m] 65 (0,0)) := by
  rw [hgrow.block b hlt (fun e => hne e.symm)];exact hbk
 have d0 : w2.cell? ⟨b,0,none⟩ = some (.pointer (some ⟨b,0,none⟩)) := by rw [Lib.cell_of_heap hb2]; rfl
 have d1 : w2.cell? ⟨b,1,none⟩ = some v := by rw [Lib.cell_of_heap hb2]; rfl
 have f1 : w2.frozen? ⟨b,1,none⟩ = false := Lib.frozen_of_heap hb2 1
 obtain ⟨ao,n',cap,rfl⟩ : ∃ ao n' cap,v' = .slice ao n' cap := by
  rcases hown'.2 with ⟨hv,_⟩ | ⟨g,cap,cur,fz,hv,_⟩
  · exact ⟨_,_,_,hv⟩
  · exact ⟨_,_,_,hv⟩
 go_wp2
 go_ret2
 refine ⟨rfl,?_,?_,(hk1.grown hgrow (Lib.ownsRowF_kind hown)).setCell ⟨b,1,none⟩ rfl _⟩
 · exact Wr.At.put hB hb2 (bs' := bs ++ Lib.strCells s) (by simpa [Lib.strCells_length] using hown')
 · exact (hb1.grown hgrow (by have := hb1.size; omega) (fun k hk => (hown.lt k hk).1)).setCell (p := ⟨b,1,none⟩) hB _
theorem Wt.writeByte (B b : Nat) (m : Bool) (bs : List Value) (c : Int) (w : World) (h : Wr.Is B b m bs w) (hlen : bs.length + 1 ≤ 140737488355328) (hBw : B ≤ w.heap.size) :
 Calls Tryz.prog 61 #[.pointer (some ⟨b,0,none⟩),.int .u8 c] w fun e w' => e = .returned .nilIface ∧ (Wr.At B b (.pointer (some ⟨b,0,none⟩)) m (bs ++ [.int .u8 c]) w' ∧ Wt.Kept B b w w') := by
 obtain ⟨i0,hi,hz0,hz1,hz2⟩ := info_parts Wr.infoByte
 go_enter Tryz.func61,Tryz.ntmps61
 go_wp2_with (go_at_call 84; refine (Wt.copyCheck B b m bs _ h).mono ?_)
 rintro e w1 ⟨rfl,h1,hb1,hk1⟩
 obtain ⟨hB,v,hbk,hown,hne⟩ := h1
 have c0 : w1.cell? ⟨b,0,none⟩ = some (.pointer (some ⟨b,0,none⟩)) := by rw [Lib.cell_of_heap hbk]; rfl
 have c1 : w1.cell? ⟨b,1,none⟩ = some v := by rw [Lib.cell_of_heap hbk]; rfl
 go_wp2_with (at_builtin; refine wpList_append_ownF _ rfl _ _ 27 rfl B 5 i0 (.int .u8 0) 1 1 Tryz.underlying27 hi hz0 hz1 hz2 rfl (by decide) _ _ _ rfl (hown.alloc _) ⟨w1.heap.size,0,none⟩ 1 1 [.int .u8 c] rfl rfl ?c1 ?c2 ?c3 ?c4 ?c5 ?_)
 case c1 =>
  intro j u hj
  match j,hj with
  | 0,hj => simp at hj; subst hj; simp [Addr.add]
 case c2 => intro u hu; simp at hu; subst hu; rfl
 case c3 => unfold maxLen; omega
 case c4 => omega
 case c5 => have := hb1.size; simp; omega
 intro v' w2 hown' hgrow _
 have hlt : b < w1.heap.size := (Array.getElem?_eq_some_iff.1 hbk).1
 have hb2 : w2.heap[b]? = some (.cells #[.pointer (some ⟨b,0,none⟩),v,.bool m] 65 (0,0)) := by
  rw [hgrow.block b (by simp; omega) (fun e => hne e.symm),Lib.alloc_old w1 _ b hlt];exact hbk
 have d0 : w2.cell? ⟨b,0,none⟩ = some (.pointer (some ⟨b,0,none⟩)) := by rw [Lib.cell_of_heap hb2]; rfl
 have d1 : w2.cell? ⟨b,1,none⟩ = some v := by rw [Lib.cell_of_heap hb2]; rfl
 have f1 : w2.frozen? ⟨b,1,none⟩ = false := Lib.frozen_of_heap hb2 1
 obtain ⟨g,cap,rfl⟩ : ∃ g cap,v' = .slice (some ⟨g,0,none⟩) (bs.length + 1) cap := by
  rcases hown'.2 with ⟨_,h0⟩ | ⟨g,cap,cur,fz,hv,_⟩
  · omega
  · exact ⟨g,cap,hv⟩
 go_wp2
 go_ret
 refine ⟨rfl,?_,?_,((hk1.alloc _).grown hgrow (Lib.ownsRowF_kind (hown.alloc _))).setCell ⟨b,1,none⟩ rfl _⟩
 · exact Wr.At.put hB hb2 (bs' := bs ++ [.int .u8 c]) (by simpa using hown')
 · exact ((hb1.alloc (by have := hb1.size; omega) _).grown hgrow (by have := hb1.size; simp; omega) (fun k hk => (hown.lt k hk).1)).setCell (p := ⟨b,1,none⟩) hB _
theorem Wt.writeRune (B b : Nat) (m : Bool) (bs : List Value) (r : Int) (hr0 : -2147483648 ≤ r) (hr1 : r ≤ 2147483647) (w : World) (h : Wr.Is B b m bs w) (hlen : bs.length + 4 ≤ 140737488355328) (hBw : B ≤ w.heap.size) :
 Calls Tryz.prog 67 #[.pointer (some ⟨b,0,none⟩),.int .i32 r] w fun e w' => e = .returned (.tuple #[.int .i64 (Lib.runeCells r).length,.nilIface]) ∧ (Wr.At B b (.pointer (some ⟨b,0,none⟩)) m (bs ++ Lib.runeCells r) w' ∧ Wt.Kept B b w w') := by
 have hk4 := Lib.runeCells_le r
 go_enter Tryz.func67,Tryz.ntmps67
 go_wp2_with (go_at_call 84; refine (Wt.copyCheck B b m bs _ h).mono ?_)
 rintro e w1 ⟨rfl,h1,hb1,hk1⟩
 obtain ⟨hB,v,hbk,hown,hne⟩ := h1
 obtain ⟨ao,cap,rfl⟩ : ∃ ao cap,v = .slice ao bs.length cap := by
  rcases hown.2 with ⟨hv,h0⟩ | ⟨g,cap,cur,fz,hv,_⟩
  · exact ⟨none,0,by rw [hv,h0]⟩
  · exact ⟨_,_,hv⟩
 have c0 : w1.cell? ⟨b,0,none⟩ = some (.pointer (some ⟨b,0,none⟩)) := by rw [Lib.cell_of_heap hbk]; rfl
 have c1 : w1.cell? ⟨b,1,none⟩ = some (.slice ao bs.length cap) := by rw [Lib.cell_of_heap hbk]; rfl
 go_wp2_with (go_at_call 94; refine (Tryz.utf8_AppendRune_row B _ bs.length bs r hr0 hr1 _ hown hlen (by have := hb1.size; omega)).mono ?_)
 rintro e w2 ⟨v',rfl,hown',o,hgrow⟩
 have hlt : b < w1.heap.size := (Array.getElem?_eq_some_iff.1 hbk).1
 have hb2 : w2.heap[b]? = some (.cells #[.pointer (some ⟨b,0,none⟩),.slice ao bs.length cap,.bool m] 65 (0,0)) := by
  rw [hgrow.block b (by simp; omega) (fun e => hne e.symm),Lib.alloc_old w1 _ b hlt];exact hbk
 have d0 : w2.cell? ⟨b,0,none⟩ = some (.pointer (some ⟨b,0,none⟩)) := by rw [Lib.cell_of_heap hb2]; rfl
 have d1 : w2.cell? ⟨b,1,none⟩ = some (.slice ao bs.length cap) := by rw [Lib.cell_of_heap hb2]; rfl
 have f1 : w2.frozen? ⟨b,1,none⟩ = false := Lib.frozen_of_heap hb2 1
 obtain ⟨g,cap',rfl⟩ : ∃ g cap',v' = .slice (some ⟨g,0,none⟩) (bs.length + (Lib.runeCells r).length) cap' := by
  rcases hown'.2 with ⟨_,h0⟩ | ⟨g,cap',cur,fz,hv,_⟩
  · omega
  · exact ⟨g,cap',hv⟩
 go_wp2
 go_ret2
 refine ⟨?_,?_,?_,((hk1.alloc _).grown hgrow (Lib.ownsRowF_kind (hown.alloc _))).setCell ⟨b,1,none⟩ rfl _⟩
 · have e : ((bs.length : Int) + ((Lib.runeCells r).length : Int) - (bs.length : Int)) = ((Lib.runeCells r).length : Int) := by omega
   simp [e]
 · exact Wr.At.put hB hb2 (bs' := bs ++ Lib.runeCells r) (by simpa using hown')
 · exact ((hb1.alloc (by have := hb1.size; omega) _).grown hgrow (by have := hb1.size; simp; omega) (fun k hk => (hown.lt k hk).1)).setCell (p := ⟨b,1,none⟩) hB _
theorem Wt.string_empty (B b : Nat) (m : Bool) (p : Value) (w : World) (h : Wr.At B b p m [] w) (hBw : B ≤ w.heap.size) :
 Calls Tryz.prog 31 #[.pointer (some ⟨b,0,none⟩)] w fun e w' => e = .returned (.string ⟨#[]⟩) ∧ Below B w w' := by
 obtain ⟨hB,v,hbk,hown,hne⟩ := h
 have hlt : b < w.heap.size := (Array.getElem?_eq_some_iff.1 hbk).1
 have hUS : ∀ (W : World) (q : Option Addr),(Builtin.unsafeString_ #[90,3] 9 #[.pointer q,.int .i64 0]).run Tryz.prog W = .ok (.string .empty) W := fun W q => Lib.run_unsafeString_none W _ _ _ q
 have c1 : w.drew.cell? ⟨b,1,none⟩ = some v := by
  have : w.drew.heap[b]? = some (.cells #[p,v,.bool m] 65 (0,0)) := hbk;rw [Lib.cell_of_heap this]; rfl
 rcases hown.2 with ⟨rfl,_⟩ | ⟨g,cap,cur,fz,rfl,hbg,hg,_,_,_,_,_⟩
 · have hSD : (Builtin.unsafeSliceData_ #[27] 90 #[.slice none 0 0]).run Tryz.prog w.drew = .ok (.pointer none) w.drew := rfl;go_enter Tryz.func31,Tryz.ntmps31;go_wp2;go_region;all_goals (go_wp2; go_ret; exact ⟨rfl,Below.drew (Below.refl B w)⟩)
 · by_cases hc0 : cap = 0
   · subst hc0;have hSD : (Builtin.unsafeSliceData_ #[27] 90 #[.slice (some ⟨g,0,none⟩) 0 0]).run Tryz.prog w.drew = .ok (.pointer (some ⟨w.drew.heap.size,0,none⟩)) (w.drew.alloc (.view ⟨g,0,none⟩ 5)) :=
      Lib.run_unsafeSliceData_zero w.drew _ _ 5 Tryz.underlying90 ⟨g,0,none⟩ 0 (5,cur.size) (by have hg' : w.drew.heap[g]? = some (.cells cur 5 fz) := hg; simp [World.shape?,hg'])
     have c2 : (w.drew.alloc (.view ⟨g,0,none⟩ 5)).cell? ⟨b,1,none⟩ = some (.slice (some ⟨g,0,none⟩) 0 0) := by
      have : (w.drew.alloc (.view ⟨g,0,none⟩ 5)).heap[b]? = _ := (Lib.alloc_old w.drew _ b hlt).trans hbk;rw [Lib.cell_of_heap this]; rfl
     have c3 : (w.alloc (.view ⟨g,0,none⟩ 5)).drew.cell? ⟨b,1,none⟩ = some (.slice (some ⟨g,0,none⟩) 0 0) := c2;have c0 : w.cell? ⟨b,1,none⟩ = some (.slice (some ⟨g,0,none⟩) 0 0) := c1;have mixed : Tryz.prog.follows Departure.mixedOrders = true := by kernel_rfl
     go_enter Tryz.func31,Tryz.ntmps31;go_wp2;go_region_o;all_goals (go_wp2; go_ret; exact ⟨rfl,(Below.drew (Below.refl B w)).alloc hBw _⟩)
   · have hSD : (Builtin.unsafeSliceData_ #[27] 90 #[.slice (some ⟨g,0,none⟩) 0 cap]).run Tryz.prog w.drew = .ok (.pointer (some ⟨g,0,none⟩)) w.drew :=
      Lib.run_unsafeSliceData_row _ _ _ _ _ _ hc0
     clear hc0;go_enter Tryz.func31,Tryz.ntmps31;go_wp2;go_region;all_goals (go_wp2; go_ret; exact ⟨rfl,Below.drew (Below.refl B w)⟩)
theorem Wt.string (B b : Nat) (m : Bool) (l : List UInt8) (p : Value) (w : World) (h : Wr.At B b p m (Lib.byteCells l) w) (hBw : B ≤ w.heap.size) :
 Calls Tryz.prog 31 #[.pointer (some ⟨b,0,none⟩)] w fun e w' => e = .returned (.string ⟨l.toArray⟩) ∧ Below B w w' := by
 cases l with
 | nil => exact Wt.string_empty B b m p w h hBw
 | cons x r => exact Wr.string B b m (x :: r) p w h (by simp)
theorem Wr.At.iterAt {B b : Nat} {p : Value} {m : Bool} {bs : List Value} {w : World} (h : Wr.At B b p m bs w) {k : Nat} {s : ByteArray} {pos : Nat} (hk : w.heap[k]? = some (.stringIter s pos)) (pos' : Nat) : Wr.At B b p m bs (w.iterAt k s pos') := by
 obtain ⟨hB,v,hb,hown,hne⟩ := h;have hkb : b ≠ k := by
  intro e1;rw [e1,hk] at hb;cases hb
 refine ⟨hB,v,(Lib.iterAt_other w k b s pos' hkb).trans hb,⟨hown.1,?_⟩,hne⟩;rcases hown.2 with hn | ⟨g,cap,cur,fz,hv,hbg,hg,rest⟩
 · exact .inl hn
 · have hkg : g ≠ k := by
    intro e1;rw [e1,hk] at hg;cases hg
   exact .inr ⟨g,cap,cur,fz,hv,hbg,(Lib.iterAt_other w k g s pos' hkg).trans hg,rest⟩
theorem Wt.Kept.iterAt {B b : Nat} {w0 w : World} (h : Wt.Kept B b w0 w) (hB : B ≤ w0.heap.size) {k : Nat} (hk : w0.heap.size ≤ k) (s : ByteArray) (pos : Nat) : Wt.Kept B b w0 (w.iterAt k s pos) := by
 refine ⟨Lib.below_iterAt h.1 (by omega) s pos,fun j o hj hb ho => ?_⟩;have hlt := (Array.getElem?_eq_some_iff.1 hj).1;rw [Lib.iterAt_other w k j s pos (by omega)];exact h.2 j o hj hb ho
theorem Wt.Kept.iter {B b : Nat} {w w' : World} (h : Wt.Kept B b w w') {k : Nat} {s : ByteArray} {pos : Nat} (hk : w.heap[k]? = some (.stringIter s pos)) (hb : k ≠ b) : w'.heap[k]? = some (.stringIter s pos) := h.2.iter hk hb
theorem Wr.At.alloc {B b : Nat} {p : Value} {m : Bool} {bs : List Value} {w : World} (h : Wr.At B b p m bs w) (o : Obj) : Wr.At B b p m bs (w.alloc o) := h.keptBelow ((Below.refl _ _).alloc (Nat.le_refl _) o)
theorem Wr.Is.alloc {B b : Nat} {m : Bool} {bs : List Value} {w : World} (h : Wr.Is B b m bs w) (o : Obj) : Wr.Is B b m bs (w.alloc o) := h.keptBelow ((Below.refl _ _).alloc (Nat.le_refl _) o)
theorem Wt.strCells (s : ByteArray) : Lib.strCells s = Lib.byteCells s.data.toList := by simp [Lib.strCells,Lib.byteCells]
theorem Wt.strCells_str (l : List UInt8) : Lib.strCells ⟨l.toArray⟩ = Lib.byteCells l := by rw [Wt.strCells]
theorem Wt.cells_snoc (bs : List Value) (a : List UInt8) (c : UInt8) : bs ++ Lib.byteCells a ++ [.int .u8 c.toNat] = bs ++ Lib.byteCells (a ++ [c]) := by simp [Lib.byteCells]
theorem Wt.cells_app (bs : List Value) (a c : List UInt8) : bs ++ Lib.byteCells a ++ Lib.byteCells c = bs ++ Lib.byteCells (a ++ c) := by rw [Lib.byteCells_append,List.append_assoc]
theorem Wt.runes_at (s : ByteArray) (pos : Nat) (h : pos < s.size) : Ru.runes (s.data.toList.drop pos) = ((Utf8.decode s pos).1 : Int) :: Ru.runes (s.data.toList.drop (pos + (Utf8.decode s pos).2)) := by
 have hs : s.data.toList.length = s.size := by simp
 rw [Ru.runes_step _ (by intro h2; have := congrArg List.length h2; simp at this; omega),Ru.decode_drop,List.drop_drop]
theorem Wt.runes_end (s : ByteArray) (pos : Nat) (h : ¬ pos < s.size) : Ru.runes (s.data.toList.drop pos) = [] := by
 have hs : s.data.toList.length = s.size := by simp
 rw [List.drop_eq_nil_of_le (by omega)];rfl
theorem Wt.decode_ok (s : ByteArray) (pos : Nat) (h : pos < s.size) : Ru.okR ((Utf8.decode s pos).1 : Int) := by
 have hs : s.data.toList.length = s.size := by simp
 rw [Ru.decode_drop];exact Ru.decode_ok _ (by intro h2; have := congrArg List.length h2; simp at this; omega)
end Go.Proofs.YteklhapffplohaaGreatDoor
