/-
  nat.Over, nat.Divisor of numbers, where the divisor is one word. Digits as a number, word by word: the plain law of nat.Read. nat.Value of any byte.
-/
import Derived.Deep.LoopGhost
import Derived.WalkKit
import Derived.WalkMore
import Derived.WalkLawsBesides
import Derived.Below
import Derived.Lib.Hide
import Derived.Laws.OwnMore
import Derived.Lib.SmallJoins
import Derived.Deep.RegionHeld3
import Derived.Test.YteklhapffplohaaGreatDoorProg
import Derived.WalkSpells
import Derived.Handy
import Derived.Shelf.Strings.Builder1
import Derived.Outline
import Derived.Lib.OthersKept
import Derived.Lib.RuneCount
import Derived.Test.YteklhapffplohaaGreatDoorVc
import Derived.Test.YteklhapffplohaaGreatDoorVb
import Derived.Test.YteklhapffplohaaGreatDoorVa
import Derived.Test.YteklhapffplohaaGreatDoorShelfV
set_option linter.unusedVariables false
set_option linter.unusedSimpArgs false
namespace Go.Proofs.YteklhapffplohaaGreatDoor
open Go.RowKit
def Nt.Ok1 (m n : Nat) : Prop := n < 4294967296 ∧ (Nt.dig m).length ≤ 400000
def Nt.Ok (m n : Nat) : Prop := (Nt.dig n).length ≤ 400000 ∧ (Nt.dig m).length ≤ 400000
theorem Nt.dig_len_mono {m n : Nat} (h : m ≤ n) : (Nt.dig m).length ≤ (Nt.dig n).length := by
 rcases Nat.lt_or_ge (Nt.dig n).length (Nt.dig m).length with h1 | h1
 · have := Nt.dig_len_lt h1;omega
 · exact h1
theorem Nt.dig_len_one {n : Nat} (h0 : 0 < n) (h : n < 4294967296) : (Nt.dig n).length = 1 := by rw [Nt.dig_small h0 h]; rfl
theorem Nt.Ok.step {m n : Nat} (h : Nt.Ok m n) (hn : 0 < n) : Nt.Ok n (m % n) :=
 ⟨Nat.le_trans (Nt.dig_len_mono (Nat.le_of_lt (Nat.mod_lt _ hn))) h.1,h.1⟩
set_option maxHeartbeats 4000000
set_option maxRecDepth 1000000
theorem Nt.Over_short (m n : Nat) (v v2 : Value) (w : World) (h : Nt.N w v m) (h2 : Nt.N w v2 n) (hn : 0 < n) (hok : Nt.Ok1 m n) : Calls Tryz.prog 128 #[v,v2] w fun e w' => ∃ q r,e = .returned (.tuple #[q,r]) ∧ Nt.N w' q (m / n) ∧ Nt.N w' r (m % n) ∧ Below w.heap.size w w' := by
 have hl1 := hok.2;have hl2 := Nt.dig_len_one hn hok.1;have KO := Nt.Order_any m n v v2 w h h2 (by omega) (by omega);obtain ⟨ad,cap,rfl⟩ := Nt.In.slice h;obtain ⟨ad2,cap2,rfl⟩ := Nt.In.slice h2;have H := Lib.hid h;have H2 := Lib.hid h2;have hn32 := hok.1;clear h h2 hok;by_cases hlt : m < n
 · rw [Nt.cmp_lt hlt] at KO;have hq : m / n = 0 := Nat.div_eq_of_lt hlt;have hr : m % n = m := Nat.mod_eq_of_lt hlt;rw [hq,hr];have KC := fun w h => Nt.Clone_any (Nt.dig m) (.slice ad (Nt.dig m).length cap) w h (by omega);clear hq hr;generalize (Nt.dig m).length = l at *;generalize (Nt.dig n).length = l2 at *;clear hlt hn hn32 hl2;go_enter Tryz.func128,Tryz.ntmps128;go_wp2_with fail;refine KO.mono ?_;rintro x w1 ⟨rfl,hb1⟩;have HB1 := Lib.hid hb1;clear hb1;go_wp2_with fail;refine (KC _ (H.out.below HB1.out (Nat.le_refl _))).mono ?_;rintro x w2 ⟨v2,rfl,hi2,hb2⟩;have HI2 := Lib.hid hi2;have HB2 := Lib.hid (HB1.out.trans (hb2.mono HB1.out.size));clear hi2 hb2;go_wp2_with fail;go_ret2;exact ⟨_,_,rfl,Nt.N.zero _,HI2.out,HB2.out⟩
 · have hc : ¬ Nt.cmp m n < 0 := fun h => hlt (Nt.cmp_neg.1 h);have hcd : decide (Nt.cmp m n < 0) = false := decide_eq_false hc;have hdn := Nt.dig_small hn hn32;obtain ⟨b2,o2,rfl,hl22,hcap2,hbl2,hcell2⟩ := Nt.In.at H2.out (by omega);have c2 := hcell2 0 (by omega);rw [hdn] at c2;simp only [Nat.add_zero,List.getD_cons_zero] at c2;rw [hl2] at *;have KS := fun w h => Nt.short_ws (Nt.dig m) n (.slice ad (Nt.dig m).length cap) w h (Nt.dig_wd m) (by omega) hn hn32;rw [Nt.val_dig] at KS;have hml : m % n < 4294967296 := Nat.lt_trans (Nat.mod_lt _ hn) hn32;have hnw : Nt.Wd [m % n] := fun x hx => by simp only [List.mem_singleton] at hx; omega
   have KN := fun v w h => Nt.norm_any [m % n] v w h hnw (by simp);rw [show Nt.val [m % n] = m % n by simp [Nt.val]] at KN;have HA : Hid (∀ w : World,Nt.In (w.alloc (.cells #[.int .u32 (m % n : Nat)] 57)) (.slice (some ⟨w.heap.size,0,none⟩) 1 1) [m % n] ∧ Below w.heap.size w (w.alloc (.cells #[.int .u32 (m % n : Nat)] 57))) := Lib.hid (fun w => by
     refine ⟨?_,(Below.refl _ _).alloc (Nat.le_refl _) _⟩;have e : (#[.int .u32 (m % n : Nat)] : Array Value) = Nt.row [m % n] := by simp [Nt.row]
     rw [e]
     exact Nt.In.of_row (heap_alloc_new w _))
   generalize m % n = r at *;generalize (Nt.dig m).length = l at *;clear hcell2 hdn hc hlt hl22 hnw;generalize Nt.cmp m n = cc at *;go_enter Tryz.func128,Tryz.ntmps128;go_wp2_with fail;refine KO.mono ?_;rintro x w1 ⟨rfl,hb1⟩;have c3 := (hb1.cell (p := ⟨b2,o2,none⟩) hbl2).trans c2;have HB1 := Lib.hid hb1;clear hb1 c2;go_wp2_with fail;refine (KS _ (H.out.below HB1.out (Nat.le_refl _))).mono ?_;rintro x w2 ⟨vq,rfl,hq2,hb2⟩;have HQ2 := Lib.hid hq2;have HB2 := Lib.hid (HB1.out.trans (hb2.mono HB1.out.size));clear hq2 hb2 c3;go_wp2_with fail;refine (KN _ _ (HA.out _).1).mono ?_;rintro x w3 ⟨vr,rfl,hr3,hb3⟩;have HR3 := Lib.hid hr3;have hb3 := (HA.out w2).2.trans (hb3.mono (HA.out w2).2.size);have HQ3 := Lib.hid (HQ2.out.below hb3 (Nat.le_refl _));have HB3 := Lib.hid (HB2.out.trans (hb3.mono HB2.out.size));clear hr3 hb3;go_wp2_with fail;go_ret2;exact ⟨_,_,rfl,HQ3.out,HR3.out,HB3.out⟩
theorem Nt.Over_less (m n : Nat) (v v2 : Value) (w : World) (h : Nt.N w v m) (h2 : Nt.N w v2 n) (hlt : m < n) (hok : Nt.Ok m n) : Calls Tryz.prog 128 #[v,v2] w fun e w' => ∃ q r,e = .returned (.tuple #[q,r]) ∧ Nt.N w' q (m / n) ∧ Nt.N w' r (m % n) ∧ Below w.heap.size w w' := by
 have hl1 := hok.2;have hl2 := hok.1;have KO := Nt.Order_any m n v v2 w h h2 (by omega) (by omega);obtain ⟨ad,cap,rfl⟩ := Nt.In.slice h;obtain ⟨ad2,cap2,rfl⟩ := Nt.In.slice h2;have H := Lib.hid h;clear h h2 hok;rw [Nt.cmp_lt hlt] at KO;have hq : m / n = 0 := Nat.div_eq_of_lt hlt;have hr : m % n = m := Nat.mod_eq_of_lt hlt;rw [hq,hr];have KC := fun w h => Nt.Clone_any (Nt.dig m) (.slice ad (Nt.dig m).length cap) w h (by omega);clear hq hr;generalize (Nt.dig m).length = l at *;generalize (Nt.dig n).length = l2 at *;clear hlt hl2;go_enter Tryz.func128,Tryz.ntmps128;go_wp2_with fail;refine KO.mono ?_;rintro x w1 ⟨rfl,hb1⟩;have HB1 := Lib.hid hb1;clear hb1;go_wp2_with fail;refine (KC _ (H.out.below HB1.out (Nat.le_refl _))).mono ?_;rintro x w2 ⟨v2,rfl,hi2,hb2⟩;have HI2 := Lib.hid hi2;have HB2 := Lib.hid (HB1.out.trans (hb2.mono HB1.out.size));clear hi2 hb2;go_wp2_with fail;go_ret2;exact ⟨_,_,rfl,Nt.N.zero _,HI2.out,HB2.out⟩
set_option maxHeartbeats 200000
set_option maxRecDepth 512
theorem Nt.Over_any (m n : Nat) (v v2 : Value) (w : World) (h : Nt.N w v m) (h2 : Nt.N w v2 n) (hn : 0 < n) (hok : Nt.Ok m n) : Calls Tryz.prog 128 #[v,v2] w fun e w' => ∃ q r,e = .returned (.tuple #[q,r]) ∧ Nt.N w' q (m / n) ∧ Nt.N w' r (m % n) ∧ Below w.heap.size w w' := by
 rcases Nat.lt_or_ge n 4294967296 with h1 | h1
 · exact Nt.Over_short m n v v2 w h h2 hn ⟨h1,hok.2⟩
 · rcases Nat.lt_or_ge m n with h3 | h3
   · exact Nt.Over_less m n v v2 w h h2 h3 hok
   · exact Nt.Over_long m n v v2 w h h2 h1 h3 hok.2
set_option maxHeartbeats 4000000
set_option maxRecDepth 1000000
theorem Nt.Divisor_any (m n : Nat) (v v2 : Value) (w : World) (h : Nt.N w v m) (h2 : Nt.N w v2 n) (hok : Nt.Ok m n) : Calls Tryz.prog 105 #[v,v2] w fun e w' => ∃ v',e = .returned v' ∧ Nt.N w' v' (Nat.gcd m n) ∧ Below w.heap.size w w' := by
 obtain ⟨ad,cap,rfl⟩ := Nt.In.slice h;obtain ⟨ad2,cap2,rfl⟩ := Nt.In.slice h2;have H := Lib.hid h;have H2 := Lib.hid h2;have HOK := Lib.hid hok;clear h h2 hok;go_enter Tryz.func105,Tryz.ntmps105;go_wp2_with fail;go_loopg [0,1] n (fun g va vb wr => ∃ a : Nat,Nt.N wr va a ∧ Nt.N wr vb g ∧ Nt.Ok a g ∧ Nat.gcd a g = Nat.gcd m n ∧ Below w.heap.size w wr);case atStart => exact ⟨m,H.out,H2.out,HOK.out,rfl,Below.refl _ _⟩
 case round =>
  obtain ⟨a,ha,hb,hok,hg,hbw⟩ := hrel;obtain ⟨adA,capA,rfl⟩ := Nt.In.slice ha;obtain ⟨adB,capB,rfl⟩ := Nt.In.slice hb;obtain ⟨wo,hwo⟩ : ∃ z,z = wr := ⟨_,rfl⟩;subst hwo;have HA := Lib.hid ha;have HB := Lib.hid hb;have HK := Lib.hid hok;have HG := Lib.hid hg;have HBW := Lib.hid hbw;clear ha hb hok hg hbw H H2 HOK;rcases Nat.eq_zero_or_pos gk with h0 | h0
  · subst h0;have hl0 : ((Nt.dig 0).length : Int) = 0 := by rw [Nt.dig_zero]; rfl
    have KC := fun w h => Nt.Clone_any (Nt.dig a) (.slice adA (Nt.dig a).length capA) w h (by have := HK.out.2; omega);have hga : a = Nat.gcd m n := by have := HG.out; rwa [Nat.gcd_zero_right] at this
    have HGA := Lib.hid hga;clear hga;generalize (Nt.dig a).length = l at *;go_wp2_with fail;refine (KC _ HA.out).mono ?_;rintro x w2 ⟨v2,rfl,hi2,hb2⟩;have HI2 := Lib.hid hi2;have HB2 := Lib.hid (HBW.out.trans (hb2.mono HBW.out.size));clear hi2 hb2;go_wp2_with fail;go_ret;exact ⟨_,rfl,HGA.out ▸ HI2.out,HB2.out⟩
  · have hl1 := Nt.dig_len_pos.2 h0;have KO := Nt.Over_any a gk _ _ wo HA.out HB.out h0 HK.out;have hlp : ((Nt.dig gk).length : Int) > 0 := by omega
    have HL1 := Lib.hid hl1;clear hl1;go_wp2_with fail;refine KO.mono ?_;rintro x w2 ⟨q,r,rfl,hq2,hr2,hb2⟩;have HR2 := Lib.hid hr2;have HB2 := Lib.hid (HB.out.below hb2 (Nat.le_refl _));have HBB := Lib.hid (HBW.out.trans (hb2.mono HBW.out.size));clear hq2 hr2 hb2;go_wp2_with fail;go_roundg (a % gk);case measure => exact Nat.mod_lt _ h0
    case rel => exact ⟨gk,HB2.out,HR2.out,HK.out.step h0,by rw [Nt.gcd_step,HG.out],HBB.out⟩
set_option maxHeartbeats 200000
set_option maxRecDepth 512
theorem Dr.natV_snoc (rx : Nat) (l : List UInt8) (x : UInt8) : Dr.natV rx (l ++ [x]) = Dr.natV rx l * rx + Dr.val x := by simp [Dr.natV]
theorem Dr.natV_le (rx : Nat) (hrx : 1 ≤ rx) : ∀ (t a : List UInt8),Dr.natV rx a ≤ Dr.natV rx (a ++ t)
 | [],a => by simp
 | x :: t,a => by
   have h1 := Dr.natV_le rx hrx t (a ++ [x]);rw [List.append_assoc] at h1;refine Nat.le_trans ?_ h1;rw [Dr.natV_snoc];have := Nat.mul_le_mul_left (Dr.natV rx a) hrx;omega
theorem Dr.natV_take_le (rx : Nat) (hrx : 1 ≤ rx) (l : List UInt8) (k : Nat) : Dr.natV rx (l.take k) ≤ Dr.natV rx l := by
 have h := Dr.natV_le rx hrx (l.drop k) (l.take k);rwa [List.take_append_drop] at h
theorem Dr.mul_step {a ws : List Nat} {i c rx d : Nat} (h : Nt.val (ws.take i) + 4294967296 ^ i * c = Nt.val (a.take i) * rx + d) (hi : i < ws.length) :
 Nt.val ((ws.set i ((c + a.getD i 0 * rx) % 4294967296)).take (i + 1)) + 4294967296 ^ (i + 1) * ((c + a.getD i 0 * rx) / 4294967296) = Nt.val (a.take (i + 1)) * rx + d := by
 rw [Nt.val_set_take _ _ _ hi,Nt.val_take_step a,Nat.pow_succ]
 have e := Nat.div_add_mod (c + a.getD i 0 * rx) 4294967296
 generalize (c + a.getD i 0 * rx) / 4294967296 = q at *
 generalize (c + a.getD i 0 * rx) % 4294967296 = m at *
 generalize a.getD i 0 = x at *
 generalize 4294967296 ^ i = P at *
 have e1 : P * m + P * 4294967296 * q = P * c + P * x * rx := by
  rw [Nat.mul_assoc,← Nat.mul_add,show m + 4294967296 * q = c + x * rx by omega,Nat.mul_add,Nat.mul_assoc]
 rw [Nat.add_mul]
 omega
theorem Dr.mul_carry {c x rx : Nat} (hc : c < rx) (hx : x < 4294967296) : (c + x * rx) / 4294967296 < rx := by
 rw [Nat.div_lt_iff_lt_mul (by omega)];have h1 : x * rx ≤ 4294967295 * rx := Nat.mul_le_mul_right _ (by omega);have h2 : rx * 4294967296 = 4294967295 * rx + rx := by omega
 omega
theorem Dr.mul_small {c x rx : Nat} (hc : c < rx) (hx : x < 4294967296) (hr : rx ≤ 36) : x * rx < 18446744073709551616 ∧ c + x * rx < 18446744073709551616 := by
 have h1 : x * rx ≤ 4294967295 * rx := Nat.mul_le_mul_right _ (by omega);omega
theorem Dr.mul_end0 {us : List Nat} {N M : Nat} (hw : Nt.Wd us) (hl : us.length = (Nt.dig N).length) (hv : Nt.val us = M) (hN : N ≤ M) : us = Nt.dig M := by
 have h := Nt.dig_val us hw (fun hne hz => by
   have hpos := List.length_pos_iff.2 hne;have hN0 : 0 < N := Nt.dig_len_pos.1 (by omega);have h1 := Nt.dig_pow_le hN0;have h2 : Nt.val us = Nt.val (us.take (us.length - 1)) := by
    have e := Nt.val_take_succ us (us.length - 1) (by omega);rw [Nat.sub_add_cancel (by omega),List.take_length,hz] at e;simpa using e
   have h3 := Nt.val_lt _ (hw.take (us.length - 1));rw [List.length_take,Nat.min_eq_left (by omega)] at h3;rw [hl] at h2 h3
   omega)
 rw [← h,hv]
theorem Dr.mul_end1 {us : List Nat} {c M : Nat} (hw : Nt.Wd us) (hc : 0 < c) (hc2 : c < 4294967296) (hv : Nt.val us + 4294967296 ^ us.length * c = M) : us ++ [c] = Nt.dig M := by
 have h := Nt.dig_val (us ++ [c]) (fun x hx => by
   rcases List.mem_append.1 hx with h | h
   · exact hw x h
   · simp at h; omega) (fun _ => by
     rw [List.length_append,List.length_singleton,Nat.add_sub_cancel];simp
     omega)
 rw [← h,Nt.val_append,← hv];simp [Nt.val]
def Dr.cV : ByteArray := ⟨#[48,49,50,51,52,53,54,55,56,57,97,98,99,100,101,102,103,104,105,106,107,108,109,110,111,112,113,114,115,116,117,118,119,120,121,122]⟩
set_option maxRecDepth 100000
theorem Dr.tab36 : ∀ n : Fin 256,bits .or .u8 (n.val : Int) 32 = ((n.val ||| 32 : Nat) : Int) ∧ (n.val ||| 32) < 256 ∧
 ((10 ≤ Lib.indexByte Dr.cV.data.toList (UInt8.ofNat (n.val ||| 32)) ∧ Lib.indexByte Dr.cV.data.toList (UInt8.ofNat (n.val ||| 32)) = (Dr.val (UInt8.ofNat n.val) : Int) ∧ ((n.val ||| 32) ≠ n.val ∨ ((n.val ||| 32) = n.val ∧ 97 ≤ n.val))) ∨
  (Lib.indexByte Dr.cV.data.toList (UInt8.ofNat (n.val ||| 32)) < 10 ∧ 48 ≤ n.val ∧ n.val ≤ 57 ∧ Dr.val (UInt8.ofNat n.val) = n.val - 48) ∨
  (Lib.indexByte Dr.cV.data.toList (UInt8.ofNat (n.val ||| 32)) < 10 ∧ (n.val < 48 ∨ 57 < n.val) ∧ Dr.val (UInt8.ofNat n.val) = 99)) := by decide +kernel
set_option maxHeartbeats 1000000
set_option maxRecDepth 512
theorem Dr.Value_any (x : UInt8) (w : World) : Calls Tryz.prog 155 #[.int .u8 (x.toNat : Int)] w fun e w' => e = .returned (.int .i64 (Dr.val x : Int)) ∧ w = w' := by
 have ht := Dr.tab36 ⟨x.toNat,x.toNat_lt⟩;simp only [UInt8.ofNat_toNat] at ht;have hx := x.toNat_lt;obtain ⟨c,hc⟩ : ∃ z : Int,(x.toNat : Int) = z := ⟨_,rfl⟩;obtain ⟨d,hd⟩ : ∃ z : Int,((x.toNat ||| 32 : Nat) : Int) = z := ⟨_,rfl⟩;have KI : ∀ w',Calls Tryz.prog 95 #[.string Dr.cV,.int .u8 d] w' fun e w'' => e = .returned (.int .i64 (Lib.indexByte Dr.cV.data.toList (UInt8.ofNat (x.toNat ||| 32)))) ∧ w'' = w' := fun w' => by
  refine (Tryz.strings_IndexByte Dr.cV d w').mono ?_;rintro e w'' ⟨rfl,rfl⟩;rw [← hd];exact ⟨rfl,rfl⟩
 obtain ⟨k,hk⟩ : ∃ z,Lib.indexByte Dr.cV.data.toList (UInt8.ofNat (x.toNat ||| 32)) = z := ⟨_,rfl⟩;rw [hk] at KI ht;obtain ⟨ho,hlt,hcase⟩ := ht;rw [hc,hd] at ho;unfold Dr.cV at KI;have KI2 := Lib.hid KI;clear KI hk;rw [hc];have hc0 : 0 ≤ c := by omega
 have hc1 : c < 256 := by omega
 rcases hcase with ⟨h1,h2,h3⟩ | ⟨h1,h2,h3,h4⟩ | ⟨h1,h2,h4⟩
 · have e1 : decide (10 ≤ k) = true := decide_eq_true h1;have hk2 := Lib.hid h2;rcases h3 with h3 | ⟨h3,h5⟩
   · have e2 : (d != c) = true := bne_iff_ne.2 (by omega);clear h2 h3 hlt hc hd hx;go_enter Tryz.func155,Tryz.ntmps155;go_wp2_with fail;refine (KI2.out _).mono ?_;rintro x2 w2 ⟨rfl,hw2⟩;subst hw2;go_wp2_with fail;go_ret;exact ⟨congrArg (fun z => Ending.returned (Value.int .i64 z)) hk2.out,rfl⟩
   · have e2 : (d != c) = false := by rw [bne_eq_false_iff_eq]; omega
     have e3 : 97 ≤ c := by omega
     clear h2 h3 hlt hc hd hx h5;go_enter Tryz.func155,Tryz.ntmps155;go_wp2_with fail;refine (KI2.out _).mono ?_;rintro x2 w2 ⟨rfl,hw2⟩;subst hw2;go_wp2_with fail;go_ret;exact ⟨congrArg (fun z => Ending.returned (Value.int .i64 z)) hk2.out,rfl⟩
 · have e1 : decide (10 ≤ k) = false := decide_eq_false (by omega);have e2 : 48 ≤ c := by omega
   have e3 : c ≤ 57 := by omega
   have HV := Lib.hid (show ((Dr.val x : Nat) : Int) = c - 48 by omega);clear h2 h3 h4 hlt hc hd hx;go_enter Tryz.func155,Tryz.ntmps155;go_wp2_with fail;refine (KI2.out _).mono ?_;rintro x2 w2 ⟨rfl,hw2⟩;subst hw2;go_wp2_with fail;go_ret;exact ⟨congrArg (fun z => Ending.returned (Value.int .i64 z)) HV.out.symm,rfl⟩
 · have e1 : decide (10 ≤ k) = false := decide_eq_false (by omega);have HV := Lib.hid (show ((Dr.val x : Nat) : Int) = 99 by omega);have h2' : c < 48 ∨ (48 ≤ c ∧ 57 < c) := by omega
   clear h2 h4 hlt hc hd hx;rcases h2' with e2 | ⟨e2,e3⟩;all_goals
    go_enter Tryz.func155,Tryz.ntmps155;go_wp2_with fail;refine (KI2.out _).mono ?_;rintro x2 w2 ⟨rfl,hw2⟩;subst hw2;go_wp2_with fail;go_ret;exact ⟨congrArg (fun z => Ending.returned (Value.int .i64 z)) HV.out.symm,rfl⟩
set_option maxHeartbeats 200000
def Dr.PostN (w : World) (R : Option Nat) (e : Ending) (w' : World) : Prop :=
 match R with
 | none => e = .returned (.tuple #[.slice none 0 0,.int .i64 4]) ∧ Below w.heap.size w w'
 | some n => ∃ v,e = .returned (.tuple #[v,.int .i64 0]) ∧ Nt.N w' v n ∧ Below w.heap.size w w'
theorem Dr.natR_long {rx : Nat} {l : List UInt8} (h : 16384 < l.length) : Dr.natR rx l = none := by unfold Dr.natR; rw [if_pos h]
theorem Dr.natR_wide {rx : Nat} (hrx : 1 ≤ rx) {l : List UInt8} (k : Nat) (h : 512 < (Nt.dig (Dr.natV rx (l.take k))).length) : Dr.natR rx l = none := by
 unfold Dr.natR;split
 · rfl
 · rw [if_pos (Nat.lt_of_lt_of_le h (Nt.dig_len_mono (Dr.natV_take_le rx hrx l k)))]
theorem Dr.natR_some {rx : Nat} {l : List UInt8} (h1 : ¬ 16384 < l.length) (h2 : ¬ 512 < (Nt.dig (Dr.natV rx l)).length) : Dr.natR rx l = some (Dr.natV rx l) := by
 unfold Dr.natR;rw [if_neg h1,if_neg h2]
theorem Dr.vs_set (us : List Nat) (k x : Nat) : (Nt.vs us).set k (.int .u32 (x : Int)) = Nt.vs (us.set k x) := by simp [Nt.vs,List.map_set]
set_option maxHeartbeats 8000000
set_option maxRecDepth 1000000
theorem Dr.natRead (s : ByteArray) (rx : Nat) (hr1 : 2 ≤ rx) (hr2 : rx ≤ 36) (hs : s.size ≤ 9223372036854775807) (h0 : 1 ≤ s.size) (hall : ∀ k (h : k < s.size),Dr.val (s[k]'h) < rx) (w : World) :
 Calls Tryz.prog 156 #[.string s,.int .i64 (rx : Int)] w fun e w' => Dr.PostN w (Dr.natR rx s.data.toList) e w' := by
 obtain ⟨R,hR⟩ : ∃ z,Dr.natR rx s.data.toList = z := ⟨_,rfl⟩
 rw [hR]
 have HR := Lib.hid hR
 have hlen : s.data.toList.length = s.size := by simp
 have HLEN := Lib.hid hlen
 have HALL := Lib.hid hall
 have hne1 : s.toList.isEmpty = false := by
  rw [ByteArray.toList_eq,List.isEmpty_eq_false_iff];intro e;rw [e] at hlen;simp at hlen;omega
 have hne2 : ¬ s.toList = [] := by
  intro e;rw [e] at hne1;cases hne1
 have hr1I : 2 ≤ (rx : Int) := by omega
 have hr2I : (rx : Int) ≤ 36 := by omega
 obtain ⟨i0,hi0,hz0,hz1,hz2⟩ := info_parts Nt.infoWord
 clear hR hall hlen
 go_enter Tryz.func156,Tryz.ntmps156
 go_wp2_with fail
 go_loop [22] (fun i => ∃ k : Nat,k ≤ s.size ∧ i = .int .i64 (k : Int)) (fun i => s.size - (intOf i).toNat)
 case atStart => exact ⟨0,Nat.zero_le _,rfl⟩
 case round =>
  obtain ⟨k,hk,rfl⟩ := hrel
  by_cases hlt : k < s.size
  · have KV := fun w' => Dr.Value_any (s[k]'hlt) w';have hv := HALL.out k hlt;obtain ⟨v,hv2⟩ : ∃ z,Dr.val (s[k]'hlt) = z := ⟨_,rfl⟩;rw [hv2] at KV hv;have hvd : decide (rx ≤ v) = false := decide_eq_false (by omega);have KV2 := Lib.hid KV;clear KV hv2;go_wp2_with (first | (go_at_call 155; refine (KV2.out _).mono ?_; rintro x w2 ⟨rfl,hw2⟩; subst hw2));exact ⟨⟨k + 1,hlt,rfl⟩,by simp [intOf]; omega⟩
  · have hnk : ¬ ((k : Int) < (s.size : Int)) := by omega
    by_cases hbig : 16384 < s.size
    · have HE := Lib.hid (show Dr.PostN w R (.returned (.tuple #[.slice none 0 0,.int .i64 4])) w from by
       rw [← HR.out,Dr.natR_long (by rw [HLEN.out]; exact hbig)]
       exact ⟨rfl,Below.refl _ _⟩)
      have hbigI : 16384 < (s.size : Int) := by omega
      clear hi0 hz0 hz1 hz2;go_wp2_with fail;go_ret2;exact HE.out
    have hbigI : (s.size : Int) ≤ 16384 := by omega
    have hbigN : s.size ≤ 16384 := by omega
    have HBIG := Lib.hid hbig;obtain ⟨B,hB⟩ : ∃ z,w.heap.size = z := ⟨_,rfl⟩;have HB := Lib.hid hB;have H0 := Lib.hid (show ∃ (ki : Nat) (ds : List Nat),ki ≤ s.size ∧ Value.int .i64 (0 : Int) = .int .i64 (ki : Int) ∧ ds = Nt.dig (Dr.natV rx (s.data.toList.take ki)) ∧ ds.length ≤ 512 ∧ w.ownsRow B 57 1 (.slice none 0 0) ds.length (Nt.vs ds) ∧ Below B w w from
      ⟨0,[],Nat.zero_le _,rfl,by rw [List.take_zero]; exact Nt.dig_zero.symm,by decide,World.ownsRow_nil w B _ _,Below.refl _ _⟩)
    clear hB hk hbig;go_wp2_with fail;clear hlt hnk;go_loopw [7,37] (fun v7 ci wr => ∃ (ki : Nat) (ds : List Nat),ki ≤ s.size ∧ ci = .int .i64 (ki : Int) ∧ ds = Nt.dig (Dr.natV rx (s.data.toList.take ki)) ∧ ds.length ≤ 512 ∧ wr.ownsRow B 57 1 v7 ds.length (Nt.vs ds) ∧ Below B w wr) (fun _ ci _ => s.size - (intOf ci).toNat);case atStart => exact H0.out
    case round =>
     obtain ⟨ki,ds,hki,rfl,hds,hdl,hown,hbw⟩ := hrel;clear H0;by_cases hlt : ki < s.size
     · have KV := fun w' => Dr.Value_any (s[ki]'hlt) w';have hv := HALL.out ki hlt;obtain ⟨d,hd⟩ : ∃ z,Dr.val (s[ki]'hlt) = z := ⟨_,rfl⟩;have htake : s.data.toList.take (ki + 1) = s.data.toList.take ki ++ [s[ki]'hlt] := by
        rw [List.take_succ_eq_append_getElem (by simpa using hlt)]; rfl
       have hM : Dr.natV rx (s.data.toList.take (ki + 1)) = Dr.natV rx (s.data.toList.take ki) * rx + d := by rw [htake,Dr.natV_snoc,hd]
       rw [hd] at KV hv;obtain ⟨N,hN⟩ : ∃ z,Dr.natV rx (s.data.toList.take ki) = z := ⟨_,rfl⟩;rw [hN] at hds hM;have HM := Lib.hid hM;have HN0 := Lib.hid hN;have HDS := Lib.hid hds;have hNM : N ≤ N * rx + d := Nat.le_trans (Nat.le_mul_of_pos_right N (by omega)) (Nat.le_add_right _ _);obtain ⟨M,hMM⟩ : ∃ z,N * rx + d = z := ⟨_,rfl⟩;have HMM := Lib.hid hMM;have HNM := Lib.hid (show N ≤ M by rw [← hMM]; exact hNM);have hval0 : Nt.val ds = N := by rw [hds,Nt.val_dig]
       have HVAL0 := Lib.hid hval0;have HWD0 := Lib.hid (show Nt.Wd ds by rw [hds]; exact Nt.dig_wd N);have HDN := Lib.hid (show ds.length = (Nt.dig N).length by rw [hds]);obtain ⟨n,hn⟩ : ∃ n,ds.length = n := ⟨_,rfl⟩;have HLN := Lib.hid hn;rw [hn] at hdl hown;have hsl : ∃ ad cap,u7 = .slice ad n cap := by
        rcases hown.2 with ⟨e1,e2⟩ | ⟨g,cap,cur,e1,_⟩
        · exact ⟨none,0,by rw [e1,e2]⟩
        · exact ⟨_,_,e1⟩
       obtain ⟨ad,cap,rfl⟩ := hsl;have KV2 := Lib.hid KV;have hdI : (d : Int) < 36 := by omega
       have hd0 : 0 ≤ (d : Int) := by omega
       have g0 : IntKind.u64.wrap (d : Int) = (d : Int) := by rw [IntKind.wrap_u64]; omega
       have HI := Lib.hid (show ∃ (j c : Nat) (us : List Nat),j ≤ n ∧ Value.int .i64 (0 : Int) = .int .i64 (j : Int) ∧ Value.int .u64 (d : Int) = .int .u64 (c : Int) ∧ c < rx ∧ us.length = n ∧ Nt.Wd us ∧ (∀ t,j ≤ t → us.getD t 0 = ds.getD t 0) ∧ Nt.val (us.take j) + 4294967296 ^ j * c = Nt.val (ds.take j) * rx + d ∧ wr.ownsRow B 57 1 (.slice ad n cap) n (Nt.vs us) ∧ Below B w wr from
         ⟨0,d,ds,Nat.zero_le _,rfl,rfl,hv,hn,HWD0.out,fun _ _ => rfl,by simp [Nt.val],hown,hbw⟩)
       clear hM hN hds hNM hMM hval0 hn KV hd htake hown hbw;go_wp2_with (first | (go_at_call 155; refine (KV2.out _).mono ?_; rintro x w2 ⟨rfl,hw2⟩; subst hw2));go_loopw [9,47] (fun cv ji wr2 => ∃ (j c : Nat) (us : List Nat),j ≤ n ∧ ji = .int .i64 (j : Int) ∧ cv = .int .u64 (c : Int) ∧ c < rx ∧ us.length = n ∧ Nt.Wd us ∧ (∀ t,j ≤ t → us.getD t 0 = ds.getD t 0) ∧ Nt.val (us.take j) + 4294967296 ^ j * c = Nt.val (ds.take j) * rx + d ∧ wr2.ownsRow B 57 1 (.slice ad n cap) n (Nt.vs us) ∧ Below B w wr2) (fun _ ji _ => n - (intOf ji).toNat);case atStart => exact HI.out
       case round =>
        obtain ⟨j,c,us,hj,rfl,rfl,hc,hul,hud,hut,huv,hown,hbw⟩ := hrel;clear HI KV2 g0;obtain ⟨wi,hwi⟩ : ∃ z,z = wr := ⟨_,rfl⟩;have HUL := Lib.hid hul;have HUD := Lib.hid hud;have HUT := Lib.hid hut;have HUV := Lib.hid huv;have HBW := Lib.hid hbw;clear hul hud hut huv hbw hwi;by_cases hlt2 : j < n
        · have hT : ∃ T,ad = some ⟨T,0,none⟩ ∧ B ≤ T := by
           rcases hown.2 with ⟨e1,e2⟩ | ⟨g,cap,cur,e2,e1,_⟩
           · omega
           · simp only [Value.slice.injEq] at e2;exact ⟨g,e2.1,e1⟩
          obtain ⟨T,rfl,hBT⟩ := hT;have hin : (Nt.vs us)[j]? = some (.int .u32 (us.getD j 0 : Nat)) := by
           rw [List.getD_eq_getElem?_getD,Nt.vs,List.getElem?_map,List.getElem?_eq_getElem (by rw [HUL.out]; exact hlt2)];rfl
          have c1 := hown.cellAt j (by omega);rw [hin] at c1;have hx : us.getD j 0 < 4294967296 := HUD.out.getD j;have hxd : us.getD j 0 = ds.getD j 0 := HUT.out j (Nat.le_refl _);have hstep := Dr.mul_step (a := ds) (ws := us) (i := j) (c := c) (rx := rx) (d := d) HUV.out (by rw [HUL.out]; exact hlt2);rw [← hxd] at hstep;obtain ⟨x,hxx⟩ : ∃ z,us.getD j 0 = z := ⟨_,rfl⟩;rw [hxx] at hx hstep c1;have hcar := Dr.mul_carry hc hx;obtain ⟨hsm1,hsm2⟩ := Dr.mul_small hc hx hr2;obtain ⟨p,hp⟩ : ∃ p,x * rx = p := ⟨_,rfl⟩;have g3 : IntKind.u64.wrap ((x : Int) * (rx : Int)) = (p : Int) := by
           rw [IntKind.wrap_u64,← Int.natCast_mul,hp]; omega
          rw [hp] at hstep hcar hsm1 hsm2;obtain ⟨t,ht⟩ : ∃ t,c + p = t := ⟨_,rfl⟩;have g4 : IntKind.u64.wrap ((c : Int) + (p : Int)) = (t : Int) := by rw [IntKind.wrap_u64]; omega
          rw [ht] at hstep hcar hsm2;obtain ⟨lo,hlo⟩ : ∃ lo,t % 4294967296 = lo := ⟨_,rfl⟩;obtain ⟨hi,hhi⟩ : ∃ hi,t / 4294967296 = hi := ⟨_,rfl⟩;have hloI : (t : Int) % 4294967296 = (lo : Int) := by rw [← hlo]; rfl
          have hhiI : (t : Int) / 4294967296 = (hi : Int) := by rw [← hhi]; rfl
          have hlol : lo < 4294967296 := by omega
          have g1 : IntKind.u64.wrap (x : Int) = (x : Int) := by rw [IntKind.wrap_u64]; omega
          have g2 : IntKind.u64.wrap (rx : Int) = (rx : Int) := by rw [IntKind.wrap_u64]; omega
          have g5 : IntKind.u32.wrap (t : Int) = (lo : Int) := by rw [IntKind.wrap_u32]; exact hloI
          rw [hlo,hhi] at hstep;rw [hhi] at hcar;have hst := hown.stored j (.int .u32 (lo : Int));rw [Dr.vs_set] at hst;have hfz := hown.frozenAt j;have hbs : Below B w (wr.setCell ⟨T,j,none⟩ (.int .u32 (lo : Int))) := HBW.out.setCell (p := ⟨T,j,none⟩) hBT _;obtain ⟨W,hW⟩ : ∃ W,wr.setCell ⟨T,j,none⟩ (.int .u32 (lo : Int)) = W := ⟨_,rfl⟩;rw [hW] at hst hbs;have HE := Lib.hid (show (∃ (j' c' : Nat) (us' : List Nat),j' ≤ n ∧ Value.int .i64 ((j : Int) + 1) = .int .i64 (j' : Int) ∧ Value.int .u64 (hi : Int) = .int .u64 (c' : Int) ∧ c' < rx ∧ us'.length = n ∧ Nt.Wd us' ∧ (∀ t,j' ≤ t → us'.getD t 0 = ds.getD t 0) ∧ Nt.val (us'.take j') + 4294967296 ^ j' * c' = Nt.val (ds.take j') * rx + d ∧ W.ownsRow B 57 1 (.slice (some ⟨T,0,none⟩) n cap) n (Nt.vs us') ∧ Below B w W) from
            ⟨j + 1,hi,us.set j lo,hlt2,rfl,rfl,hcar,by rw [List.length_set]; exact HUL.out,HUD.out.set _ _ hlol,fun t ht => by rw [Nt.getD_set_ne us j t lo (by omega)]; exact HUT.out t (by omega),hstep,hst.1,hbs⟩)
          have hjn : (j : Int) < (n : Int) := by omega
          have hj0 : 0 ≤ (j : Int) := by omega
          have hn512 : (n : Int) ≤ 512 := by omega
          clear hp ht hlo hhi hstep hcar hst hbs hown hin hxd hxx hx hsm1 hsm2 HUL HUD HUT HUV HBW;go_wp2_with fail;exact ⟨HE.out,by simp [intOf]; omega⟩
        · have hjn : j = n := by omega
          have huv := HUV.out;rw [hjn,List.take_of_length_le (by rw [HUL.out]; exact Nat.le_refl _),List.take_of_length_le (by rw [HLN.out]; exact Nat.le_refl _),HVAL0.out,HMM.out] at huv;have hnj : ¬ j < n := hlt2;have hmeas : s.size - (ki + 1) < s.size - ki := by omega
          by_cases hc0 : c = 0
          · rw [hc0,Nat.mul_zero,Nat.add_zero] at huv;have hdig := Dr.mul_end0 HUD.out (by rw [HUL.out,← HLN.out]; exact HDN.out) huv HNM.out;have hnl : us.length = n := HUL.out;have HE := Lib.hid (show (∃ (ki' : Nat) (ds' : List Nat),ki' ≤ s.size ∧ Value.int .i64 ((ki : Int) + 1) = .int .i64 (ki' : Int) ∧ ds' = Nt.dig (Dr.natV rx (s.data.toList.take ki')) ∧ ds'.length ≤ 512 ∧ wr.ownsRow B 57 1 (.slice ad n cap) ds'.length (Nt.vs ds') ∧ Below B w wr) from
              ⟨ki + 1,us,hlt,rfl,by rw [HM.out,HMM.out]; exact hdig,by omega,by rw [hnl]; exact hown,HBW.out⟩)
            have hn512 : (n : Int) ≤ 512 := by omega
            subst hc0;clear hown hdig hnl huv hjn HUL HUD HUT HUV HBW hmeas;go_wp2_with fail;exact ⟨HE.out,by simp [intOf]; omega⟩
          · have hc1 : 0 < c := by omega
            have hcI : 0 < (c : Int) := by omega
            have hc32 : c < 4294967296 := by omega
            have g1 : IntKind.u32.wrap (c : Int) = (c : Int) := by rw [IntKind.wrap_u32]; omega
            have hdig := Dr.mul_end1 (M := M) HUD.out hc1 hc32 (by rw [HUL.out]; exact huv);have hBz : B ≤ wr.heap.size := by have h1 := HBW.out.size; have h2 := HB.out; omega
            have HDG := Lib.hid (show us ++ [c] = Nt.dig (Dr.natV rx (s.data.toList.take (ki + 1))) by rw [HM.out,HMM.out]; exact hdig);have HLL := Lib.hid (show (us ++ [c]).length = n + 1 by rw [List.length_append,HUL.out]; rfl);have HVS := Lib.hid (show Nt.vs us ++ [Value.int .u32 (c : Int)] = Nt.vs (us ++ [c]) by simp [Nt.vs]);have hnews : ∀ j u,([Value.int .u32 (c : Int)] : List Value)[j]? = some u → (wr.alloc (.cells #[.int .u32 (c : Int)] 57)).cell? ((⟨wr.heap.size,0,none⟩ : Addr).add j) = some u := by
             intro j u hj;match j,hj with
             | 0,hj => simp at hj; subst hj; simp [Addr.add]
            have HNEW := Lib.hid hnews;have hown1 := hown.alloc (.cells #[.int .u32 (c : Int)] 57);have HB1 := Lib.hid (HBW.out.alloc hBz (.cells #[.int .u32 (c : Int)] 57));clear hdig huv hjn HUL HUD HUT HUV HBW hnews hc0;by_cases h512 : n = 512
            · subst h512;have HE0 := Lib.hid (fun (W : World) (hb : Below B w W) => show Dr.PostN w R (.returned (.tuple #[.slice none 0 0,.int .i64 4])) W from by
                rw [← HR.out,Dr.natR_wide (by omega) (ki + 1) (by rw [← HDG.out,HLL.out]; decide)]
                exact ⟨rfl,HB.out ▸ hb⟩)
              go_wp2_with (at_builtin; refine wpList_append_own _ rfl _ _ 22 rfl B 57 i0 (.int .u32 0) 1 4 Tryz.underlying22 hi0 hz0 hz1 hz2 rfl (by decide) _ _ _ rfl hown1 ⟨wr.heap.size,0,none⟩ 1 1 [.int .u32 (c : Int)] rfl rfl HNEW.out (fun u hu => by simp at hu; subst hu; rfl) (by decide) (by decide) (by simp; omega) ?_);intro v9 w9 hown9 hgr9 _;have hb9 := HB1.out.grown hgr9 (by simp; omega) (fun k hk => (hown1.lt k hk).1);have HE := Lib.hid (HE0.out w9 hb9);have hs9 : ∃ ad cap,v9 = .slice ad (512 + 1) cap := by
               rcases hown9.2 with ⟨e1,e2⟩ | ⟨g,cap,cur,e1,_⟩
               · omega
               · exact ⟨_,_,e1⟩
              obtain ⟨ad9,cap9,rfl⟩ := hs9;clear hown9 hgr9 hb9 HE0 hown1 hown;go_wp2_with fail;go_ret2;exact HE.out
            · have hn1 : n + 1 ≤ 512 := by omega
              have hn1I : (n : Int) + 1 ≤ 512 := by omega
              have HE0 := Lib.hid (fun (v' : Value) (W : World) (hb : Below B w W) (ho : W.ownsRow B 57 1 v' (n + 1) (Nt.vs us ++ [Value.int .u32 (c : Int)])) => show (∃ (ki' : Nat) (ds' : List Nat),ki' ≤ s.size ∧ Value.int .i64 ((ki : Int) + 1) = .int .i64 (ki' : Int) ∧ ds' = Nt.dig (Dr.natV rx (s.data.toList.take ki')) ∧ ds'.length ≤ 512 ∧ W.ownsRow B 57 1 v' ds'.length (Nt.vs ds') ∧ Below B w W) from
                ⟨ki + 1,us ++ [c],hlt,rfl,HDG.out,by rw [HLL.out]; exact hn1,by rw [HLL.out,← HVS.out]; exact ho,hb⟩)
              clear h512;go_wp2_with (at_builtin; refine wpList_append_own _ rfl _ _ 22 rfl B 57 i0 (.int .u32 0) 1 4 Tryz.underlying22 hi0 hz0 hz1 hz2 rfl (by decide) _ _ _ rfl hown1 ⟨wr.heap.size,0,none⟩ 1 1 [.int .u32 (c : Int)] rfl rfl HNEW.out (fun u hu => by simp at hu; subst hu; rfl) (by unfold maxLen; omega) (by omega) (by simp; omega) ?_);intro v9 w9 hown9 hgr9 _;have hb9 := HB1.out.grown hgr9 (by simp; omega) (fun k hk => (hown1.lt k hk).1);have HE := Lib.hid (HE0.out v9 w9 hb9 hown9);have hs9 : ∃ ad cap,v9 = .slice ad (n + 1) cap := by
               rcases hown9.2 with ⟨e1,e2⟩ | ⟨g,cap,cur,e1,_⟩
               · omega
               · exact ⟨_,_,e1⟩
              obtain ⟨ad9,cap9,rfl⟩ := hs9;clear hown9 hgr9 hb9 HE0 hown1 hown;go_wp2_with fail;exact ⟨HE.out,by simp [intOf]; omega⟩
     · have hke : ki = s.size := by omega
       have htk : s.data.toList.take ki = s.data.toList := List.take_of_length_le (by rw [HLEN.out]; omega);rw [htk] at hds;have hle : (Nt.dig (Dr.natV rx s.data.toList)).length ≤ 512 := by rw [← hds]; exact hdl
       have hx := Dr.natR_some (rx := rx) (l := s.data.toList) (by rw [HLEN.out]; exact HBIG.out) (by omega);rw [HR.out] at hx;have hin := Nt.In.of_own hown;rw [hds] at hin;have HE := Lib.hid (show Dr.PostN w R (.returned (.tuple #[u7,.int .i64 0])) wr from by
         rw [hx]
         exact ⟨u7,rfl,hin,HB.out ▸ hbw⟩)
       have hnk : ¬ ki < s.size := hlt;clear hds hle hx hin hown hbw htk hke;go_wp2_with fail;go_ret2;exact HE.out
set_option maxHeartbeats 200000
set_option maxRecDepth 512
def Dr.leaf (k n : Int) (x : List UInt8) : Tr := .mk ⟨k,n,false,[],[],false,[],[],⟨x.toArray⟩,⟨#[]⟩⟩ []
def Dr.nil : Tr := Dr.leaf 1 0 []
def Dr.numT (re im : Dr.Fr) : Tr := .mk ⟨3,0,re.1,Nt.dig re.2.1,Nt.dig re.2.2,im.1,Nt.dig im.2.1,Nt.dig im.2.2,⟨#[]⟩,⟨#[]⟩⟩ []
def Dr.bytesT (b : List UInt8) : Tr := .mk ⟨7,0,false,[],[],false,[],[],⟨#[]⟩,⟨b.toArray⟩⟩ []
def Dr.vec (l : List Tr) : Tr := .mk ⟨9,0,false,[],[],false,[],[],⟨#[]⟩,⟨#[]⟩⟩ l
def Dr.cons (a r : Tr) : Tr := .mk ⟨8,0,false,[],[],false,[],[],⟨#[]⟩,⟨#[]⟩⟩ [a,r]
def Dr.listT (l : List Tr) (last : Tr) : Tr := l.foldr Dr.cons last
def Dr.atom (t : List UInt8) : Option (Tr × Bool) :=
 if t = [35,116] ∨ t = [35,84] then some (Dr.leaf 2 1 [],false)
 else if t = [35,102] ∨ t = [35,70] then some (Dr.leaf 2 0 [],false)
 else if t = [43] ∨ t = [45] ∨ t = [46,46,46] then some (Dr.leaf 6 0 t,false)
 else match Dr.num t with
  | .ok re im => some (Dr.numT re im,false)
  | .err e => if e = 4 then some (Dr.leaf 10 0 [],true) else if e = 3 then none else (Dr.symbol t).map fun x => (Dr.leaf 6 0 x,false)
def Dr.byteOf : Tr → Option UInt8
 | .mk h _ => if h.k = 3 ∧ Nt.val h.t2 = 0 ∧ Nt.val h.b1 = 1 ∧ Nt.val h.t1 ≤ 255 ∧ (h.s1 = true → Nt.val h.t1 = 0) then some (UInt8.ofNat (Nt.val h.t1)) else none
def Dr.bytesOf : List Tr → Option (List UInt8)
 | [] => some []
 | t :: ts => match Dr.byteOf t with | none => none | some b => (Dr.bytesOf ts).map fun x => b :: x
inductive Dr.Job where
 | blanks (l : List UInt8)
 | datum (l : List UInt8)
 | items (e : Int) (l : List UInt8)
 | pairs (e : Int) (fresh : Bool) (l : List UInt8)
inductive Dr.Res where
 | fault
 | skip (l : List UInt8)
 | got (t : Tr) (l : List UInt8) (big : Bool)
 | list (ts : List Tr) (l : List UInt8) (big : Bool)
 | lst (ts : List Tr) (last : Tr) (l : List UInt8) (big : Bool)
def Dr.close (c : Int) : Int := if c = 40 then 41 else 93
inductive Dr.Bk where
 | fault | stop
 | go (l : List UInt8)
 | datum (l : List UInt8)
def Dr.bk (l : List UInt8) : Dr.Bk :=
 if l = [] then .stop else if Dr.bad l = true then .fault
 else if Ch.blankB (Dr.cp l) = true then .go (l.drop (Dr.wd l))
 else if Dr.cp l = 59 then (match Dr.line l with | none => .fault | some r => .go r)
 else if l.take 2 = [35,59] then .datum (l.drop 2)
 else if l.take 2 = [35,124] then (match Dr.remark 0 l with | none => .fault | some r => .go r)
 else .stop
inductive Dr.Dk where
 | fault
 | done (t : Tr) (l : List UInt8) (big : Bool)
 | pairs (e : Int) (l : List UInt8)
 | quote (l : List UInt8)
 | vec (l : List UInt8)
 | bytes (l : List UInt8)
def Dr.dk (l : List UInt8) : Dr.Dk :=
 if l = [] then .fault else if Dr.bad l = true then .fault
 else if Dr.cp l = 40 ∨ Dr.cp l = 91 then .pairs (Dr.close (Dr.cp l)) (l.drop (Dr.wd l))
 else if Dr.cp l = 34 then (match Dr.text (l.drop (Dr.wd l)) with | none => .fault | some x => .done (Dr.leaf 5 0 x.1) x.2 false)
 else if Dr.cp l = 39 then .quote (l.drop (Dr.wd l))
 else if l.take 2 = [35,40] then .vec (l.drop 2)
 else if l.take 5 = [35,118,117,56,40] then .bytes (l.drop 5)
 else if l.take 2 = [35,92] then (match Dr.char (l.drop 2) with | none => .fault | some x => .done (Dr.leaf 4 x.1 []) x.2 false)
 else match Dr.token l with
  | none => .fault
  | some r => (match Dr.atom (Dr.upto l r) with | none => .fault | some x => .done x.1 r x.2)
inductive Dr.Pk where
 | fault | stop (l : List UInt8) | dot (l : List UInt8) | item
def Dr.pk (e : Int) (fresh : Bool) (l : List UInt8) : Dr.Pk :=
 if l = [] then .item else if Dr.bad l = true then .fault
 else if Dr.cp l = e then .stop (l.drop (Dr.wd l))
 else if (decide (Dr.cp l = 46) && !fresh) = true then (match Dr.token l with | none => .fault | some r => if Dr.upto l r = [46] then .dot r else .item)
 else .item
inductive Dr.Rel : Dr.Job → Dr.Res → Prop where
 | bFault {l} (h : Dr.bk l = .fault) : Dr.Rel (.blanks l) .fault
 | bStop {l} (h : Dr.bk l = .stop) : Dr.Rel (.blanks l) (.skip l)
 | bGo {l r R} (h : Dr.bk l = .go r) (h2 : Dr.Rel (.blanks r) R) : Dr.Rel (.blanks l) R
 | bDat1 {l r} (h : Dr.bk l = .datum r) (h2 : Dr.Rel (.blanks r) .fault) : Dr.Rel (.blanks l) .fault
 | bDat2 {l r r1} (h : Dr.bk l = .datum r) (h2 : Dr.Rel (.blanks r) (.skip r1)) (h3 : Dr.Rel (.datum r1) .fault) : Dr.Rel (.blanks l) .fault
 | bDat3 {l r r1 t r2 big R} (h : Dr.bk l = .datum r) (h2 : Dr.Rel (.blanks r) (.skip r1)) (h3 : Dr.Rel (.datum r1) (.got t r2 big)) (h4 : Dr.Rel (.blanks r2) R) : Dr.Rel (.blanks l) R
 | dFault {l} (h : Dr.dk l = .fault) : Dr.Rel (.datum l) .fault
 | dDone {l t r big} (h : Dr.dk l = .done t r big) : Dr.Rel (.datum l) (.got t r big)
 | dPairs1 {l e r} (h : Dr.dk l = .pairs e r) (h2 : Dr.Rel (.pairs e true r) .fault) : Dr.Rel (.datum l) .fault
 | dPairs2 {l e r ts last r2 big} (h : Dr.dk l = .pairs e r) (h2 : Dr.Rel (.pairs e true r) (.lst ts last r2 big)) : Dr.Rel (.datum l) (.got (Dr.listT ts last) r2 big)
 | dQuote1 {l r} (h : Dr.dk l = .quote r) (h2 : Dr.Rel (.blanks r) .fault) : Dr.Rel (.datum l) .fault
 | dQuote2 {l r r1} (h : Dr.dk l = .quote r) (h2 : Dr.Rel (.blanks r) (.skip r1)) (h3 : Dr.Rel (.datum r1) .fault) : Dr.Rel (.datum l) .fault
 | dQuote3 {l r r1 t r2 big} (h : Dr.dk l = .quote r) (h2 : Dr.Rel (.blanks r) (.skip r1)) (h3 : Dr.Rel (.datum r1) (.got t r2 big)) : Dr.Rel (.datum l) (.got (Dr.listT [Dr.leaf 6 0 [113,117,111,116,101],t] Dr.nil) r2 big)
 | dVec1 {l r} (h : Dr.dk l = .vec r) (h2 : Dr.Rel (.items 41 r) .fault) : Dr.Rel (.datum l) .fault
 | dVec2 {l r ts r2 big} (h : Dr.dk l = .vec r) (h2 : Dr.Rel (.items 41 r) (.list ts r2 big)) : Dr.Rel (.datum l) (.got (Dr.vec ts) r2 big)
 | dByt1 {l r} (h : Dr.dk l = .bytes r) (h2 : Dr.Rel (.items 41 r) .fault) : Dr.Rel (.datum l) .fault
 | dByt2 {l r ts r2 big} (h : Dr.dk l = .bytes r) (h2 : Dr.Rel (.items 41 r) (.list ts r2 big)) (h3 : Dr.bytesOf ts = none) : Dr.Rel (.datum l) .fault
 | dByt3 {l r ts r2 big b} (h : Dr.dk l = .bytes r) (h2 : Dr.Rel (.items 41 r) (.list ts r2 big)) (h3 : Dr.bytesOf ts = some b) : Dr.Rel (.datum l) (.got (Dr.bytesT b) r2 big)
 | iFault1 {e l} (h : Dr.Rel (.blanks l) .fault) : Dr.Rel (.items e l) .fault
 | iFault2 {e l r} (h : Dr.Rel (.blanks l) (.skip r)) (h2 : Dr.pk e true r = .fault) : Dr.Rel (.items e l) .fault
 | iStop {e l r r2} (h : Dr.Rel (.blanks l) (.skip r)) (h2 : Dr.pk e true r = .stop r2) : Dr.Rel (.items e l) (.list [] r2 false)
 | iItem1 {e l r} (h : Dr.Rel (.blanks l) (.skip r)) (h2 : Dr.pk e true r = .item) (h3 : Dr.Rel (.datum r) .fault) : Dr.Rel (.items e l) .fault
 | iItem2 {e l r t r2 big} (h : Dr.Rel (.blanks l) (.skip r)) (h2 : Dr.pk e true r = .item) (h3 : Dr.Rel (.datum r) (.got t r2 big)) (h4 : Dr.Rel (.items e r2) .fault) : Dr.Rel (.items e l) .fault
 | iItem3 {e l r t r2 big ts r3 big2} (h : Dr.Rel (.blanks l) (.skip r)) (h2 : Dr.pk e true r = .item) (h3 : Dr.Rel (.datum r) (.got t r2 big)) (h4 : Dr.Rel (.items e r2) (.list ts r3 big2)) : Dr.Rel (.items e l) (.list (t :: ts) r3 (big || big2))
 | pFault1 {e f l} (h : Dr.Rel (.blanks l) .fault) : Dr.Rel (.pairs e f l) .fault
 | pFault2 {e f l r} (h : Dr.Rel (.blanks l) (.skip r)) (h2 : Dr.pk e f r = .fault) : Dr.Rel (.pairs e f l) .fault
 | pStop {e f l r r2} (h : Dr.Rel (.blanks l) (.skip r)) (h2 : Dr.pk e f r = .stop r2) : Dr.Rel (.pairs e f l) (.lst [] Dr.nil r2 false)
 | pDot1 {e f l r r2} (h : Dr.Rel (.blanks l) (.skip r)) (h2 : Dr.pk e f r = .dot r2) (h3 : Dr.Rel (.blanks r2) .fault) : Dr.Rel (.pairs e f l) .fault
 | pDot2 {e f l r r2 r3} (h : Dr.Rel (.blanks l) (.skip r)) (h2 : Dr.pk e f r = .dot r2) (h3 : Dr.Rel (.blanks r2) (.skip r3)) (h4 : Dr.Rel (.datum r3) .fault) : Dr.Rel (.pairs e f l) .fault
 | pDot3 {e f l r r2 r3 t r4 big} (h : Dr.Rel (.blanks l) (.skip r)) (h2 : Dr.pk e f r = .dot r2) (h3 : Dr.Rel (.blanks r2) (.skip r3)) (h4 : Dr.Rel (.datum r3) (.got t r4 big)) (h5 : Dr.Rel (.blanks r4) .fault) : Dr.Rel (.pairs e f l) .fault
 | pDot4 {e f l r r2 r3 t r4 big r5} (h : Dr.Rel (.blanks l) (.skip r)) (h2 : Dr.pk e f r = .dot r2) (h3 : Dr.Rel (.blanks r2) (.skip r3)) (h4 : Dr.Rel (.datum r3) (.got t r4 big)) (h5 : Dr.Rel (.blanks r4) (.skip r5)) (h6 : ∀ r6,Dr.pk e true r5 ≠ .stop r6) : Dr.Rel (.pairs e f l) .fault
 | pDot5 {e f l r r2 r3 t r4 big r5 r6} (h : Dr.Rel (.blanks l) (.skip r)) (h2 : Dr.pk e f r = .dot r2) (h3 : Dr.Rel (.blanks r2) (.skip r3)) (h4 : Dr.Rel (.datum r3) (.got t r4 big)) (h5 : Dr.Rel (.blanks r4) (.skip r5)) (h6 : Dr.pk e true r5 = .stop r6) : Dr.Rel (.pairs e f l) (.lst [] t r6 big)
 | pItem1 {e f l r} (h : Dr.Rel (.blanks l) (.skip r)) (h2 : Dr.pk e f r = .item) (h3 : Dr.Rel (.datum r) .fault) : Dr.Rel (.pairs e f l) .fault
 | pItem2 {e f l r t r2 big} (h : Dr.Rel (.blanks l) (.skip r)) (h2 : Dr.pk e f r = .item) (h3 : Dr.Rel (.datum r) (.got t r2 big)) (h4 : Dr.Rel (.pairs e false r2) .fault) : Dr.Rel (.pairs e f l) .fault
 | pItem3 {e f l r t r2 big ts last r3 big2} (h : Dr.Rel (.blanks l) (.skip r)) (h2 : Dr.pk e f r = .item) (h3 : Dr.Rel (.datum r) (.got t r2 big)) (h4 : Dr.Rel (.pairs e false r2) (.lst ts last r3 big2)) : Dr.Rel (.pairs e f l) (.lst (t :: ts) last r3 (big || big2))
theorem Dr.Rel.det {j : Dr.Job} {R : Dr.Res} (h : Dr.Rel j R) : ∀ {R' : Dr.Res},Dr.Rel j R' → R = R' := by
 induction h <;> intro R' k <;> cases k <;> first
  | rfl
  | (simp_all; done)
  | (rename_i a b; grind)
  | grind
theorem Dr.line_le : ∀ (n : Nat) (l : List UInt8),l.length ≤ n → ∀ r,Dr.line l = some r → r.length ≤ l.length
 | n,l,hl,r,h => by
   rw [Dr.line] at h;split at h
   · simp only [Option.some.injEq] at h; rw [h]; exact Nat.le_refl _
   · rename_i hne;split at h
     · cases h
     · split at h
       · simp only [Option.some.injEq] at h; rw [h]; exact Nat.le_refl _
       · have hlt := Dr.drop_lt hne;cases n with
         | zero => exact absurd (List.length_eq_zero_iff.1 (Nat.le_zero.1 hl)) hne
         | succ n =>
           have := Dr.line_le n _ (by omega) r h;omega
theorem Dr.remark_lt : ∀ (n d : Nat) (l : List UInt8),l.length ≤ n → ∀ r,Dr.remark d l = some r → r.length < l.length
 | n,d,l,hl,r,h => by
   rw [Dr.remark] at h;have two : ∀ {a b : UInt8},l.take 2 = [a,b] → 2 ≤ l.length := fun e => by
    have := congrArg List.length e;simp at this;omega
   split at h
   · rename_i h1;have h2 := two h1;cases n with
     | zero => omega
     | succ n =>
       have := Dr.remark_lt n (d + 1) (l.drop 2) (by rw [List.length_drop]; omega) r h;rw [List.length_drop] at this;omega
   · split at h
     · rename_i h1;have h2 := two h1;split at h
       · simp only [Option.some.injEq] at h;rw [← h,List.length_drop];omega
       · cases n with
         | zero => omega
         | succ n =>
           have := Dr.remark_lt n (d - 1) (l.drop 2) (by rw [List.length_drop]; omega) r h;rw [List.length_drop] at this;omega
     · split at h
       · cases h
       · rename_i hne;have hlt := Dr.drop_lt hne;split at h
         · cases h
         · cases n with
           | zero => exact absurd (List.length_eq_zero_iff.1 (Nat.le_zero.1 hl)) hne
           | succ n =>
             have := Dr.remark_lt n d _ (by omega) r h;omega
theorem Dr.token_le : ∀ (n : Nat) (l : List UInt8),l.length ≤ n → ∀ r,Dr.token l = some r → r.length ≤ l.length
 | n,l,hl,r,h => by
   rw [Dr.token] at h;split at h
   · simp only [Option.some.injEq] at h; rw [h]; exact Nat.le_refl _
   · rename_i hne;have hlt := Dr.drop_lt hne;split at h
     · cases h
     · split at h
       · simp only [Option.some.injEq] at h; rw [h]; exact Nat.le_refl _
       · cases n with
         | zero => exact absurd (List.length_eq_zero_iff.1 (Nat.le_zero.1 hl)) hne
         | succ n =>
           split at h
           · split at h
             · cases h
             · rename_i r2 h2;have q := Dr.digits_lt h2;have := Dr.token_le n r2 (by omega) r h;omega
           · have := Dr.token_le n _ (by omega) r h;omega
theorem Dr.text_lt : ∀ (n : Nat) (l : List UInt8),l.length ≤ n → ∀ x,Dr.text l = some x → x.2.length < l.length
 | n,l,hl,x,h => by
   rw [Dr.text] at h;split at h
   · cases h
   · rename_i r hr;simp only [Option.some.injEq] at h;rw [← h];show r.length < l.length;unfold Dr.txt1 at hr;split at hr
     · cases hr
     · rename_i c r1 h1;have q1 := Dr.next_lt h1;split at hr
       · simp only [Dr.Step.stop.injEq] at hr;rw [← hr]; exact q1
       · split at hr
         · split at hr
           · cases hr
           · split at hr
             · split at hr <;> cases hr
             · split at hr <;> cases hr
         · split at hr
           · split at hr <;> cases hr
           · split at hr <;> cases hr
   · rename_i b r hr;have q := Dr.txt1_lt hr;cases n with
     | zero => omega
     | succ n =>
       cases hy : Dr.text r with
       | none => rw [hy] at h; cases h
       | some y =>
         rw [hy] at h;simp only [Option.map_some,Option.some.injEq] at h;have := Dr.text_lt n r (by omega) y hy;rw [← h];show y.2.length < _;omega
theorem Dr.char_lt {l : List UInt8} {x : Int × List UInt8} (h : Dr.char l = some x) : x.2.length < l.length := by
 unfold Dr.char at h;split at h
 · cases h
 · rename_i c r h1;have q1 := Dr.next_lt h1;split at h
   · split at h
     · simp only [Option.some.injEq] at h; rw [← h]; exact q1
     · split at h
       · cases h
       · split at h
         · simp only [Option.some.injEq] at h; rw [← h]; exact q1
         · cases h
   · split at h
     · cases h
     · rename_i r2 h2;have q2 := Dr.token_le _ r (Nat.le_refl _) r2 h2;split at h
       · simp only [Option.some.injEq] at h; rw [← h]; show r2.length < _; omega
       · split at h
         · simp only [Option.some.injEq] at h; rw [← h]; show r2.length < _; omega
         · split at h
           · simp only [Option.some.injEq] at h; rw [← h]; show r2.length < _; omega
           · split at h
             · cases hh : Dr.hex (Dr.upto r r2) with
               | none => rw [hh] at h; cases h
               | some m =>
                 rw [hh] at h;simp only [Option.map_some,Option.some.injEq] at h;rw [← h]; show r2.length < _; omega
             · cases h
theorem Dr.atom_nil : Dr.atom [] = none := by
 have h1 : Dr.num [] = .err 5 := rfl;have h2 : Dr.symbol [] = none := by
  unfold Dr.symbol;rw [if_neg (by decide),Dr.syms];simp only [Dr.sym1,Dr.next];simp
 unfold Dr.atom;rw [h1,h2];simp
theorem Dr.upto_lt {l r : List UInt8} (h : r.length ≤ l.length) (hne : Dr.upto l r ≠ []) : r.length < l.length := by
 rcases Nat.lt_or_ge r.length l.length with h1 | h1
 · exact h1
 · exact absurd (by unfold Dr.upto; rw [show l.length - r.length = 0 by omega,List.take_zero]) hne
theorem Dr.take_two {l : List UInt8} {a b : UInt8} (h : l.take 2 = [a,b]) : 2 ≤ l.length := by
 have := congrArg List.length h;simp at this;omega
theorem Dr.bk_go {l r : List UInt8} (h : Dr.bk l = .go r) : r.length < l.length := by
 unfold Dr.bk at h;split at h
 · cases h
 · rename_i hne;have hlt := Dr.drop_lt hne;split at h
   · cases h
   · rename_i hb;split at h
     · simp only [Dr.Bk.go.injEq] at h; rw [← h]; exact hlt
     · split at h
       · rename_i h59;split at h
         · cases h
         · rename_i r2 h2;simp only [Dr.Bk.go.injEq] at h;rw [Dr.line,dif_neg hne,if_neg hb,if_neg (by rw [h59]; decide)] at h2;have := Dr.line_le _ _ (Nat.le_refl _) r2 h2;rw [← h]; omega
       · split at h
         · cases h
         · split at h
           · split at h
             · cases h
             · rename_i r2 h2;simp only [Dr.Bk.go.injEq] at h;rw [← h];exact Dr.remark_lt _ 0 l (Nat.le_refl _) r2 h2
           · cases h
theorem Dr.bk_datum {l r : List UInt8} (h : Dr.bk l = .datum r) : r.length < l.length := by
 unfold Dr.bk at h;split at h
 · cases h
 · split at h
   · cases h
   · split at h
     · cases h
     · split at h
       · split at h <;> cases h
       · split at h
         · rename_i h2;simp only [Dr.Bk.datum.injEq] at h;have := Dr.take_two h2;rw [← h,List.length_drop]; omega
         · split at h
           · split at h <;> cases h
           · cases h
def Dr.Dk.less (n : Nat) : Dr.Dk → Prop
 | .fault => True
 | .done _ r _ => r.length < n
 | .pairs _ r => r.length < n
 | .quote r => r.length < n
 | .vec r => r.length < n
 | .bytes r => r.length < n
theorem Dr.dk_less (l : List UInt8) : (Dr.dk l).less l.length := by
 unfold Dr.dk;split
 · trivial
 · rename_i hne;have hlt := Dr.drop_lt hne;split
   · trivial
   · split
     · exact hlt
     · split
       · split
         · trivial
         · rename_i x hx2;have := Dr.text_lt _ _ (Nat.le_refl _) x hx2;show x.2.length < _;omega
       · split
         · exact hlt
         · split
           · rename_i h2;have := Dr.take_two h2;show (l.drop 2).length < _;rw [List.length_drop]; omega
           · split
             · rename_i h2;have := congrArg List.length h2;show (l.drop 5).length < _;simp at this;rw [List.length_drop]; omega
             · split
               · rename_i h2;have h3 := Dr.take_two h2;split
                 · trivial
                 · rename_i x hx2;have := Dr.char_lt hx2;rw [List.length_drop] at this;show x.2.length < _;omega
               · split
                 · trivial
                 · rename_i r2 h2;split
                   · trivial
                   · rename_i x hx2;have := Dr.token_le _ _ (Nat.le_refl _) r2 h2;exact Dr.upto_lt this (fun e => by rw [e,Dr.atom_nil] at hx2; cases hx2)
def Dr.Pk.less (n : Nat) : Dr.Pk → Prop
 | .stop r => r.length < n
 | .dot r => r.length < n
 | _ => True
theorem Dr.pk_less (e : Int) (f : Bool) (l : List UInt8) : (Dr.pk e f l).less l.length := by
 unfold Dr.pk;split
 · trivial
 · rename_i hne;have hlt := Dr.drop_lt hne;split
   · trivial
   · split
     · exact hlt
     · split
       · split
         · trivial
         · rename_i r2 h2;have := Dr.token_le _ _ (Nat.le_refl _) r2 h2;split
           · rename_i h46;exact Dr.upto_lt this (by rw [h46]; simp)
           · trivial
       · trivial
def Dr.Res.less (j : Dr.Job) : Dr.Res → Prop
 | .fault => True
 | .skip r => match j with | .blanks l => r.length ≤ l.length | _ => False
 | .got _ r _ => match j with | .datum l => r.length < l.length | _ => False
 | .list _ r _ => match j with | .items _ l => r.length < l.length | _ => False
 | .lst _ _ r _ => match j with | .pairs _ _ l => r.length < l.length | _ => False
theorem Dr.Rel.less {j : Dr.Job} {R : Dr.Res} (h : Dr.Rel j R) : R.less j := by
 induction h with
 | bFault => trivial
 | bStop => exact Nat.le_refl _
 | @bGo l r R h h2 ih =>
   have := Dr.bk_go h;cases R with
   | fault => trivial
   | skip r2 => exact Nat.le_trans ih (Nat.le_of_lt this)
   | got => exact ih
   | list => exact ih
   | lst => exact ih
 | bDat1 => trivial
 | bDat2 => trivial
 | @bDat3 l r r1 t r2 big R h h2 h3 h4 i2 i3 i4 =>
   have := Dr.bk_datum h;have i2 : r1.length ≤ r.length := i2;have i3 : r2.length < r1.length := i3;cases R with
   | fault => trivial
   | skip r3 => have i4 : r3.length ≤ r2.length := i4; show r3.length ≤ l.length; omega
   | got => exact i4
   | list => exact i4
   | lst => exact i4
 | dFault => trivial
 | @dDone l t r big h => have := Dr.dk_less l; rw [h] at this; exact this
 | dPairs1 => trivial
 | @dPairs2 l e r ts last r2 big h h2 i2 => have := Dr.dk_less l; rw [h] at this; exact Nat.lt_trans i2 this
 | dQuote1 => trivial
 | dQuote2 => trivial
 | @dQuote3 l r r1 t r2 big h h2 h3 i2 i3 =>
   have := Dr.dk_less l; rw [h] at this;have this : r.length < l.length := this;have i2 : r1.length ≤ r.length := i2;have i3 : r2.length < r1.length := i3;show r2.length < l.length;omega
 | dVec1 => trivial
 | @dVec2 l r ts r2 big h h2 i2 => have := Dr.dk_less l; rw [h] at this; exact Nat.lt_trans i2 this
 | dByt1 => trivial
 | dByt2 => trivial
 | @dByt3 l r ts r2 big b h h2 h3 i2 => have := Dr.dk_less l; rw [h] at this; exact Nat.lt_trans i2 this
 | iFault1 => trivial
 | iFault2 => trivial
 | @iStop e l r r2 h h2 i1 =>
   have := Dr.pk_less e true r; rw [h2] at this;exact Nat.lt_of_lt_of_le this i1
 | iItem1 => trivial
 | iItem2 => trivial
 | @iItem3 e l r t r2 big ts r3 big2 h h2 h3 h4 i1 i3 i4 =>
   have i1 : r.length ≤ l.length := i1;have i3 : r2.length < r.length := i3;have i4 : r3.length < r2.length := i4;show r3.length < l.length;omega
 | pFault1 => trivial
 | pFault2 => trivial
 | @pStop e f l r r2 h h2 i1 =>
   have := Dr.pk_less e f r; rw [h2] at this;exact Nat.lt_of_lt_of_le this i1
 | pDot1 => trivial
 | pDot2 => trivial
 | pDot3 => trivial
 | pDot4 => trivial
 | @pDot5 e f l r r2 r3 t r4 big r5 r6 h h2 h3 h4 h5 h6 i1 i3 i4 i5 =>
   have q1 := Dr.pk_less e f r; rw [h2] at q1;have q2 := Dr.pk_less e true r5; rw [h6] at q2;have q1 : r2.length < r.length := q1;have q2 : r6.length < r5.length := q2;have i1 : r.length ≤ l.length := i1;have i3 : r3.length ≤ r2.length := i3;have i4 : r4.length < r3.length := i4;have i5 : r5.length ≤ r4.length := i5;show r6.length < l.length;omega
 | pItem1 => trivial
 | pItem2 => trivial
 | @pItem3 e f l r t r2 big ts last r3 big2 h h2 h3 h4 i1 i3 i4 =>
   have i1 : r.length ≤ l.length := i1;have i3 : r2.length < r.length := i3;have i4 : r3.length < r2.length := i4;show r3.length < l.length;omega
def Dr.Job.len : Dr.Job → Nat
 | .blanks l => 2 * l.length
 | .datum l => 2 * l.length
 | .items _ l => 2 * l.length + 1
 | .pairs _ _ l => 2 * l.length + 1
theorem Dr.total_step (j : Dr.Job) (IH : ∀ j' : Dr.Job,j'.len < j.len → ∃ R,Dr.Rel j' R) : ∃ R,Dr.Rel j R := by
 have skp : ∀ l R,Dr.Rel (.blanks l) R → R = .fault ∨ ∃ r,R = .skip r ∧ r.length ≤ l.length := fun l R h => by
  have := h.less;cases R with
  | fault => exact .inl rfl
  | skip r => exact .inr ⟨r,rfl,this⟩
  | got => exact absurd this id
  | list => exact absurd this id
  | lst => exact absurd this id
 have gt : ∀ l R,Dr.Rel (.datum l) R → R = .fault ∨ ∃ t r b,R = .got t r b ∧ r.length < l.length := fun l R h => by
  have := h.less;cases R with
  | fault => exact .inl rfl
  | got t r b => exact .inr ⟨t,r,b,rfl,this⟩
  | skip => exact absurd this id
  | list => exact absurd this id
  | lst => exact absurd this id
 have it : ∀ e l R,Dr.Rel (.items e l) R → R = .fault ∨ ∃ ts r b,R = .list ts r b ∧ r.length < l.length := fun e l R h => by
  have := h.less;cases R with
  | fault => exact .inl rfl
  | list t r b => exact .inr ⟨t,r,b,rfl,this⟩
  | skip => exact absurd this id
  | got => exact absurd this id
  | lst => exact absurd this id
 have pr : ∀ e f l R,Dr.Rel (.pairs e f l) R → R = .fault ∨ ∃ ts last r b,R = .lst ts last r b ∧ r.length < l.length := fun e f l R h => by
  have := h.less;cases R with
  | fault => exact .inl rfl
  | lst t x r b => exact .inr ⟨t,x,r,b,rfl,this⟩
  | skip => exact absurd this id
  | got => exact absurd this id
  | list => exact absurd this id
 cases j with
 | blanks l =>
   cases hb : Dr.bk l with
   | fault => exact ⟨_,.bFault hb⟩
   | stop => exact ⟨_,.bStop hb⟩
   | go r =>
     have := Dr.bk_go hb;obtain ⟨R,hR⟩ := IH (.blanks r) (by simp only [Dr.Job.len]; omega);exact ⟨R,.bGo hb hR⟩
   | datum r =>
     have h0 := Dr.bk_datum hb;obtain ⟨R,hR⟩ := IH (.blanks r) (by simp only [Dr.Job.len]; omega);rcases skp _ _ hR with rfl | ⟨r1,rfl,h1⟩
     · exact ⟨_,.bDat1 hb hR⟩
     · obtain ⟨R2,hR2⟩ := IH (.datum r1) (by simp only [Dr.Job.len]; omega);rcases gt _ _ hR2 with rfl | ⟨t,r2,b,rfl,h2⟩
       · exact ⟨_,.bDat2 hb hR hR2⟩
       · obtain ⟨R3,hR3⟩ := IH (.blanks r2) (by simp only [Dr.Job.len]; omega);exact ⟨R3,.bDat3 hb hR hR2 hR3⟩
 | datum l =>
   have hd := Dr.dk_less l;cases hk : Dr.dk l with
   | fault => exact ⟨_,.dFault hk⟩
   | done t r b => exact ⟨_,.dDone hk⟩
   | pairs e r =>
     rw [hk] at hd;have hd : r.length < l.length := hd;obtain ⟨R,hR⟩ := IH (.pairs e true r) (by simp only [Dr.Job.len]; omega);rcases pr _ _ _ _ hR with rfl | ⟨ts,last,r2,b,rfl,_⟩
     · exact ⟨_,.dPairs1 hk hR⟩
     · exact ⟨_,.dPairs2 hk hR⟩
   | quote r =>
     rw [hk] at hd;have hd : r.length < l.length := hd;obtain ⟨R,hR⟩ := IH (.blanks r) (by simp only [Dr.Job.len]; omega);rcases skp _ _ hR with rfl | ⟨r1,rfl,h1⟩
     · exact ⟨_,.dQuote1 hk hR⟩
     · obtain ⟨R2,hR2⟩ := IH (.datum r1) (by simp only [Dr.Job.len]; omega);rcases gt _ _ hR2 with rfl | ⟨t,r2,b,rfl,h2⟩
       · exact ⟨_,.dQuote2 hk hR hR2⟩
       · exact ⟨_,.dQuote3 hk hR hR2⟩
   | vec r =>
     rw [hk] at hd;have hd : r.length < l.length := hd;obtain ⟨R,hR⟩ := IH (.items 41 r) (by simp only [Dr.Job.len]; omega);rcases it _ _ _ hR with rfl | ⟨ts,r2,b,rfl,_⟩
     · exact ⟨_,.dVec1 hk hR⟩
     · exact ⟨_,.dVec2 hk hR⟩
   | bytes r =>
     rw [hk] at hd;have hd : r.length < l.length := hd;obtain ⟨R,hR⟩ := IH (.items 41 r) (by simp only [Dr.Job.len]; omega);rcases it _ _ _ hR with rfl | ⟨ts,r2,b,rfl,_⟩
     · exact ⟨_,.dByt1 hk hR⟩
     · cases hb : Dr.bytesOf ts with
       | none => exact ⟨_,.dByt2 hk hR hb⟩
       | some x => exact ⟨_,.dByt3 hk hR hb⟩
 | items e l =>
   obtain ⟨R,hR⟩ := IH (.blanks l) (by simp only [Dr.Job.len]; omega);rcases skp _ _ hR with rfl | ⟨r,rfl,h1⟩
   · exact ⟨_,.iFault1 hR⟩
   · cases hk : Dr.pk e true r with
     | fault => exact ⟨_,.iFault2 hR hk⟩
     | stop r2 => exact ⟨_,.iStop hR hk⟩
     | dot r2 =>
       unfold Dr.pk at hk;simp only [Bool.not_true,Bool.and_false,Bool.false_eq_true,if_false] at hk;split at hk
       · cases hk
       · split at hk
         · cases hk
         · split at hk <;> cases hk
     | item =>
       obtain ⟨R2,hR2⟩ := IH (.datum r) (by simp only [Dr.Job.len]; omega);rcases gt _ _ hR2 with rfl | ⟨t,r2,b,rfl,h2⟩
       · exact ⟨_,.iItem1 hR hk hR2⟩
       · obtain ⟨R3,hR3⟩ := IH (.items e r2) (by simp only [Dr.Job.len]; omega);rcases it _ _ _ hR3 with rfl | ⟨ts,r3,b2,rfl,_⟩
         · exact ⟨_,.iItem2 hR hk hR2 hR3⟩
         · exact ⟨_,.iItem3 hR hk hR2 hR3⟩
 | pairs e f l =>
   obtain ⟨R,hR⟩ := IH (.blanks l) (by simp only [Dr.Job.len]; omega);rcases skp _ _ hR with rfl | ⟨r,rfl,h1⟩
   · exact ⟨_,.pFault1 hR⟩
   · have hp := Dr.pk_less e f r;cases hk : Dr.pk e f r with
     | fault => exact ⟨_,.pFault2 hR hk⟩
     | stop r2 => exact ⟨_,.pStop hR hk⟩
     | dot r2 =>
       rw [hk] at hp;have hp : r2.length < r.length := hp;obtain ⟨R3,hR3⟩ := IH (.blanks r2) (by simp only [Dr.Job.len]; omega);rcases skp _ _ hR3 with rfl | ⟨r3,rfl,h3⟩
       · exact ⟨_,.pDot1 hR hk hR3⟩
       · obtain ⟨R4,hR4⟩ := IH (.datum r3) (by simp only [Dr.Job.len]; omega);rcases gt _ _ hR4 with rfl | ⟨t,r4,b,rfl,h4⟩
         · exact ⟨_,.pDot2 hR hk hR3 hR4⟩
         · obtain ⟨R5,hR5⟩ := IH (.blanks r4) (by simp only [Dr.Job.len]; omega);rcases skp _ _ hR5 with rfl | ⟨r5,rfl,h5⟩
           · exact ⟨_,.pDot3 hR hk hR3 hR4 hR5⟩
           · by_cases h6 : ∃ r6,Dr.pk e true r5 = .stop r6
             · obtain ⟨r6,h6⟩ := h6;exact ⟨_,.pDot5 hR hk hR3 hR4 hR5 h6⟩
             · exact ⟨_,.pDot4 hR hk hR3 hR4 hR5 (fun r6 e6 => h6 ⟨r6,e6⟩)⟩
     | item =>
       obtain ⟨R2,hR2⟩ := IH (.datum r) (by simp only [Dr.Job.len]; omega);rcases gt _ _ hR2 with rfl | ⟨t,r2,b,rfl,h2⟩
       · exact ⟨_,.pItem1 hR hk hR2⟩
       · obtain ⟨R3,hR3⟩ := IH (.pairs e false r2) (by simp only [Dr.Job.len]; omega);rcases pr _ _ _ _ hR3 with rfl | ⟨ts,last,r3,b2,rfl,_⟩
         · exact ⟨_,.pItem2 hR hk hR2 hR3⟩
         · exact ⟨_,.pItem3 hR hk hR2 hR3⟩
theorem Dr.total (j : Dr.Job) : ∃ R,Dr.Rel j R := Dr.total_step j (fun j' _ => Dr.total j')
termination_by j.len
decreasing_by assumption
structure Dr.Kept (b : Nat) (w w' : World) : Prop where
 os : w'.os = w.os
 tape : w'.tape = w.tape
 output : w'.output = w.output
 size : w.heap.size ≤ w'.heap.size
 block : ∀ q,q < w.heap.size → q ≠ b → w'.heap[q]? = w.heap[q]?
theorem Dr.Kept.refl (b : Nat) (w : World) : Dr.Kept b w w := ⟨rfl,rfl,rfl,Nat.le_refl _,fun _ _ _ => rfl⟩
theorem Dr.Kept.trans {b : Nat} {w1 w2 w3 : World} (h : Dr.Kept b w1 w2) (k : Dr.Kept b w2 w3) : Dr.Kept b w1 w3 :=
 ⟨k.os.trans h.os,k.tape.trans h.tape,k.output.trans h.output,Nat.le_trans h.size k.size,fun q hq hb => (k.block q (Nat.lt_of_lt_of_le hq h.size) hb).trans (h.block q hq hb)⟩
theorem Dr.Kept.of_below {b : Nat} {w w' : World} (h : Below w.heap.size w w') : Dr.Kept b w w' := ⟨h.os,h.tape,h.output,h.size,fun q hq _ => h.block q hq⟩
structure Dr.At (b : Nat) (S : ByteArray) (l : List UInt8) (g : Bool) (w : World) : Prop where
 blk : w.heap[b]? = some (.cells #[.string S,.int .i64 ((S.size - l.length : Nat) : Int),.bool g] 49 (0,0))
 suf : S.data.toList.drop (S.size - l.length) = l
 le : l.length ≤ S.size
theorem Dr.At.lt {b : Nat} {S : ByteArray} {l : List UInt8} {g : Bool} {w : World} (h : Dr.At b S l g w) : b < w.heap.size := (Array.getElem?_eq_some_iff.1 h.blk).1
theorem Dr.At.below {b : Nat} {S : ByteArray} {l : List UInt8} {g : Bool} {w w' : World} (h : Dr.At b S l g w) (hb : Below w.heap.size w w') : Dr.At b S l g w' := ⟨(hb.block b h.lt).trans h.blk,h.suf,h.le⟩
theorem Dr.At.cells {b : Nat} {S : ByteArray} {l : List UInt8} {g : Bool} {w : World} (h : Dr.At b S l g w) : w.cell? ⟨b,0,none⟩ = some (.string S) ∧ w.cell? ⟨b,1,none⟩ = some (.int .i64 ((S.size - l.length : Nat) : Int)) ∧ w.cell? ⟨b,2,none⟩ = some (.bool g) :=
 ⟨Lib.cell_of_heap h.blk 0,Lib.cell_of_heap h.blk 1,Lib.cell_of_heap h.blk 2⟩
theorem Dr.At.sub {b : Nat} {S : ByteArray} {l : List UInt8} {g : Bool} {w : World} (h : Dr.At b S l g w) : S.extract (S.size - l.length) S.size = ⟨l.toArray⟩ := by
 apply ByteArray.ext;apply Array.ext';rw [ByteArray.data_extract,Array.toList_extract,← h.suf];simp only [List.extract_eq_take_drop];have := h.le;have e : S.size = S.data.toList.length := by simp
 rw [List.length_drop];show _ = List.drop _ S.data.toList;rw [List.take_of_length_le (by rw [List.length_drop]; omega)];congr 1;omega
theorem Dr.At.move {b : Nat} {S : ByteArray} {l r : List UInt8} {g : Bool} {w : World} (h : Dr.At b S l g w) (hr : r = l.drop (l.length - r.length)) (hl : r.length ≤ l.length) :
 ∃ W,w.setCell ⟨b,1,none⟩ (.int .i64 ((S.size - r.length : Nat) : Int)) = W ∧ w.frozen? ⟨b,1,none⟩ = false ∧ Dr.At b S r g W ∧ Dr.Kept b w W ∧ W.heap.size = w.heap.size := by
 have hq := h.blk
 have hle := h.le
 refine ⟨_,rfl,by simp [World.frozen?,hq],⟨?_,?_,by omega⟩,⟨rfl,rfl,rfl,by simp,fun q hq hne => ?_⟩,by simp⟩
 · have := heap_setCell_same w b 1 _ _ (.int .i64 ((S.size - r.length : Nat) : Int)) hq;exact this
 · rw [hr];have e : S.size - (l.drop (l.length - r.length)).length = (S.size - l.length) + (l.length - r.length) := by rw [List.length_drop]; omega
   rw [e,← List.drop_drop,h.suf]
 · exact heap_setCell_other w ⟨b,1,none⟩ q _ (fun e => hne (by simp [e]))
def Dr.dead : Ending := .panicked [{ v := .iface 51 (.agg #[.int .i64 5]),recovered := false }]
theorem Dr.decode (l : List UInt8) (h : l ≠ []) : Lib.decodeGo ⟨l.toArray⟩ = Lib.decodeL l := by
 unfold Lib.decodeGo;rw [if_neg]
 · rfl
 · show ¬ (List.toArray l).size = 0;simpa using h
set_option maxHeartbeats 1000000
set_option maxRecDepth 1000000
theorem Dr.stop_any (p : Value) (w : World) : Calls Tryz.prog 37 #[p,.int .i64 5] w fun e w' => e = Dr.dead ∧ w = w' := by
 go_enter Tryz.func37,Tryz.ntmps37;go_wp2_with fail;exact ⟨rfl,rfl,rfl⟩
theorem Dr.peek_end (b : Nat) (S : ByteArray) (g : Bool) (w : World) (h : Dr.At b S [] g w) :
 Calls Tryz.prog 32 #[.pointer (some ⟨b,0,none⟩)] w fun e w' => e = .returned (.tuple #[.int .i32 0,.int .i64 0]) ∧ Below w.heap.size w w' := by
 obtain ⟨c0,c1,c2⟩ := h.cells
 rw [show S.size - ([] : List UInt8).length = S.size by simp] at c1
 clear h
 go_enter Tryz.func32,Tryz.ntmps32
 go_wp2_with fail
 go_region
 all_goals
  go_wp2_with fail
  go_ret2
  exact ⟨rfl,Below.drew (Below.refl _ _)⟩
set_option maxHeartbeats 200000
set_option maxRecDepth 512
theorem Dr.At.pos {b : Nat} {S : ByteArray} {l : List UInt8} {g : Bool} {w : World} (h : Dr.At b S l g w) (hl : l ≠ []) : ((S.size - l.length : Nat) : Int) < (S.size : Int) ∧ 0 ≤ ((S.size - l.length : Nat) : Int) := by
 have := List.length_pos_iff.2 hl;have := h.le;omega
theorem Dr.cp_i32 (l : List UInt8) (h : l ≠ []) : 0 ≤ Dr.cp l ∧ Dr.cp l ≤ 1114111 := by
 have := Ru.decode_ok l h;unfold Ru.okR at this;unfold Dr.cp;omega
set_option maxHeartbeats 1000000
set_option maxRecDepth 1000000
theorem Dr.peek_ok (b : Nat) (S : ByteArray) (l : List UInt8) (g : Bool) (w : World) (h : Dr.At b S l g w) (hl : l ≠ []) (hb : Dr.bad l = false) (hT : Lib.Utf8Tabs 0 1 w) :
 Calls Tryz.prog 32 #[.pointer (some ⟨b,0,none⟩)] w fun e w' => e = .returned (.tuple #[.int .i32 (Dr.cp l),.int .i64 (Dr.wd l)]) ∧ Below w.heap.size w w' := by
 obtain ⟨c0,c1,c2⟩ := h.cells
 obtain ⟨hp1,hp2⟩ := h.pos hl
 have hsub := h.sub
 have hbl := h.lt
 have KD := Lib.hid (Tryz.utf8_DecodeRuneInString ⟨l.toArray⟩ w.drew.drew hT)
 rw [Dr.decode l hl] at KD
 have hnb : (Dr.cp l == 65533) = false ∨ ((Dr.cp l == 65533) = true ∧ ((Dr.wd l : Int) == 1) = false) := by
  unfold Dr.bad at hb;by_cases h1 : Dr.cp l = 65533
  · rw [decide_eq_true h1,Bool.true_and] at hb;exact .inr ⟨by rw [h1]; rfl,beq_eq_false_iff_ne.2 (by have := of_decide_eq_false hb; omega)⟩
  · exact .inl (beq_eq_false_iff_ne.2 h1)
 have e1 : ((Lib.decodeL l).1 : Int) = Dr.cp l := rfl
 have e2 : (Lib.decodeL l).2 = Dr.wd l := rfl
 rw [e1,e2] at KD
 obtain ⟨p,hp⟩ : ∃ z,S.size - l.length = z := ⟨_,rfl⟩
 rw [hp] at c1 hp1 hp2 hsub
 have hp3 : (p : Int) ≤ (S.size : Int) := by omega
 have HS := Lib.hid (fun (w' : World) (hb : Below w.heap.size w w') => (show w'.cell? ⟨b,0,none⟩ = some (.string S) ∧ w'.cell? ⟨b,1,none⟩ = some (.int .i64 (p : Int)) from ⟨(hb.cell (p := ⟨b,0,none⟩) hbl).trans c0,(hb.cell (p := ⟨b,1,none⟩) hbl).trans c1⟩))
 generalize Dr.cp l = c at *
 generalize Dr.wd l = n at *
 clear h hT hb hl hp e1 e2 hbl c2
 go_enter Tryz.func32,Tryz.ntmps32
 go_wp2_with fail
 go_region
 all_goals
  go_wp2_with fail
  have hkeep := HS.out _ (Below.drew (Below.refl _ _))
  go_region_held3 (fun w' => w'.cell? ⟨b,0,none⟩ = some (.string S) ∧ w'.cell? ⟨b,1,none⟩ = some (.int .i64 (p : Int)))
   (first | exact hkeep)
   (first
     | (go_at_call 64
        refine KD.out.mono ?_
        rintro x w2 ⟨rfl,hb2⟩
        have hacc : Below w.heap.size w w2 := (Below.drew (Below.drew (Below.refl _ _))).trans hb2
        have hkeep := HS.out _ hacc))
  rcases hnb with h1 | ⟨h1,h2⟩
  all_goals
   go_wp2_with fail
   go_ret2
   exact ⟨rfl,hacc⟩
theorem Dr.peek_bad (b : Nat) (S : ByteArray) (l : List UInt8) (g : Bool) (w : World) (h : Dr.At b S l g w) (hl : l ≠ []) (hb : Dr.bad l = true) (hT : Lib.Utf8Tabs 0 1 w) :
 Calls Tryz.prog 32 #[.pointer (some ⟨b,0,none⟩)] w fun e w' => e = Dr.dead ∧ Below w.heap.size w w' := by
 obtain ⟨c0,c1,c2⟩ := h.cells
 obtain ⟨hp1,hp2⟩ := h.pos hl
 have hsub := h.sub
 have hbl := h.lt
 have KD := Lib.hid (Tryz.utf8_DecodeRuneInString ⟨l.toArray⟩ w.drew.drew hT)
 rw [Dr.decode l hl] at KD
 have e1 : ((Lib.decodeL l).1 : Int) = 65533 ∧ ((Lib.decodeL l).2 : Int) = 1 := by
  unfold Dr.bad at hb;simp only [Bool.and_eq_true,decide_eq_true_eq] at hb;have h1 : ((Lib.decodeL l).1 : Int) = 65533 := hb.1;have h2 : (Lib.decodeL l).2 = 1 := hb.2;exact ⟨h1,by omega⟩
 rw [e1.1,e1.2] at KD
 obtain ⟨p,hp⟩ : ∃ z,S.size - l.length = z := ⟨_,rfl⟩
 rw [hp] at c1 hp1 hp2 hsub
 have hp3 : (p : Int) ≤ (S.size : Int) := by omega
 have HS := Lib.hid (fun (w' : World) (hb : Below w.heap.size w w') => (show w'.cell? ⟨b,0,none⟩ = some (.string S) ∧ w'.cell? ⟨b,1,none⟩ = some (.int .i64 (p : Int)) from ⟨(hb.cell (p := ⟨b,0,none⟩) hbl).trans c0,(hb.cell (p := ⟨b,1,none⟩) hbl).trans c1⟩))
 clear h hT hb hl hp e1 hbl c2
 go_enter Tryz.func32,Tryz.ntmps32
 go_wp2_with fail
 go_region
 all_goals
  go_wp2_with fail
  have hkeep := HS.out _ (Below.drew (Below.refl _ _))
  go_region_held3 (fun w' => w'.cell? ⟨b,0,none⟩ = some (.string S) ∧ w'.cell? ⟨b,1,none⟩ = some (.int .i64 (p : Int)))
   (first | exact hkeep)
   (first
     | (go_at_call 64
        refine KD.out.mono ?_
        rintro x w2 ⟨rfl,hb2⟩
        have hacc : Below w.heap.size w w2 := (Below.drew (Below.drew (Below.refl _ _))).trans hb2
        have hkeep := HS.out _ hacc))
  go_wp2_with fail
  refine (Dr.stop_any _ _).mono ?_
  rintro x w3 ⟨rfl,hw3⟩
  subst hw3
  unfold Dr.dead
  go_wp2_with fail
  exact ⟨rfl,rfl,hacc⟩
theorem Dr.next_none (b : Nat) (S : ByteArray) (l : List UInt8) (g : Bool) (w : World) (h : Dr.At b S l g w) (hn : Dr.next l = none) (hT : Lib.Utf8Tabs 0 1 w) :
 Calls Tryz.prog 66 #[.pointer (some ⟨b,0,none⟩)] w fun e w' => e = Dr.dead ∧ Below w.heap.size w w' := by
 unfold Dr.next at hn
 by_cases hl : l = []
 · subst hl;have KP := Dr.peek_end b S g w h;clear h hn hT;go_enter Tryz.func66,Tryz.ntmps66;go_wp2_with fail;refine KP.mono ?_;rintro x w1 ⟨rfl,hb1⟩;go_wp2_with fail;refine (Dr.stop_any _ _).mono ?_;rintro x w3 ⟨rfl,hw3⟩;subst hw3;unfold Dr.dead;go_wp2_with fail;exact ⟨rfl,rfl,hb1⟩
 · rw [if_neg hl] at hn;have hb : Dr.bad l = true := by
    cases e : Dr.bad l
    · rw [e] at hn; simp at hn
    · rfl
   have KP := Dr.peek_bad b S l g w h hl hb hT;clear h hn hT hb hl;go_enter Tryz.func66,Tryz.ntmps66;go_wp2_with fail;refine KP.mono ?_;rintro x w1 ⟨rfl,hb1⟩;unfold Dr.dead;go_wp2_with fail;exact ⟨rfl,rfl,hb1⟩
set_option maxHeartbeats 200000
set_option maxRecDepth 512
theorem Dr.At.step {b : Nat} {S : ByteArray} {l : List UInt8} {g : Bool} {w : World} (h : Dr.At b S l g w) (n : Nat) (hn : n ≤ l.length) :
 ∃ W,w.setCell ⟨b,1,none⟩ (.int .i64 (((S.size - l.length : Nat) : Int) + (n : Int))) = W ∧ w.frozen? ⟨b,1,none⟩ = false ∧ Dr.At b S (l.drop n) g W ∧ Dr.Kept b w W ∧ W.heap.size = w.heap.size := by
 have hle := h.le
 obtain ⟨W,h1,h2,h3,h4,h5⟩ := h.move (r := l.drop n) (by rw [List.length_drop,show l.length - (l.length - n) = n by omega]) (by rw [List.length_drop]; omega)
 refine ⟨W,?_,h2,h3,h4,h5⟩
 rw [← h1,List.length_drop,show ((S.size - (l.length - n) : Nat) : Int) = ((S.size - l.length : Nat) : Int) + (n : Int) by omega]
set_option maxHeartbeats 1000000
set_option maxRecDepth 1000000
theorem Dr.next_ok (b : Nat) (S : ByteArray) (l : List UInt8) (g : Bool) (c : Int) (r : List UInt8) (w : World) (h : Dr.At b S l g w) (hs : S.size ≤ 9223372036854775807) (hn : Dr.next l = some (c,r)) (hT : Lib.Utf8Tabs 0 1 w) :
 Calls Tryz.prog 66 #[.pointer (some ⟨b,0,none⟩)] w fun e w' => e = .returned (.int .i32 c) ∧ Dr.At b S r g w' ∧ Dr.Kept b w w' := by
 unfold Dr.next at hn
 by_cases hl : l = []
 · rw [if_pos hl] at hn; cases hn
 rw [if_neg hl] at hn
 cases hb : Dr.bad l with
 | true => rw [hb] at hn; simp at hn
 | false =>
 rw [hb] at hn
 simp only [Bool.false_eq_true,if_false,Option.some.injEq,Prod.mk.injEq] at hn
 obtain ⟨rfl,rfl⟩ := hn
 have KP := Dr.peek_ok b S l g w h hl hb hT
 have hwp := Dr.wd_pos hl
 have hwl := Dr.wd_le hl
 have hle := h.le
 have HAT := Lib.hid h
 have hnz : ((Dr.wd l : Int) == 0) = false := beq_eq_false_iff_ne.2 (by omega)
 have hb64 : IntKind.i64.wrap (((S.size - l.length : Nat) : Int) + (Dr.wd l : Int)) = ((S.size - l.length : Nat) : Int) + (Dr.wd l : Int) := by rw [IntKind.wrap_i64]; omega
 have HST := Lib.hid (fun w1 (hb1 : Below w.heap.size w w1) => (h.below hb1).step (Dr.wd l) hwl)
 obtain ⟨p,hp⟩ : ∃ z,S.size - l.length = z := ⟨_,rfl⟩
 rw [hp] at hb64 HST
 have HP := Lib.hid hp
 generalize Dr.cp l = c at *
 obtain ⟨n,hn⟩ : ∃ z,z = Dr.wd l := ⟨_,rfl⟩
 rw [← hn] at KP hnz hb64 HST ⊢
 clear h hT hb hl hp hle hwp hwl hn
 go_enter Tryz.func66,Tryz.ntmps66
 go_wp2_with fail
 refine KP.mono ?_
 rintro x w1 ⟨rfl,hb1⟩
 obtain ⟨c0,c1,c2⟩ := (HAT.out.below hb1).cells
 rw [HP.out] at c1
 obtain ⟨W,hW,hfz,hAt,hK,hz⟩ := HST.out w1 hb1
 have HR := Lib.hid (And.intro hAt ((Dr.Kept.of_below hb1).trans hK))
 clear hAt hK hz hb1
 go_wp2_with fail
 go_ret
 exact ⟨rfl,HR.out.1,HR.out.2⟩
theorem Dr.lineEnd_any (c : Int) (w : World) : Calls Tryz.prog 34 #[.int .i32 c] w fun e w' => e = .returned (.bool (Dr.lineC c)) ∧ w = w' := by
 unfold Dr.lineC;by_cases h1 : c = 10
 · subst h1;go_enter Tryz.func34,Tryz.ntmps34;go_wp2_with fail;go_ret;exact ⟨rfl,rfl⟩
 by_cases h2 : c = 13
 · subst h2;go_enter Tryz.func34,Tryz.ntmps34;go_wp2_with fail;go_ret;exact ⟨rfl,rfl⟩
 by_cases h3 : c = 133
 · subst h3;go_enter Tryz.func34,Tryz.ntmps34;go_wp2_with fail;go_ret;exact ⟨rfl,rfl⟩
 by_cases h4 : c = 8232
 · subst h4;go_enter Tryz.func34,Tryz.ntmps34;go_wp2_with fail;go_ret;exact ⟨rfl,rfl⟩
 have e1 : (c == 10) = false := beq_eq_false_iff_ne.2 h1;have e2 : (c == 13) = false := beq_eq_false_iff_ne.2 h2;have e3 : (c == 133) = false := beq_eq_false_iff_ne.2 h3;have e4 : (c == 8232) = false := beq_eq_false_iff_ne.2 h4;rw [decide_eq_false h1,decide_eq_false h2,decide_eq_false h3,decide_eq_false h4];clear h1 h2 h3 h4;go_enter Tryz.func34,Tryz.ntmps34;go_wp2_with fail;go_ret;exact ⟨rfl,rfl⟩
end Go.Proofs.YteklhapffplohaaGreatDoor
namespace Go.Proofs.YteklhapffplohaaGreatDoor
open Go.RowKit
end Go.Proofs.YteklhapffplohaaGreatDoor
namespace Go.Proofs.YteklhapffplohaaGreatDoor
open Go.RowKit
end Go.Proofs.YteklhapffplohaaGreatDoor
namespace Go.Proofs.YteklhapffplohaaGreatDoor
open Go.RowKit
end Go.Proofs.YteklhapffplohaaGreatDoor
namespace Go.Proofs.YteklhapffplohaaGreatDoor
open Go.RowKit
theorem Wt.indexByte_no : ∀ (l : List UInt8) (c : UInt8),(∀ x ∈ l,x.toNat < 128) → 128 ≤ c.toNat → Lib.indexByte l c = -1
 | [],c,_,_ => rfl
 | x :: l,c,hl,hc => by
   have hx := hl x (by simp);have hne : (x == c) = false := beq_eq_false_iff_ne.2 (fun e => by rw [e] at hx; omega);rw [Lib.indexByte,hne,Wt.indexByte_no l c (fun y hy => hl y (by simp [hy])) hc];rfl
theorem Wt.ib (s : ByteArray) (c : UInt8) (hs : ∀ x ∈ s.data.toList,x.toNat < 128) (hc : 128 ≤ c.toNat) (w : World) :
 Calls Tryz.prog 95 #[.string s,.int .u8 c.toNat] w fun e w' => e = .returned (.int .i64 (-1)) ∧ w' = w := by
 refine (Tryz.strings_IndexByte s c.toNat w).mono ?_
 rintro e w' ⟨rfl,rfl⟩
 refine ⟨?_,rfl⟩
 have : ((c.toNat : Int).toNat.toUInt8) = c := by simp
 rw [this,Wt.indexByte_no _ _ hs hc]
def Wt.cA : ByteArray := ⟨#[33,36,37,38,42,47,58,60,61,62,63,94,95,126]⟩
def Wt.cB : ByteArray := ⟨#[43,45,46,64]⟩
theorem Wt.enc_hi {r : Int} (h : Ru.okR r) (h1 : 128 ≤ r) : (∃ a c : UInt8,Lib.encodeRune r = [a,c] ∧ 128 ≤ c.toNat) ∨ (∃ a b c : UInt8,Lib.encodeRune r = [a,b,c] ∧ 128 ≤ c.toNat) ∨ (∃ a b d c : UInt8,Lib.encodeRune r = [a,b,d,c] ∧ 128 ≤ c.toNat) := by
 unfold Ru.okR at h;have hlow : ∀ z : Int,0 ≤ z → 128 ≤ ((128 + z % 64).toNat.toUInt8).toNat := fun z hz => by
  have := Ru.byteNat (128 + z % 64) (by omega) (by omega);rw [this];omega
 unfold Lib.encodeRune;by_cases c2 : r ≤ 2047
 · rw [Lib.encodeRuneZ_two (by omega) c2];exact .inl ⟨_,_,rfl,hlow r (by omega)⟩
 by_cases c3 : r ≤ 65535
 · rw [Lib.encodeRuneZ_three (by omega)];exact .inr (.inl ⟨_,_,_,rfl,hlow r (by omega)⟩)
 · rw [Lib.encodeRuneZ_four (by omega) (by omega)];exact .inr (.inr ⟨_,_,_,_,rfl,hlow r (by omega)⟩)
theorem Wt.wr64 : IntKind.i64.wrap 0 = 0 ∧ IntKind.i64.wrap 1 = 1 ∧ IntKind.i64.wrap 2 = 2 ∧ IntKind.i64.wrap 3 = 3 ∧ IntKind.i64.wrap 4 = 4 := by decide
set_option maxHeartbeats 4000000
set_option maxRecDepth 1000000
theorem Wt.indexRune_hi (s : ByteArray) (hs : s = Wt.cA ∨ s = Wt.cB) (r : Int) (h : Ru.okR r) (h1 : 128 ≤ r) (h2 : r ≠ 65533) (w : World) :
 Calls Tryz.prog 69 #[.string s,.int .i32 r] w fun e w' => e = .returned (.int .i64 (-1)) ∧ Below w.heap.size w w' := by
 have hne : ((r : Int) == 65533) = false := beq_eq_false_iff_ne.2 h2
 have hr2 : r ≤ 2147483647 := by unfold Ru.okR at h; omega
 have hv : Lib.validRune r = true := by
  unfold Ru.okR at h;unfold Lib.validRune;simp only [Bool.or_eq_true,Bool.and_eq_true,decide_eq_true_eq];omega
 obtain ⟨g0,g1,g2,g3,g4⟩ := Wt.wr64
 have KV := fun w' => Tryz.utf8_ValidRune r w'
 rw [hv] at KV
 have henc := Sl.encode_eq r
 rcases Wt.enc_hi h h1 with ⟨a,c,e,hc⟩ | ⟨a,b,c,e,hc⟩ | ⟨a,b,d,c,e,hc⟩
 all_goals
  rw [e] at henc
  have d36 : ((36 : Int) = (c.toNat : Int)) = False := eq_false (by omega)
  have e36 : ((36 : Int) != (c.toNat : Int)) = true := bne_iff_ne.2 (by omega)
  have d37 : ((37 : Int) = (c.toNat : Int)) = False := eq_false (by omega)
  have e37 : ((37 : Int) != (c.toNat : Int)) = true := bne_iff_ne.2 (by omega)
  have d38 : ((38 : Int) = (c.toNat : Int)) = False := eq_false (by omega)
  have e38 : ((38 : Int) != (c.toNat : Int)) = true := bne_iff_ne.2 (by omega)
  have d45 : ((45 : Int) = (c.toNat : Int)) = False := eq_false (by omega)
  have e45 : ((45 : Int) != (c.toNat : Int)) = true := bne_iff_ne.2 (by omega)
  have d46 : ((46 : Int) = (c.toNat : Int)) = False := eq_false (by omega)
  have e46 : ((46 : Int) != (c.toNat : Int)) = true := bne_iff_ne.2 (by omega)
  have d64 : ((64 : Int) = (c.toNat : Int)) = False := eq_false (by omega)
  have e64 : ((64 : Int) != (c.toNat : Int)) = true := bne_iff_ne.2 (by omega)
  have KI := Lib.hid (fun (s : ByteArray) (hs : ∀ x ∈ s.data.toList,x.toNat < 128) w' => Wt.ib s c hs hc w')
  clear e hc
  rcases hs with rfl | rfl
 all_goals clear h hv
 all_goals first | unfold Wt.cA | unfold Wt.cB
 all_goals
  go_enter Tryz.func69,Tryz.ntmps69
  go_wp2_with (go_at_call 96; refine (KV _).mono ?_; rintro e w' ⟨rfl,rfl⟩)
  go_step3
  go_wp2_with fail
  refine wp_loop_rounds 1 ?_
  rw [rounds_succ]
  go_wp2_with fail
  go_step3
  go_wp2_with fail
  go_region
  all_goals go_wp2_with fail
  rotate_left
  · rename_i hx _ _;first
     | exact absurd ((show ((36 : Int) != (c.toNat : Int)) = false from hx).symm.trans e36) (by decide)
     | exact absurd ((show ((37 : Int) != (c.toNat : Int)) = false from hx).symm.trans e37) (by decide)
     | exact absurd ((show ((38 : Int) != (c.toNat : Int)) = false from hx).symm.trans e38) (by decide)
     | exact absurd ((show ((45 : Int) != (c.toNat : Int)) = false from hx).symm.trans e45) (by decide)
     | exact absurd ((show ((46 : Int) != (c.toNat : Int)) = false from hx).symm.trans e46) (by decide)
     | exact absurd ((show ((64 : Int) != (c.toNat : Int)) = false from hx).symm.trans e64) (by decide)
  go_region_held3 (fun wx => True) (trivial)
   (first
     | (go_at_call 95
        refine (KI.out _ (by decide) _).mono ?_
        rintro z2 w2 ⟨rfl,hw2⟩
        subst hw2))
  go_wp2_with fail
  rw [Exit.noGoto_ret]
  repeat (first | rw [Exit.noGoto_ret] | (simp only [Exit.inBlock,Exit.then]))
  go_ret
  exact ⟨rfl,Below.drew (Below.drew (Below.refl _ _))⟩
theorem Wt.indexRune_bad (s : ByteArray) (hs : ∀ i (h : i < s.size),(s[i]'h).toNat < 128) (w : World) :
 Calls Tryz.prog 69 #[.string s,.int .i32 65533] w fun e w' => e = .returned (.int .i64 (-1)) ∧ Below w.heap.size w w' := by
 have H0 : (w.alloc (.stringIter s 0)).heap[w.heap.size]? = some (.stringIter s 0) := heap_alloc_new w _
 have HB0 : Below w.heap.size w (w.alloc (.stringIter s 0)) := (Below.refl _ _).alloc (Nat.le_refl _) _
 have HS := Lib.hid hs
 clear hs
 go_enter Tryz.func69,Tryz.ntmps69
 go_wp2_with fail
 go_loopw [] (fun wr => ∃ (pos : Nat),wr.heap[w.heap.size]? = some (.stringIter s pos) ∧ Below w.heap.size w wr) (fun wr => s.size - wr.iterPos w.heap.size)
 case atStart => exact ⟨0,H0,HB0⟩
 case round =>
  obtain ⟨pos,hit,hb⟩ := hrel
  clear H0 HB0
  by_cases hp : pos < s.size
  · have ha := HS.out pos hp;have hnx : ∀ ty,(Instr.next (.pointer (some ⟨w.heap.size,0,none⟩)) true ty).run Tryz.prog wr = _ := fun ty => Lib.run_next_ascii_at wr w.heap.size s pos ty hit hp ha;have hit2 := Lib.iterAt_heap wr w.heap.size s pos (pos + 1) hit;have hb2 := Lib.below_iterAt hb (k := w.heap.size) (Nat.le_refl _) s (pos + 1);obtain ⟨v,hv⟩ : ∃ z,(s[pos]'hp).toNat = z := ⟨_,rfl⟩;rw [hv] at hnx ha;have hne : ((v : Int) == 65533) = false := beq_eq_false_iff_ne.2 (by omega);obtain ⟨W,hW⟩ : ∃ z,wr.iterAt w.heap.size s (pos + 1) = z := ⟨_,rfl⟩;rw [hW] at hnx hit2 hb2;have HM : Hid (s.size - W.iterPos w.heap.size < s.size - wr.iterPos w.heap.size) := Lib.hid (by simp only [World.iterPos,hit2,hit]; omega);have HI := Lib.hid (And.intro hit2 hb2);clear hit hb hit2 hb2 hv hW ha;go_wp2_with fail;exact ⟨⟨_,HI.out⟩,HM.out⟩
  · have hnx : ∀ ty,(Instr.next (.pointer (some ⟨w.heap.size,0,none⟩)) true ty).run Tryz.prog wr = _ := fun ty => Lib.run_next_end_at wr w.heap.size s pos ty hit hp;go_wp2_with fail;go_ret;exact ⟨rfl,hb⟩
end Go.Proofs.YteklhapffplohaaGreatDoor
