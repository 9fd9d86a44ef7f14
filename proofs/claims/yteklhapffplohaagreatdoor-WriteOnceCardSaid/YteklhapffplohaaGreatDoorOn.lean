/-
  The reference's Text of words at 10. exact.check of one sound number, and of two real ones. The reference's Alike at equal numbers.
-/
import Derived.Maps.AppendAt
import Derived.Laws.OwnMore
import Derived.Test.YteklhapffplohaaGreatDoorProg
import Derived.WalkKit
import Derived.WalkSpells
import Derived.WalkLawsBesides
import Derived.Handy
import Derived.Lib.Hide
import Derived.Outline
import Derived.Laws.IdiomStrings
import Derived.Deep.LoopGhost
import Derived.ChangeKeysEq
import Derived.WalkMore
import Derived.Deep.RegionHeld3
import Derived.Lib.SmallJoins
import Derived.Lib.ItoaMem
import Derived.Test.YteklhapffplohaaGreatDoorOm
import Derived.Test.YteklhapffplohaaGreatDoorOl
import Derived.Test.YteklhapffplohaaGreatDoorOb
import Derived.Test.YteklhapffplohaaGreatDoorOk
import Derived.Test.YteklhapffplohaaGreatDoorOd
import Derived.Test.YteklhapffplohaaGreatDoorOj
import Derived.Test.YteklhapffplohaaGreatDoorOa
set_option maxHeartbeats 4000000
set_option maxRecDepth 1000000
set_option linter.unusedVariables false
set_option linter.unusedSimpArgs false
namespace Go.Proofs.YteklhapffplohaaGreatDoor
open Go.RowKit
theorem Wt.digitR (r : Nat) (hr : r < 10) (w : World) : Calls Tryz.prog 83 #[.int .u32 r] w fun e w' => e = .returned (.int .u8 ((48 + r : Nat) : Int)) ∧ w = w' := by
 have h1 : (r : Int) < 10 := by omega
 have h2 : (r : Int) % 256 = (r : Int) := by omega
 have h3 : (48 + (r : Int)) % 256 = 48 + (r : Int) := by omega
 have h4 : (((48 + r : Nat)) : Int) = 48 + (r : Int) := by omega
 rw [h4];go_enter Tryz.func83,Tryz.ntmps83;go_wp2_with fail;go_ret;exact ⟨rfl,rfl⟩
def Wt.loz (n : Nat) : List UInt8 := if n = 0 then [] else Tx.lo n
theorem Wt.loz_zero : Wt.loz 0 = [] := rfl
theorem Wt.loz_pos {n : Nat} (h : n ≠ 0) : Wt.loz n = Tx.dg (n % 10) :: Wt.loz (n / 10) := by
 unfold Wt.loz;rw [if_neg h];by_cases h1 : n < 10
 · rw [if_pos (by omega),Tx.lo_small h1,Nat.mod_eq_of_lt h1]
 · rw [if_neg (by omega),Tx.lo_big h1]
theorem Wt.put_own {w : World} {B g L cap : Nat} {t : TypeId} {ws : List Nat} (h : w.ownsRow B t 1 (.slice (some ⟨g,0,none⟩) L cap) L (Nt.vs ws)) (k x : Nat) (hk : k < ws.length) (hl : ws.length = L) :
 ∃ W,w.setCell ⟨g,k,none⟩ (.int .u32 (x : Int)) = W ∧ w.cell? ⟨g,k,none⟩ = some (.int .u32 (ws.getD k 0 : Nat)) ∧ w.frozen? ⟨g,k,none⟩ = false ∧ W.ownsRow B t 1 (.slice (some ⟨g,0,none⟩) L cap) L (Nt.vs (ws.set k x)) ∧ w.grownBy W (some g) := by
 have h2 := h.stored k (.int .u32 (x : Int))
 refine ⟨_,rfl,?_,h.frozenAt k,?_,h2.2⟩
 · rw [h.cellAt k (by omega),List.getD_eq_getElem?_getD,List.getElem?_eq_getElem hk];simp [Nt.vs,List.getElem?_eq_getElem hk]
 · have e : Nt.vs (ws.set k x) = (Nt.vs ws).set k (.int .u32 (x : Int)) := by simp [Nt.vs,List.map_set]
   rw [e];exact h2.1
theorem Wt.own_mono {w : World} {B B2 sz : Nat} {t : TypeId} {v : Value} {n : Nat} {xs : List Value} (h : w.ownsRow B t sz v n xs) (hb : B2 ≤ B) : w.ownsRow B2 t sz v n xs := by
 refine ⟨h.1,?_⟩;rcases h.2 with hv | ⟨g,cap,cur,hv,hB',hg,rest⟩
 · exact .inl hv
 · exact .inr ⟨g,cap,cur,hv,Nat.le_trans hb hB',hg,rest⟩
def Wt.apart (o v : Value) : Prop := ∀ g,o.ownBlock = some g → v.ownBlock ≠ some g
theorem Wt.apart_ne {o v : Value} (h : Wt.apart o v) : o.ownBlock = none ∨ o.ownBlock ≠ v.ownBlock := by
 cases e : o.ownBlock with
 | none => exact .inl rfl
 | some g => exact .inr (fun e2 => h g e e2.symm)
theorem Wt.loz_len {n : Nat} (h : (Nt.dig n).length ≤ 512) : (Wt.loz n).length ≤ 16385 := by
 unfold Wt.loz;by_cases h0 : n = 0
 · rw [if_pos h0]; simp
 · rw [if_neg h0]; exact Tx.lo_len_dig h
theorem Wt.apart_next {o d o' : Value} {s : Nat} (h : Wt.apart o d) (hd : ∀ g,d.ownBlock = some g → g < s) (h2 : o'.ownBlock = o.ownBlock ∨ o'.ownBlock = some s) : Wt.apart o' d := fun g hg he => by
 rcases h2 with e | e
 · exact h g (e ▸ hg) he
 · have := hd g he;rw [e] at hg;simp only [Option.some.injEq] at hg;omega
theorem Wt.apart_symm {o d : Value} (h : Wt.apart o d) : Wt.apart d o := fun g hg he => h g he hg
theorem Wt.bv_snoc (out : List UInt8) (x : UInt8) : By.bv (out ++ [x]) = By.bv out ++ [.int .u8 (x.toNat : Int)] := by rw [By.bv_append]; rfl
theorem Wt.natR_any (n : Nat) (v : Value) (w : World) (h : Nt.N w v n) (hl : (Nt.dig n).length ≤ 512) :
 Calls Tryz.prog 54 #[v,.int .i64 10] w fun e w' => e = .returned (.tuple #[.string ⟨(Tx.dec n).toArray⟩,.int .i64 0]) ∧ Below w.heap.size w w' := by
 obtain ⟨ad,cap,rfl⟩ := Nt.In.slice h
 have KS := Rn.Sound_any (Nt.dig n) _ w h (Nt.dig_wd n) (by omega)
 rw [show Nt.sound (Nt.dig n) = true by rw [Nt.sound_dig]; exact decide_eq_true hl] at KS
 have HN := Lib.hid h
 have HLO := Lib.hid (Wt.loz_len hl)
 have HL := Lib.hid hl
 obtain ⟨i0,hi,hz0,hz1,hz2⟩ := info_parts Tx.infoByte
 clear h
 obtain ⟨L0,hL0⟩ : ∃ z,z = (Nt.dig n).length := ⟨_,rfl⟩
 rw [← hL0] at KS HN
 rw [← hL0]
 have HL0 := Lib.hid hL0
 clear hL0 hl
 go_enter Tryz.func54,Tryz.ntmps54
 go_wp2_with fail
 refine KS.mono ?_
 rintro x w1 ⟨rfl,hb1⟩
 have hin1 : Nt.In (w1.alloc (.cells #[] 5)) (.slice ad L0 cap) (Nt.dig n) := (Nt.In.below HN.out hb1 (Nat.le_refl _)).below ((Below.refl _ _).alloc (Nat.le_refl _) _) (Nat.le_refl _)
 have KN := Rn.Norm_own (Nt.dig n) _ _ hin1 (Nt.dig_wd n) (by have := HL.out; omega)
 rw [Nt.val_dig] at KN
 have HB1 := Lib.hid (hb1.alloc hb1.size (.cells #[] 5))
 have HSZ := Lib.hid hb1.size
 clear hin1 hb1 KS
 go_wp2_with fail
 refine KN.mono ?_
 rintro x w2 ⟨vl,rfl,hown2,hb2⟩
 obtain ⟨la,lc,rfl⟩ := Tx.own_slice hown2
 have HOL := Lib.hid (Wt.own_mono hown2 (by simp; have := HSZ.out; omega : w.heap.size ≤ (w1.alloc (.cells #[] 5)).heap.size))
 have HOD := Lib.hid (Wt.own_mono (Sl.own_below (Sl.own_empty w1 5) hb2 (Nat.le_refl _)) HSZ.out)
 have HAP : Hid (Wt.apart (.slice (some ⟨w1.heap.size,0,none⟩) 0 0) (.slice la (Nt.dig n).length lc)) := Lib.hid (fun g hg he => by
   have h1 := (hown2.lt g he).1;simp only [Value.ownBlock,Option.some.injEq] at hg;simp at h1
   omega)
 have HB2 := Lib.hid (HB1.out.trans (hb2.mono HB1.out.size))
 clear hown2 hb2 KN
 go_wp2_with fail
 go_loopg [6,7] (Wt.loz n).length (fun g o v wr => ∃ (cur : Nat) (out : List UInt8),wr.ownsRow w.heap.size 57 1 v (Nt.dig cur).length (Nt.vs (Nt.dig cur)) ∧ wr.ownsRow w.heap.size 5 1 o out.length (By.bv out) ∧ Wt.apart o v ∧ Below w.heap.size w wr ∧ cur ≤ n ∧ g = (Wt.loz cur).length ∧ out ++ Wt.loz cur = Wt.loz n)
 case atStart => exact ⟨n,[],HOL.out,HOD.out,HAP.out,HB2.out,Nat.le_refl _,rfl,rfl⟩
 case round =>
  obtain ⟨cur,out,hown,hod,hap,hbw,hcn,hg,hout⟩ := hrel
  obtain ⟨wo,hwo⟩ : ∃ z,z = wr := ⟨_,rfl⟩
  subst hwo
  obtain ⟨aa,ac,hv⟩ := Tx.own_slice hown
  obtain ⟨L,hL⟩ : ∃ z,z = (Nt.dig cur).length := ⟨_,rfl⟩
  rw [← hL] at hv hown
  subst hv
  obtain ⟨oa,oc,hv⟩ := Tx.own_slice hod
  obtain ⟨K,hK⟩ : ∃ z,z = out.length := ⟨_,rfl⟩
  rw [← hK] at hv hod
  subst hv
  have HKK := Lib.hid hK
  have HLL := Lib.hid hL
  have HOWN := Lib.hid hown
  have HOD2 := Lib.hid hod
  have HAPT := Lib.hid hap
  have HBW := Lib.hid hbw
  have HCN := Lib.hid hcn
  have HG := Lib.hid hg
  have HOUT := Lib.hid hout
  have hol : K ≤ 16385 := by
   have := HLO.out;rw [← hout,List.length_append] at this;omega
  clear hown hod hap hbw hcn hg hout HOL HOD HAP HB2 HB1 HSZ
  rcases Nat.eq_zero_or_pos cur with hc | hc
  · subst hc;have hl0 : L = 0 := by rw [hL,Nt.dig_zero]; rfl
    subst hl0;have hout : out = Wt.loz n := by have := HOUT.out; rw [Wt.loz_zero,List.append_nil] at this; exact this
    clear hL;rcases Nat.eq_zero_or_pos n with hn | hn
    · have hk0 : K = 0 := by rw [hK,hout,hn]; rfl
      subst hk0;have he : Tx.dec n = [48] := by rw [hn]; exact (by decide : [Tx.dg 0] = [48]) ▸ (by unfold Tx.dec; rw [Tx.lo_small (by decide)]; rfl)
      have HE := Lib.hid he;clear hK hout hn he;go_wp2_with fail;go_ret2;exact ⟨by rw [HE.out]; rfl,HBW.out⟩
    · have hk0 : ((K : Int) == 0) = false := beq_eq_false_iff_ne.2 (by
       rw [hK,hout,Wt.loz_pos (by omega)];simp
       omega)
      have hkp : 0 < K := by have := beq_eq_false_iff_ne.1 hk0; omega
      have hlo : out = Tx.lo n := by rw [hout]; unfold Wt.loz; rw [if_neg (by omega)]
      have HLN := Lib.hid hlo;obtain ⟨g,hg⟩ : ∃ g,oa = some ⟨g,0,none⟩ := by
       rcases HOD2.out.2 with ⟨_,e⟩ | ⟨g,c,cu,hv,_⟩
       · omega
       · simp only [Value.slice.injEq] at hv;exact ⟨g,hv.1⟩
      subst hg;clear hK hout hlo;go_wp2_with fail;go_loopw [10,11] (fun o i wr => ∃ (k : Nat),i = .int .i64 ((k : Int) - 1) ∧ k ≤ K ∧ wr.ownsRow w.heap.size 5 1 o (K - k) (By.bv (out.drop k).reverse) ∧ wr.ownsRow w.heap.size 5 1 (.slice (some ⟨g,0,none⟩) K oc) K (By.bv out) ∧ Wt.apart o (.slice (some ⟨g,0,none⟩) K oc) ∧ Below w.heap.size w wr) (fun _ i _ => (intOf i + 1).toNat);case atStart =>
       have hb := HBW.out.alloc HBW.out.size (.cells #[] 5);refine ⟨K,by first | rfl | go_num | (simp; try omega),Nat.le_refl _,?_,HOD2.out.alloc _,fun b hb2 he => ?_,hb⟩
       · rw [show K - K = 0 by omega,List.drop_eq_nil_of_le (by have := HKK.out; omega)];exact Wt.own_mono (Sl.own_empty wo 5) HBW.out.size
       · have h1 := (HOD2.out.lt b he).2;simp only [Value.ownBlock,Option.some.injEq] at hb2;omega
      case round =>
       obtain ⟨k,rfl,hk,hown,hod,hap,hbw⟩ := hrel;obtain ⟨wi,hwi⟩ : ∃ z,z = wr := ⟨_,rfl⟩;subst hwi;obtain ⟨ba,bc,hv⟩ := Tx.own_slice hown;subst hv;have HO := Lib.hid (And.intro hown (And.intro hod (And.intro hap hbw)));clear hown hod hap hbw;rcases k with _ | k
       · have hcv : (convert 27 9 (.slice ba (K - 0) bc)).run Tryz.prog wi = .ok (.string ⟨(Tx.dec n).toArray⟩) wi := by
          rcases HO.out.1.2 with ⟨_,e⟩ | ⟨g5,c,cu,hv,_⟩
          · omega
          · simp only [Value.slice.injEq] at hv;obtain ⟨rfl,_,rfl⟩ := hv;have h2 := World.ownsRow.cells HO.out.1 (g := g5) rfl;have h3 := run_convert_bytes_back (P := Tryz.prog) wi 27 9 5 ⟨g5,0,none⟩ bc (out.drop 0).reverse Tryz.underlying27 Tryz.underlying5 Tryz.underlying9 (fun j hj => h2 j _ (by
              unfold By.bv;rw [List.getElem?_map,List.getElem?_eq_getElem hj]
              rfl))
            rw [List.length_reverse,List.length_drop,← HKK.out] at h3;rw [h3,HLN.out];rfl
         rw [show K - 0 = K by omega] at hcv ⊢;have HCV := Lib.hid hcv;go_wp2_with fail;go_ret2;exact ⟨rfl,HO.out.2.2.2⟩
       · have hkk : k < K := by omega
         have c0 := HO.out.2.1.cellAt k (by omega);have hx : (By.bv out)[k]? = some (.int .u8 ((out.getD k 0).toNat : Int)) := by
          unfold By.bv;rw [List.getElem?_map,List.getElem?_eq_getElem (by have := HKK.out; omega),List.getD_eq_getElem?_getD,List.getElem?_eq_getElem (by have := HKK.out; omega)];rfl
         rw [hx] at c0;have hrow : (out.drop k).reverse = (out.drop (k + 1)).reverse ++ [out.getD k 0] := by
          rw [List.drop_eq_getElem_cons (by have := HKK.out; omega),List.reverse_cons,List.getD_eq_getElem?_getD,List.getElem?_eq_getElem (by have := HKK.out; omega)];rfl
         have HROW := Lib.hid hrow;have hk1 : (((k + 1 : Nat) : Int) - 1) = (k : Int) := by omega
         rw [hk1];clear hx hrow;generalize out.getD k 0 = x at *;obtain ⟨M,hM⟩ : ∃ z,z = K - (k + 1) := ⟨_,rfl⟩;rw [← hM] at HO ⊢;have HM := Lib.hid hM;clear hM;go_wp2_with (at_builtin; refine wpList_append_own_at _ rfl _ _ 27 rfl w.heap.size 5 i0 (.int .u8 0) 1 1 Tryz.underlying27 hi hz0 hz1 hz2 rfl (by decide) _ _ _ rfl (HO.out.1.alloc _) ⟨wi.heap.size,0,none⟩ 1 1 [_] rfl rfl (Sl.one_new _ _ _) ?c2 ?c3 ?c4 ?c5 ?_);case c2 => intro u hu; simp only [List.mem_singleton] at hu; subst hu; rfl
         case c3 => simp only [maxLen]; have := HM.out; omega
         case c4 => have := HM.out; omega
         case c5 => have := HO.out.2.2.2.size; simp; omega
         intro o' w3 hown3 hg3 _ hat;have hod3 := (HO.out.2.1.alloc (.cells #[.int .u8 (x.toNat : Int)] 5)).kept hg3 (Wt.apart_ne (Wt.apart_symm HO.out.2.2.1));have hap3 : Wt.apart o' (.slice (some ⟨g,0,none⟩) K oc) := Wt.apart_next HO.out.2.2.1 (fun b hb => by have := (HO.out.2.1.lt b hb).2; omega) hat;have hb3 := Sl.below_own (HO.out.2.2.2.alloc HO.out.2.2.2.size _) (HO.out.1.alloc _) hg3 (Nat.le_refl _) (by have := HO.out.2.2.2.size; simp; omega);obtain ⟨oa',oc',rfl⟩ := Tx.own_slice hown3;rw [← Wt.bv_snoc,← HROW.out] at hown3;have HR := Lib.hid (And.intro hown3 (And.intro hod3 (And.intro hap3 hb3)));clear hown3 hod3 hap3 hb3 hg3 hat;go_wp2_with fail;go_roundw;case rel =>
          refine ⟨k,by first | rfl | go_num | (simp; try omega),by omega,?_,HR.out.2.1,?_,HR.out.2.2.2⟩
          · rw [show K - k = M + 1 by have := HM.out; omega];exact HR.out.1
          · exact HR.out.2.2.1
         case measure => simp [intOf]
  · obtain ⟨g,hg⟩ : ∃ g,aa = some ⟨g,0,none⟩ := by
     rcases HOWN.out.2 with ⟨_,e⟩ | ⟨g,c,cu,hv,_⟩
     · have := Nt.dig_len_pos.2 hc; omega
     · simp only [Value.slice.injEq] at hv;exact ⟨g,hv.1⟩
    subst hg;have hL0 : (0 : Int) < (L : Int) := by have := Nt.dig_len_pos.2 hc; omega
    have hlc : (Nt.dig cur).length ≤ 512 := Nat.le_trans (Nt.dig_len_mono HCN.out) HL.out;rw [← hL] at hlc;have HHC := Lib.hid hc;clear hL hK hc;go_wp2_with fail;go_loopw [8,9] (fun rv i wr => ∃ (k r : Nat) (ws : List Nat),i = .int .i64 ((k : Int) - 1) ∧ rv = .int .u64 r ∧ k ≤ L ∧ r < 10 ∧ ws.length = L ∧ Nt.Wd ws ∧ Nt.val ((Nt.dig cur).drop k) = 10 * Nt.val (ws.drop k) + r ∧ (∀ j,j < k → ws.getD j 0 = (Nt.dig cur).getD j 0) ∧ wr.ownsRow w.heap.size 57 1 (.slice (some ⟨g,0,none⟩) L ac) L (Nt.vs ws) ∧ wr.ownsRow w.heap.size 5 1 (.slice oa K oc) K (By.bv out) ∧ Below w.heap.size w wr) (fun _ i _ => (intOf i + 1).toNat);case atStart => exact ⟨L,0,Nt.dig cur,by first | rfl | go_num | (simp; try omega),rfl,Nat.le_refl _,by decide,HLL.out.symm,Nt.dig_wd cur,by rw [List.drop_eq_nil_of_le (by rw [← HLL.out]; exact Nat.le_refl _)]; rfl,fun _ _ => rfl,HOWN.out,HOD2.out,HBW.out⟩
    case round =>
     obtain ⟨k,r,ws,rfl,rfl,hk,hr,hwl,hwd,hval,hlow,hown,hod,hbw⟩ := hrel;obtain ⟨wi,hwi⟩ : ∃ z,z = wr := ⟨_,rfl⟩;subst hwi;have HWD := Lib.hid hwd;have HV := Lib.hid hval;have HLOW := Lib.hid hlow;have HO := Lib.hid (And.intro hown (And.intro hod hbw));have HWL := Lib.hid hwl;clear hwd hval hlow hown hod hbw hwl;rcases k with _ | k
     · have hval := HV.out;rw [List.drop_zero,List.drop_zero,Nt.val_dig] at hval;have hq : Nt.val ws = cur / 10 := by omega
       have hm : r = cur % 10 := by omega
       have hin : Nt.In wi (.slice (some ⟨g,0,none⟩) L ac) ws := Nt.In.of_own (B := w.heap.size) (t := 57) (by rw [HWL.out]; exact HO.out.1);have KN := Rn.Norm_own ws _ wi hin HWD.out (by have := HWL.out; omega);rw [hq] at KN;have HM := Lib.hid hm;have hrw : (r : Int) % 4294967296 = (r : Int) := by omega
       clear hval hq hm hin;go_wp2_with fail;refine KN.mono ?_;rintro z w8 ⟨v8,rfl,hn8,hb8⟩;obtain ⟨la,lc,rfl⟩ := Tx.own_slice hn8;have KD := Wt.digitR r hr w8;have HN8 := Lib.hid (And.intro hn8 hb8);clear hn8 hb8 KN;go_wp2_with fail;refine KD.mono ?_;rintro z w9 ⟨rfl,hw9⟩;subst hw9;clear KD;have hod8 := Sl.own_below HO.out.2.1 HN8.out.2 (Nat.le_refl _);have HBW8 := Lib.hid (HO.out.2.2.trans (HN8.out.2.mono HO.out.2.2.size));go_wp2_with (at_builtin; refine wpList_append_own_at _ rfl _ _ 27 rfl w.heap.size 5 i0 (.int .u8 0) 1 1 Tryz.underlying27 hi hz0 hz1 hz2 rfl (by decide) _ _ _ rfl (hod8.alloc _) ⟨w8.heap.size,0,none⟩ 1 1 [_] rfl rfl (Sl.one_new _ _ _) ?c2 ?c3 ?c4 ?c5 ?_);case c2 => intro u hu; simp only [List.mem_singleton] at hu; subst hu; rfl
       case c3 => simp only [maxLen]; omega
       case c4 => omega
       case c5 => have := HBW8.out.size; simp; omega
       intro o' w3 hown3 hg3 _ hat;have hvl8 := (HN8.out.1.alloc (.cells #[.int .u8 (48 + (r : Int))] 5));have hle8 := HN8.out.2.size;have hold : ∀ b,(Value.slice oa K oc).ownBlock = some b → b < wi.heap.size := fun b hb => (HO.out.2.1.lt b hb).2;have hap0 : Wt.apart (.slice oa K oc) (.slice la (Nt.dig (cur / 10)).length lc) := fun b hb he => by
        have h1 := hold b hb;have h2 := (HN8.out.1.lt b he).1;omega
       have hvl3 := hvl8.kept hg3 (Wt.apart_ne (Wt.apart_symm hap0));have hap3 : Wt.apart o' (.slice la (Nt.dig (cur / 10)).length lc) := Wt.apart_next hap0 (fun b hb => by have := (HN8.out.1.lt b hb).2; omega) hat;have hb3 := Sl.below_own (HBW8.out.alloc HBW8.out.size _) (hod8.alloc _) hg3 (Nat.le_refl _) (by have := HBW8.out.size; simp; omega);obtain ⟨oa',oc',rfl⟩ := Tx.own_slice hown3;have hdg : (Tx.dg r).toNat = 48 + r := by unfold Tx.dg; simp only [UInt8.toNat_ofNat']; omega
       have hbv : By.bv out ++ [.int .u8 (48 + (r : Int))] = By.bv (out ++ [Tx.dg r]) := by rw [Wt.bv_snoc,hdg,show ((48 + r : Nat) : Int) = 48 + (r : Int) by omega]
       rw [hbv] at hown3;have HR := Lib.hid (And.intro (Wt.own_mono hvl3 HO.out.2.2.size) (And.intro hown3 (And.intro hap3 hb3)));clear hown3 hvl3 hap3 hb3 hg3 hat hvl8 hle8 hold hap0 hdg hbv hod8;go_wp2_with fail;have hlz := Wt.loz_pos (n := cur) (by have := HHC.out; omega);go_roundg (Wt.loz (cur / 10)).length;case measure => rw [HG.out,hlz]; exact Nat.lt_succ_self _
       case rel =>
        refine ⟨cur / 10,out ++ [Tx.dg r],HR.out.1,?_,HR.out.2.2.1,HR.out.2.2.2,by have := HCN.out; omega,rfl,?_⟩
        · rw [List.length_append,← HKK.out];exact HR.out.2.1
        · rw [← HOUT.out,hlz,← HM.out,List.append_assoc];rfl
     · have hk1 : (((k + 1 : Nat) : Int) - 1) = (k : Int) := by omega
       rw [hk1];have hkk : k < L := by omega
       have hxe := HLOW.out k (by omega);have hxb := (Nt.dig_wd cur).getD k;have hstep := Nt.short_step (a := Nt.dig cur) (ws := ws) (i := k) (r := r) (d := 10) HV.out (by decide) (by have := HLL.out; omega) (by have := HWL.out; omega);have hqlt := Nt.short_lt (a := (Nt.dig cur).getD k 0) (r := r) (d := 10) hxb hr;obtain ⟨x,hx⟩ : ∃ x,(Nt.dig cur).getD k 0 = x := ⟨_,rfl⟩;rw [hx] at hxe hxb hstep hqlt;obtain ⟨N,hN⟩ : ∃ N,4294967296 * r + x = N := ⟨_,rfl⟩;rw [hN] at hstep hqlt;have HSTEP := Lib.hid hstep;clear hstep hx;have hNl : N < 18446744073709551616 := by omega
       obtain ⟨q,hq⟩ : ∃ q,N / 10 = q := ⟨_,rfl⟩;obtain ⟨m,hm⟩ : ∃ m,N % 10 = m := ⟨_,rfl⟩;rw [hq] at HSTEP hqlt;rw [hm] at HSTEP;have hml : m < 10 := hm ▸ Nat.mod_lt _ (by decide);have hqI : ((r : Int) * 4294967296 + (x : Int)) / 10 = (q : Int) := by omega
       have hmI : ((r : Int) * 4294967296 + (x : Int)) % 10 = (m : Int) := by omega
       have hqw : (q : Int) % 4294967296 = (q : Int) := by omega
       obtain ⟨W,hW,e1,e2,hO9,hG9⟩ := Wt.put_own HO.out.1 k q (by have := HWL.out; omega) HWL.out;rw [hxe] at e1;have hD9 := HO.out.2.1.kept hG9 (Wt.apart_ne (v := .slice (some ⟨g,0,none⟩) L ac) HAPT.out);have hB9 := Sl.below_own HO.out.2.2 HO.out.1 hG9 (Nat.le_refl _) HO.out.2.2.size;have HR := Lib.hid (And.intro hqlt (And.intro hml (And.intro hO9 (And.intro hD9 hB9))));have HX := Lib.hid hxe;clear hN hq hm hqlt hml hO9 hD9 hB9 hG9 hxe;go_wp2_with fail;go_roundw;case rel =>
        refine ⟨k,m,_,by first | rfl | go_num | (simp; try omega),by first | rfl | rw [hmI],by omega,HR.out.2.1,by rw [List.length_set]; exact HWL.out,HWD.out.set _ _ HR.out.1,HSTEP.out,fun j hj => ?_,HR.out.2.2.1,HR.out.2.2.2.1,HR.out.2.2.2.2⟩;rw [Nt.getD_set_ne ws k j _ (by omega)];exact HLOW.out j (by omega)
       case measure => simp [intOf]
theorem Tx.chk1 (s1 s2 : Bool) (a1 a2 a3 a4 : Option Addr) (l1 l2 l3 l4 c1 c2 c3 c4 B : Nat) (w : World) (h : w.heap[B]? = some (.cells #[.bool s1,.slice a1 l1 c1,.slice a2 l2 c2,.bool s2,.slice a3 l3 c3,.slice a4 l4 c4] 26 (0,0)))
 (K1 : Rt.SoundAt w (.agg #[.bool s1,.slice a1 l1 c1,.slice a2 l2 c2,.bool s2,.slice a3 l3 c3,.slice a4 l4 c4])) :
 Calls Tryz.prog 85 #[.bool false,.slice (some ⟨B,0,none⟩) 1 1] w fun e w' => e = .returned (.int .i64 0) ∧ Below w.heap.size w w' := by
 have hlt := (Array.getElem?_eq_some_iff.1 h).1
 have HC := Lib.hid (fun (w' : World) (hb : Below w.heap.size w w') => Rt.cells6 ((hb.block B hlt).trans h))
 have HK1 := Lib.hid K1
 clear h K1
 go_enter Tryz.func85,Tryz.ntmps85
 go_wp2_with fail
 go_loopw [11] (fun i wr => Below w.heap.size w wr ∧ ∃ k : Nat,i = .int .i64 k ∧ k ≤ 1) (fun i _ => 1 - (intOf i).toNat)
 case atStart => exact ⟨Below.refl _ _,0,rfl,by decide⟩
 case round =>
  obtain ⟨hbw,k,rfl,hk⟩ := hrel
  obtain ⟨wo,hwo⟩ : ∃ z,z = wr := ⟨_,rfl⟩
  subst hwo
  have HBW := Lib.hid hbw
  have HA : Hid (∀ o,Below w.heap.size w (wo.alloc o)) := Lib.hid (fun o => hbw.alloc hbw.size o)
  obtain ⟨d0,d1,d2,d3,d4,d5⟩ := HC.out _ hbw
  clear hbw
  rcases (show k = 0 ∨ k = 1 by omega) with rfl | rfl
  · go_wp2_with fail;refine (HK1.out _ (HA.out _)).mono ?_;rintro x w1 ⟨rfl,hb1⟩;have HB1 := Lib.hid ((HA.out _).trans (hb1.mono (HA.out _).size));clear hb1;go_wp2_with fail;go_roundw;case rel => exact ⟨HB1.out,_,by first | rfl | go_num,by decide⟩
    case measure => simp [intOf]
  · clear HA;go_wp2_with fail;go_loopw [21] (fun i wr => Below w.heap.size w wr ∧ ∃ k : Nat,i = .int .i64 k ∧ k ≤ 1) (fun i _ => 1 - (intOf i).toNat);case atStart => exact ⟨HBW.out,0,rfl,by decide⟩
    case round =>
     obtain ⟨hbw,k,rfl,hk⟩ := hrel;obtain ⟨wi,hwi⟩ : ∃ z,z = wr := ⟨_,rfl⟩;subst hwi;have HBW := Lib.hid hbw;have HA : Hid (∀ o,Below w.heap.size w (wi.alloc o)) := Lib.hid (fun o => hbw.alloc hbw.size o);clear d0 d1 d2 d3 d4 d5;obtain ⟨d0,d1,d2,d3,d4,d5⟩ := HC.out _ hbw;clear hbw;rcases (show k = 0 ∨ k = 1 by omega) with rfl | rfl
     · go_wp2_with fail;go_roundw;case rel => exact ⟨HA.out _,_,by first | rfl | go_num,by decide⟩
       case measure => simp [intOf]
     · go_wp2_with fail;go_ret;exact ⟨rfl,HBW.out⟩
theorem Sm.two (w : World) (o1 o2 : Obj) : ((w.alloc o1).alloc o2).heap[w.heap.size]? = some o1 ∧ ((w.alloc o1).alloc o2).heap[w.heap.size + 1]? = some o2 ∧ ((w.alloc o1).alloc o2).heap.size = w.heap.size + 2 ∧ Below w.heap.size w ((w.alloc o1).alloc o2) := by
 refine ⟨(Lib.alloc_old _ _ _ (by simp)).trans (heap_alloc_new w o1),?_,by simp,((Below.refl _ _).alloc (Nat.le_refl _) _).alloc (by simp) _⟩;have := heap_alloc_new (w.alloc o1) o2;rwa [show (w.alloc o1).heap.size = w.heap.size + 1 by simp] at this
theorem Sm.alike (s1 s2 : Bool) (t1 b1 t2 b2 : List Nat) (v3 v4 v6 v7 u3 u4 u6 u7 : Value) (w : World) (h1 : t1.length ≤ 4611686018427387904) (h2 : b1.length ≤ 4611686018427387904) (h3 : t2.length ≤ 4611686018427387904) (h4 : b2.length ≤ 4611686018427387904)
 (i3 : Nt.In w v3 t1) (i4 : Nt.In w v4 b1) (i6 : Nt.In w v6 t2) (i7 : Nt.In w v7 b2) (j3 : Nt.In w u3 t1) (j4 : Nt.In w u4 b1) (j6 : Nt.In w u6 t2) (j7 : Nt.In w u7 b2) :
 Calls Tryz.prog 18 #[.agg #[.bool s1,v3,v4,.bool s2,v6,v7],.agg #[.bool s1,u3,u4,.bool s2,u6,u7]] w fun e w' => e = .returned (.bool true) ∧ Below w.heap.size w w' := by
 obtain ⟨a3,c3,rfl⟩ := i3.slice
 obtain ⟨a4,c4,rfl⟩ := i4.slice
 obtain ⟨a6,c6,rfl⟩ := i6.slice
 obtain ⟨a7,c7,rfl⟩ := i7.slice
 obtain ⟨d3,f3,rfl⟩ := j3.slice
 obtain ⟨d4,f4,rfl⟩ := j4.slice
 obtain ⟨d6,f6,rfl⟩ := j6.slice
 obtain ⟨d7,f7,rfl⟩ := j7.slice
 have HK1 := Lib.hid (fun w' (hb : Below w.heap.size w w') => Sm.rat s1 t1 b1 _ _ _ _ w' h1 h2 (i3.below hb (Nat.le_refl _)) (i4.below hb (Nat.le_refl _)) (j3.below hb (Nat.le_refl _)) (j4.below hb (Nat.le_refl _)))
 have HK2 := Lib.hid (fun w' (hb : Below w.heap.size w w') => Sm.rat s2 t2 b2 _ _ _ _ w' h3 h4 (i6.below hb (Nat.le_refl _)) (i7.below hb (Nat.le_refl _)) (j6.below hb (Nat.le_refl _)) (j7.below hb (Nat.le_refl _)))
 obtain ⟨n0,n1,n2,n3⟩ := Sm.two w (.cells #[.bool s1,.slice a3 t1.length c3,.slice a4 b1.length c4,.bool s2,.slice a6 t2.length c6,.slice a7 b2.length c7] 26) (.cells #[.bool s1,.slice d3 t1.length f3,.slice d4 b1.length f4,.bool s2,.slice d6 t2.length f6,.slice d7 b2.length f7] 26)
 have HN := Lib.hid (And.intro n0 (And.intro n1 (And.intro n2 n3)))
 clear n0 n1 n2 n3 i3 i4 i6 i7 j3 j4 j6 j7
 go_enter Tryz.func18,Tryz.ntmps18
 go_wp2_with fail
 refine (HK1.out _ HN.out.2.2.2).mono ?_
 rintro x w1 ⟨rfl,hb1⟩
 obtain ⟨n0,n1,n2,n3⟩ := HN.out
 have q0 := (hb1.block w.heap.size (by omega)).trans n0
 have q1 := (hb1.block (w.heap.size + 1) (by omega)).trans n1
 have hbw1 := n3.trans (hb1.mono n3.size)
 have e3 : w1.cell? ⟨w.heap.size,3,none⟩ = some (.bool s2) := by simp [World.cell?,q0]
 have e4 : w1.cell? ⟨w.heap.size,4,none⟩ = some (.slice a6 t2.length c6) := by simp [World.cell?,q0]
 have e5 : w1.cell? ⟨w.heap.size,5,none⟩ = some (.slice a7 b2.length c7) := by simp [World.cell?,q0]
 have g3 : w1.cell? ⟨w.heap.size + 1,3,none⟩ = some (.bool s2) := by simp [World.cell?,q1]
 have g4 : w1.cell? ⟨w.heap.size + 1,4,none⟩ = some (.slice d6 t2.length f6) := by simp [World.cell?,q1]
 have g5 : w1.cell? ⟨w.heap.size + 1,5,none⟩ = some (.slice d7 b2.length f7) := by simp [World.cell?,q1]
 have HB1 := Lib.hid hbw1
 clear hb1 n0 n1 n2 n3 q0 q1 hbw1
 go_wp2_with fail
 refine (HK2.out _ HB1.out).mono ?_
 rintro x w2 ⟨rfl,hb2⟩
 have HB2 := Lib.hid (HB1.out.trans (hb2.mono HB1.out.size))
 clear hb2 e3 e4 e5 g3 g4 g5
 go_wp2_with fail
 go_ret
 exact ⟨rfl,HB2.out⟩
theorem Tx.N_slice {w : World} {v : Value} {n : Nat} (h : Nt.N w v n) : ∃ L a c,v = .slice a L c ∧ L = (Nt.dig n).length := by
 obtain ⟨a,c,hv⟩ := Nt.In.slice h;exact ⟨_,a,c,hv,rfl⟩
theorem Tx.N_zero {w : World} {v : Value} (h : Nt.N w v 0) : ∃ a c,v = .slice a 0 c := by
 obtain ⟨a,c,hv⟩ := Nt.In.slice h;rw [Nt.dig_zero] at hv;exact ⟨a,c,hv⟩
theorem Tx.Text_real (s : Bool) (t b : Nat) (s2 : Bool) (b2 : Nat) (v : Value) (w : World) (h : Rt.Q w v s t b s2 0 b2) (K : Rt.SoundAt w v) (hb : 0 < b) (hl : (Nt.dig t).length ≤ 512 ∧ (Nt.dig b).length ≤ 512) :
 Calls Tryz.prog 57 #[v,.int .i64 10] w fun e w' => e = .returned (.tuple #[.string (Tx.str (Tx.rat s t b)),.int .i64 0]) ∧ Below w.heap.size w w' := by
 obtain ⟨tv,bv,tv2,bv2,rfl,h1,h2,h3,h4⟩ := h
 obtain ⟨a3,c3,rfl⟩ := Tx.N_zero h3
 obtain ⟨L1,a1,c1,rfl,hL1⟩ := Tx.N_slice h1
 obtain ⟨L2,a2,c2,rfl,hL2⟩ := Tx.N_slice h2
 obtain ⟨L4,a4,c4,rfl,hL4⟩ := Tx.N_slice h4
 obtain ⟨n0,n1,n2,n3⟩ := Sm.two w (.cells #[.bool s,.slice a1 L1 c1,.slice a2 L2 c2,.bool s2,.slice a3 0 c3,.slice a4 L4 c4] 26) (.cells #[.bool s,.slice a1 L1 c1,.slice a2 L2 c2,.bool s2,.slice a3 0 c3,.slice a4 L4 c4] 26)
 have KC := Tx.chk1 _ _ _ _ _ _ _ _ _ _ _ _ _ _ _ _ n1 (fun w' hb => K w' (n3.trans (hb.mono n3.size)))
 have KR := Lib.hid (fun w' (hb2 : Below w.heap.size w w') => Tx.ratText_any s t b (.agg #[.bool s,.slice a1 L1 c1,.slice a2 L2 c2]) w' ⟨_,_,rfl,Nt.In.below h1 hb2 (Nat.le_refl _),Nt.In.below h2 hb2 (Nat.le_refl _)⟩ hb hl)
 have HN := Lib.hid (And.intro n0 (And.intro n2 n3))
 clear n0 n1 n2 n3 h1 h2 h3 h4 hL1 hL2 hL4 K
 go_enter Tryz.func57,Tryz.ntmps57
 go_wp2_with fail
 refine KC.mono ?_
 rintro x w1 ⟨rfl,hb1⟩
 have HB1 := Lib.hid (HN.out.2.2.trans (hb1.mono HN.out.2.2.size))
 obtain ⟨e0,e1,e2,e3,e4,e5⟩ := Rt.cells6 ((hb1.block w.heap.size (by have := HN.out.2.1; omega)).trans HN.out.1)
 clear hb1 KC
 go_wp2_with fail
 refine (KR.out _ HB1.out).mono ?_
 rintro x w2 ⟨rfl,hb2⟩
 have HB2 := Lib.hid (HB1.out.trans (hb2.mono HB1.out.size))
 clear hb2
 go_wp2_with fail
 go_ret2
 exact ⟨rfl,HB2.out⟩
theorem Wt.dig_ne {m n : Nat} (h : m ≠ n) : Nt.dig m ≠ Nt.dig n := fun e => h (by rw [← Nt.val_dig m,e,Nt.val_dig])
theorem Wt.SameN_any (m n : Nat) (v v2 : Value) (w : World) (h : Nt.N w v m) (h2 : Nt.N w v2 n) (hl : (Nt.dig m).length ≤ 512) :
 Calls Tryz.prog 55 #[v,v2] w fun e w' => e = .returned (.bool (decide (m = n))) ∧ Below w.heap.size w w' := by
 by_cases e : m = n
 · subst e;rw [decide_eq_true rfl];exact Sm.nat (Nt.dig m) v v2 w (by omega) h h2
 · rw [decide_eq_false e];exact Rn.Same_ne (Nt.dig m) (Nt.dig n) v v2 w (by omega) h h2 (Wt.dig_ne e)
theorem Wt.one_new (w : World) : Nt.N (w.alloc (.cells #[.int .u32 1] 57)) (.slice (some ⟨w.heap.size,0,none⟩) 1 1) 1 := by
 unfold Nt.N;rw [Nt.dig_small (by decide) (by decide)];exact Nt.In.of_row (ws := [1]) (heap_alloc_new w _)
theorem Wt.ratTextR_any (s : Bool) (t b : Nat) (v : Value) (w : World) (h : Rt.R w v s t b) (hl : (Nt.dig t).length ≤ 512 ∧ (Nt.dig b).length ≤ 512) :
 Calls Tryz.prog 27 #[v,.int .i64 10] w fun e w' => e = .returned (.string (Tx.str (Tx.rat s t b))) ∧ Below w.heap.size w w' := by
 obtain ⟨tv,bv,rfl,h1,h2⟩ := h
 obtain ⟨ta,tc,hv⟩ := Nt.In.slice h1
 obtain ⟨L,hL⟩ : ∃ z,z = (Nt.dig t).length := ⟨_,rfl⟩
 rw [← hL] at hv
 subst hv
 obtain ⟨ba,bc,hv2⟩ := Nt.In.slice h2
 obtain ⟨M,hM⟩ : ∃ z,z = (Nt.dig b).length := ⟨_,rfl⟩
 rw [← hM] at hv2
 subst hv2
 have HB0 : Hid (∀ o,Below w.heap.size w (w.alloc o)) := Lib.hid (fun o => (Below.refl _ _).alloc (Nat.le_refl _) o)
 have KT := Lib.hid (fun w' (hb : Below w.heap.size w w') => Wt.natR_any t _ w' (Nt.In.below h1 hb (Nat.le_refl _)) hl.1)
 have KB := Lib.hid (fun w' (hb : Below w.heap.size w w') => Wt.natR_any b _ w' (Nt.In.below h2 hb (Nat.le_refl _)) hl.2)
 have KS := Lib.hid (fun w' (hb : Below w.heap.size w w') => Wt.SameN_any b 1 (.slice ba M bc) (.slice (some ⟨w'.heap.size,0,none⟩) 1 1) (w'.alloc (.cells #[.int .u32 1] 57)) (Nt.In.below h2 (hb.alloc hb.size _) (Nat.le_refl _)) (Wt.one_new w') hl.2)
 have hq : (w.alloc (.cells #[.bool s,.slice ta L tc,.slice ba M bc] 24)).heap[w.heap.size]? = some (.cells #[.bool s,.slice ta L tc,.slice ba M bc] 24 (0,0)) := heap_alloc_new w _
 have HF : Hid (∀ w',Below (w.heap.size + 1) (w.alloc (.cells #[.bool s,.slice ta L tc,.slice ba M bc] 24)) w' → (w'.cell? ⟨w.heap.size,0,none⟩ = some (.bool s) ∧ w'.cell? ⟨w.heap.size,1,none⟩ = some (.slice ta L tc) ∧ w'.cell? ⟨w.heap.size,2,none⟩ = some (.slice ba M bc)) ∧ Below w.heap.size w w') := Lib.hid (fun w' hb => by
   have a0 := (hb.block w.heap.size (Nat.lt_succ_self _)).trans hq
   exact ⟨Rt.cells3 a0,(HB0.out _).trans (hb.mono (Nat.le_succ _))⟩)
 have hz : (w.alloc (.cells #[.bool s,.slice ta L tc,.slice ba M bc] 24)).heap.size = w.heap.size + 1 := by simp
 have HZ := Lib.hid hz
 have n1 : (Tx.dec t).length ≤ 16385 := by unfold Tx.dec; rw [List.length_reverse]; exact Tx.lo_len_dig hl.1
 have n2 : (Tx.dec b).length ≤ 16385 := by unfold Tx.dec; rw [List.length_reverse]; exact Tx.lo_len_dig hl.2
 have f1 : (9223372036854775807 < 1 + (Tx.dec t).length) = False := eq_false (by omega)
 have f2 : (9223372036854775807 < 1 + (Tx.dec b).length) = False := eq_false (by omega)
 have f3 : (9223372036854775807 < (Tx.dec t).length + (1 + (Tx.dec b).length)) = False := eq_false (by omega)
 have f4 : (9223372036854775807 < 1 + (Tx.dec t).length + (1 + (Tx.dec b).length)) = False := eq_false (by omega)
 have HTT : Hid (∀ (S : Bool) (R : List UInt8),decide (b = 1) = S → (if S = true then [] else 47 :: Tx.dec b) = R → (if s = true then [45] else []) ++ (Tx.dec t ++ R) = Tx.rat s t b) := Lib.hid (fun S R e0 e => by
   unfold Tx.rat;rw [← e,← e0];by_cases hb1 : b = 1
   · simp [hb1]
   · simp [hb1])
 clear h1 h2 hL hM hq hz hl n1 n2
 obtain ⟨S,hS⟩ : ∃ S,decide (b = 1) = S := ⟨_,rfl⟩
 rw [hS] at KS
 have HS := Lib.hid hS
 clear hS
 go_enter Tryz.func27,Tryz.ntmps27
 go_wp2_with fail
 refine (KT.out _ (HB0.out _)).mono ?_
 rintro x w1 ⟨rfl,hb1⟩
 rw [HZ.out] at hb1
 have HB1 := Lib.hid hb1
 obtain ⟨⟨c0,c1,c2⟩,hbw1⟩ := HF.out _ hb1
 have HBW1 := Lib.hid hbw1
 clear hb1 hbw1
 cases s
 all_goals
  go_wp2_with fail
  refine (KS.out _ HBW1.out).mono ?_
  rintro x w2 ⟨rfl,hb2⟩
  have HB2 := Lib.hid (HB1.out.trans (((Below.refl _ w1).alloc (Nat.le_refl _) _).trans (hb2.mono (by simp)) |>.mono (by have := HB1.out.size; simp at this; omega)))
  obtain ⟨⟨d0,d1,d2⟩,hbw2⟩ := HF.out _ HB2.out
  have HBW2 := Lib.hid hbw2
  clear hb2 hbw2 c0 c1 c2
  cases S
  · go_wp2_with fail;refine (KB.out _ HBW2.out).mono ?_;rintro x w3 ⟨rfl,hb3⟩;have HB3 := Lib.hid (HBW2.out.trans (hb3.mono HBW2.out.size));clear hb3;go_wp2_with fail;go_ret;refine ⟨?_,HB3.out⟩;rw [← HTT.out _ _ HS.out rfl];first | rfl | (simp [Tx.str,Tx.str_append]; done) | (simp [Tx.str]; apply ByteArray.ext; simp)
  · go_wp2_with fail;go_ret;refine ⟨?_,HBW2.out⟩;rw [← HTT.out _ _ HS.out rfl];first | rfl | (simp [Tx.str,Tx.str_append]; done) | (simp [Tx.str]; apply ByteArray.ext; simp)
theorem Wt.RadixR_ten (w : World) : Calls Tryz.prog 25 #[.int .i64 10] w fun e w' => e = .returned (.bool true) ∧ w = w' := by
 go_enter Tryz.func25,Tryz.ntmps25;go_wp2_with fail;go_ret;exact ⟨rfl,rfl⟩
theorem Wt.MinusR_any (s : Bool) (t b : Nat) (v : Value) (w : World) (h : Rt.R w v s t b) : Calls Tryz.prog 29 #[v] w fun e w' => ∃ v',e = .returned v' ∧ Rt.R w' v' (!s && decide (0 < t)) t b ∧ Below w.heap.size w w' := by
 obtain ⟨tv,bv,rfl,hn,hd⟩ := h;obtain ⟨ad1,cap1,rfl⟩ := Nt.In.slice hn;obtain ⟨ad2,cap2,rfl⟩ := Nt.In.slice hd;have hs0 : ∀ o,(w.alloc o).heap.size = w.heap.size + 1 := by intro o; simp
 obtain ⟨W2,hW2⟩ : ∃ z,(w.alloc (.cells #[.bool s,.slice ad1 (Nt.dig t).length cap1,.slice ad2 (Nt.dig b).length cap2] 24)).alloc (.cells #[.bool false,.slice none 0 0,.slice none 0 0] 24) = z := ⟨_,rfl⟩;have q0 : W2.heap[w.heap.size]? = some (.cells #[.bool s,.slice ad1 (Nt.dig t).length cap1,.slice ad2 (Nt.dig b).length cap2] 24 (0,0)) := hW2 ▸ (Lib.alloc_old _ _ _ (by rw [hs0]; omega)).trans (heap_alloc_new w _);have q1 : W2.heap[w.heap.size + 1]? = some (.cells #[.bool false,.slice none 0 0,.slice none 0 0] 24 (0,0)) := by
  have := heap_alloc_new (w.alloc (.cells #[.bool s,.slice ad1 (Nt.dig t).length cap1,.slice ad2 (Nt.dig b).length cap2] 24)) (.cells #[.bool false,.slice none 0 0,.slice none 0 0] 24);rwa [hs0,hW2] at this
 have hb0 : Below w.heap.size w W2 := hW2 ▸ ((Below.refl _ _).alloc (Nat.le_refl _) _).alloc (by rw [hs0]; omega) _;have e0 := Rt.cell_of q0 0;have e1 := Rt.cell_of q0 1;have e2 := Rt.cell_of q0 2;have hn2 := Nt.N.below hn hb0 (Nat.le_refl _);have hd2 := Nt.N.below hd hb0 (Nat.le_refl _);obtain ⟨X1,X2,X3,⟨f0,z0,s0⟩,⟨f1,z1,s1⟩,⟨f2,z2,s2⟩,⟨r0,r1,r2'⟩,HX⟩ := Rt.put3 q1 (.bool (!s && decide (0 < t))) (.slice ad1 (Nt.dig t).length cap1) (.slice ad2 (Nt.dig b).length cap2);have HOUT : Hid (Nt.N X3 (.slice ad1 (Nt.dig t).length cap1) t ∧ Nt.N X3 (.slice ad2 (Nt.dig b).length cap2) b ∧ Below w.heap.size w X3) := Lib.hid ⟨Nt.In.othr hn2 q1 Rt.noWords HX.out.2.2.1 HX.out.2.1,Nt.In.othr hd2 q1 Rt.noWords HX.out.2.2.1 HX.out.2.1,HX.out.2.2.2 _ _ hb0 (by omega)⟩;have hpos : (0 < t) ↔ 0 < (Nt.dig t).length := Nt.dig_len_pos.symm;have hdec : decide (0 < (Nt.dig t).length) = decide (0 < t) := by
  by_cases h : 0 < t
  · rw [decide_eq_true h];exact decide_eq_true (hpos.1 h)
  · rw [decide_eq_false h];exact decide_eq_false (fun h2 => h (hpos.2 h2))
 clear hn hd hn2 hd2 hb0 q0 q1 HX hpos hs0;generalize (Nt.dig t).length = l at *;generalize (Nt.dig b).length = l2 at *;cases s with
 | false =>
   simp only [Bool.not_false,Bool.true_and] at *;generalize decide (0 < t) = dd at *;go_enter Tryz.func29,Tryz.ntmps29;go_wp2_with fail;refine bodyPost_ret (v := .agg #[.bool dd,.slice ad1 l cap1,.slice ad2 l2 cap2]) (by simp [results,Tryz.results29,go_sem,r0,r1,r2']) rfl ⟨_,rfl,⟨_,_,rfl,HOUT.out.1,HOUT.out.2.1⟩,HOUT.out.2.2⟩
 | true =>
   simp only [Bool.not_true,Bool.false_and] at *;clear hdec;go_enter Tryz.func29,Tryz.ntmps29;go_wp2_with fail;refine bodyPost_ret (v := .agg #[.bool false,.slice ad1 l cap1,.slice ad2 l2 cap2]) (by simp [results,Tryz.results29,go_sem,r0,r1,r2']) rfl ⟨_,rfl,⟨_,_,rfl,HOUT.out.1,HOUT.out.2.1⟩,HOUT.out.2.2⟩
theorem Wt.RatSameR_any (s : Bool) (t b : Nat) (s2 : Bool) (t2 b2 : Nat) (v v2 : Value) (w : World) (h : Rt.R w v s t b) (h2 : Rt.R w v2 s2 t2 b2) (hl : (Nt.dig t).length ≤ 512 ∧ (Nt.dig b).length ≤ 512) :
 Calls Tryz.prog 28 #[v,v2] w fun e w' => e = .returned (.bool (decide (s = s2) && (decide (t = t2) && decide (b = b2)))) ∧ Below w.heap.size w w' := by
 obtain ⟨tv,bv,rfl,h1,h2'⟩ := h
 obtain ⟨tv2,bv2,rfl,h3,h4⟩ := h2
 obtain ⟨L1,a1,c1,rfl,hL1⟩ := Tx.N_slice h1
 obtain ⟨L2,a2,c2,rfl,hL2⟩ := Tx.N_slice h2'
 obtain ⟨L3,a3,c3,rfl,hL3⟩ := Tx.N_slice h3
 obtain ⟨L4,a4,c4,rfl,hL4⟩ := Tx.N_slice h4
 obtain ⟨n0,n1,n2,n3⟩ := Sm.two w (.cells #[.bool s,.slice a1 L1 c1,.slice a2 L2 c2] 24) (.cells #[.bool s2,.slice a3 L3 c3,.slice a4 L4 c4] 24)
 have HN := Lib.hid (And.intro n0 (And.intro n1 (And.intro n2 n3)))
 have KT := Lib.hid (fun w' (hb : Below w.heap.size w w') => Wt.SameN_any t t2 _ _ w' (Nt.In.below h1 hb (Nat.le_refl _)) (Nt.In.below h3 hb (Nat.le_refl _)) hl.1)
 have KB := Lib.hid (fun w' (hb : Below w.heap.size w w') => Wt.SameN_any b b2 _ _ w' (Nt.In.below h2' hb (Nat.le_refl _)) (Nt.In.below h4 hb (Nat.le_refl _)) hl.2)
 clear h1 h2' h3 h4 hL1 hL2 hL3 hL4 hl n0 n1 n2 n3
 generalize decide (t = t2) = S1 at *
 generalize decide (b = b2) = S2 at *
 have HC : Hid (∀ w',Below (w.heap.size + 2) ((w.alloc (.cells #[.bool s,.slice a1 L1 c1,.slice a2 L2 c2] 24)).alloc (.cells #[.bool s2,.slice a3 L3 c3,.slice a4 L4 c4] 24)) w' → (w'.cell? ⟨w.heap.size,0,none⟩ = some (.bool s) ∧ w'.cell? ⟨w.heap.size,1,none⟩ = some (.slice a1 L1 c1) ∧ w'.cell? ⟨w.heap.size,2,none⟩ = some (.slice a2 L2 c2)) ∧ (w'.cell? ⟨w.heap.size + 1,0,none⟩ = some (.bool s2) ∧ w'.cell? ⟨w.heap.size + 1,1,none⟩ = some (.slice a3 L3 c3) ∧ w'.cell? ⟨w.heap.size + 1,2,none⟩ = some (.slice a4 L4 c4)) ∧ Below w.heap.size w w') := Lib.hid (fun w' hb => by
   exact ⟨Rt.cells3 ((hb.block w.heap.size (by omega)).trans HN.out.1),Rt.cells3 ((hb.block (w.heap.size + 1) (by omega)).trans HN.out.2.1),HN.out.2.2.2.trans (hb.mono (by omega))⟩)
 have HSZ := Lib.hid HN.out.2.2.1
 obtain ⟨⟨d0,d1,d2⟩,⟨d3,d4,d5⟩,hbw0⟩ := HC.out _ (Below.refl _ _)
 have HB0 := Lib.hid hbw0
 clear hbw0
 by_cases hss : s = s2
 · subst hss;rw [decide_eq_true (rfl : s = s),Bool.true_and];go_enter Tryz.func28,Tryz.ntmps28;go_wp2_with fail;refine (KT.out _ HB0.out).mono ?_;rintro x w1 ⟨rfl,hb1⟩;rw [HSZ.out] at hb1;have HB1 := Lib.hid hb1;clear d0 d1 d2 d3 d4 d5 hb1;obtain ⟨⟨d0,d1,d2⟩,⟨d3,d4,d5⟩,hbw1⟩ := HC.out _ HB1.out;have HBW1 := Lib.hid hbw1;clear hbw1;cases S1
   · go_wp2_with fail;go_ret;exact ⟨rfl,HBW1.out⟩
   · go_wp2_with fail;refine (KB.out _ HBW1.out).mono ?_;rintro x w2 ⟨rfl,hb2⟩;have HB2 := Lib.hid (HBW1.out.trans (hb2.mono HBW1.out.size));clear hb2;go_wp2_with fail;go_ret;exact ⟨rfl,HB2.out⟩
 · rw [decide_eq_false hss,Bool.false_and];have hne : (s == s2) = false := by cases s <;> cases s2 <;> first | rfl | exact absurd rfl hss
   clear hss;go_enter Tryz.func28,Tryz.ntmps28;go_wp2_with fail;go_ret;exact ⟨rfl,HB0.out⟩
theorem Rn.RatSound_any (s : Bool) (t b : List Nat) (v3 v4 : Value) (w : World) (h3 : Nt.In w v3 t) (h4 : Nt.In w v4 b) (ok : Rt.GOk t b) :
 Calls Tryz.prog 53 #[.agg #[.bool s,v3,v4]] w fun e w' => e = .returned (.bool (Rt.sound s t b)) ∧ Below w.heap.size w w' := by
 obtain ⟨a3,c3,rfl⟩ := h3.slice
 obtain ⟨a4,c4,rfl⟩ := h4.slice
 have hb0 : Below w.heap.size w (w.alloc (.cells #[.bool s,.slice a3 t.length c3,.slice a4 b.length c4] 24)) := (Below.refl _ _).alloc (Nat.le_refl _) _
 have hq0 : (w.alloc (.cells #[.bool s,.slice a3 t.length c3,.slice a4 b.length c4] 24)).heap[w.heap.size]? = some (.cells #[.bool s,.slice a3 t.length c3,.slice a4 b.length c4] 24 (0,0)) := heap_alloc_new w _
 have hz0 : (w.alloc (.cells #[.bool s,.slice a3 t.length c3,.slice a4 b.length c4] 24)).heap.size = w.heap.size + 1 := by simp
 have KS1 := Rn.Sound_any t _ _ (h3.below hb0 (Nat.le_refl _)) ok.w1 ok.l1
 have HK2 := Lib.hid (fun w' (hb : Below w.heap.size w w') => Rn.Sound_any b _ w' (h4.below hb (Nat.le_refl _)) ok.w2 ok.l2)
 have HI := Lib.hid (And.intro h3 (And.intro h4 ok))
 have HF : Hid (∀ w',Below (w.heap.size + 1) (w.alloc (.cells #[.bool s,.slice a3 t.length c3,.slice a4 b.length c4] 24)) w' → w'.cell? ⟨w.heap.size,0,none⟩ = some (.bool s) ∧ w'.cell? ⟨w.heap.size,1,none⟩ = some (.slice a3 t.length c3) ∧ w'.cell? ⟨w.heap.size,2,none⟩ = some (.slice a4 b.length c4) ∧ Below w.heap.size w w') := Lib.hid (fun w' hb => by
   have a0 := (hb.block w.heap.size (Nat.lt_succ_self _)).trans hq0
   refine ⟨?_,?_,?_,hb0.trans (hb.mono (Nat.le_succ _))⟩ <;> simp [World.cell?,a0])
 have hR : Rt.sound s t b = (Nt.sound t && Nt.sound b && decide (b.length ≠ 0) && !(decide (t.length = 0) && s) && decide (Nat.gcd (Nt.val t) (Nt.val b) = 1)) := rfl
 obtain ⟨R,hRR⟩ : ∃ z,z = Rt.sound s t b := ⟨_,rfl⟩
 rw [← hRR] at hR ⊢
 have HR := Lib.hid hR
 rw [hz0] at KS1
 clear h3 h4 ok hb0 hq0 hz0 hR hRR
 go_enter Tryz.func53,Tryz.ntmps53
 go_wp2_with fail
 refine KS1.mono ?_
 rintro x w1 ⟨rfl,hb1⟩
 obtain ⟨d0,d1,d2,hbw1⟩ := HF.out w1 hb1
 have HB1 := Lib.hid (And.intro hb1 hbw1)
 clear hb1 hbw1 KS1
 cases hs1 : Nt.sound t
 · have hans : R = false := by rw [HR.out,hs1]; rfl
   subst hans;go_wp2_with fail;go_ret;exact ⟨rfl,HB1.out.2⟩
 · go_wp2_with fail;refine (HK2.out w1 HB1.out.2).mono ?_;rintro x w2 ⟨rfl,hb2⟩;have hb2' := HB1.out.1.trans (hb2.mono (by have := HB1.out.1.size; simp at this; omega));clear d0 d1 d2;obtain ⟨d0,d1,d2,hbw2⟩ := HF.out w2 hb2';have HB2 := Lib.hid (And.intro hb2' hbw2);clear hb2 hb2' hbw2;cases hs2 : Nt.sound b
   · have hans : R = false := by rw [HR.out,hs1,hs2]; rfl
     subst hans;go_wp2_with fail;go_ret;exact ⟨rfl,HB2.out.2⟩
   · by_cases hb0 : b.length = 0
     · have hans : R = false := by rw [HR.out,hs1,hs2,hb0]; rfl
       subst hans;rw [hb0] at d2;go_wp2_with fail;go_ret;exact ⟨rfl,HB2.out.2⟩
     · have hbI : ((b.length : Int) == 0) = false := beq_eq_false_iff_ne.2 (by omega);by_cases ht0 : t.length = 0 ∧ s = true
       · have hans : R = false := by rw [HR.out,hs1,hs2,ht0.1,ht0.2]; simp
         obtain ⟨ht1,rfl⟩ := ht0;subst hans;rw [ht1] at d1;go_wp2_with fail;go_ret;exact ⟨rfl,HB2.out.2⟩
       · have hT2 : (decide (t.length = 0) && s) = false := by
          cases s
          · simp
          · have : ¬ t.length = 0 := fun h => ht0 ⟨h,rfl⟩;simp [this]
         have hT3 : t.length = 0 → s = false := fun h => by
          cases s
          · rfl
          · exact absurd ⟨h,rfl⟩ ht0
         obtain ⟨et,ht5⟩ := Nt.sound_eq HI.out.2.2.w1 hs1;obtain ⟨eb,hb5⟩ := Nt.sound_eq HI.out.2.2.w2 hs2;have KD := Rn.Divisor_any (Nt.val t) (Nt.val b) (.slice a3 t.length c3) (.slice a4 b.length c4) w2 (by unfold Nt.N; rw [← et]; exact HI.out.1.below HB2.out.2 (Nat.le_refl _)) (by unfold Nt.N; rw [← eb]; exact HI.out.2.1.below HB2.out.2 (Nat.le_refl _)) (by rw [← et]; omega) (by rw [← eb]; omega);obtain ⟨g,hg⟩ : ∃ g,g = Nat.gcd (Nt.val t) (Nt.val b) := ⟨_,rfl⟩;have hR2 : R = decide (g = 1) := by rw [HR.out,hs1,hs2,hT2,hg]; simp [hb0]
         rw [← hg] at KD;have HGL : Hid ((Nt.dig g).length ≤ 512) := Lib.hid (by
           rw [hg];refine Nat.le_trans (Rn.dig_le (Nat.gcd_le_right _ ?_)) (by rw [← eb]; exact hb5);have h1 := Nt.dig_len_pos (n := Nt.val b);rw [← eb] at h1
           exact h1.1 (by omega))
         have HKS : Hid (∀ w' (v' : Value),Nt.N w' v' g → Calls Tryz.prog 55 #[v',.slice (some ⟨w'.heap.size,0,none⟩) 1 1] (w'.alloc (.cells #[.int .u32 1] 57)) fun e w'' => e = .returned (.bool R) ∧ Below w'.heap.size w' w'') := Lib.hid (fun w' v' hN => by
           have hbA : Below w'.heap.size w' (w'.alloc (.cells #[.int .u32 1] 57)) := (Below.refl _ _).alloc (Nat.le_refl _) _;have h1 : Nt.In (w'.alloc (.cells #[.int .u32 1] 57)) (.slice (some ⟨w'.heap.size,0,none⟩) 1 1) [1] := Nt.In.of_row (ws := [1]) (heap_alloc_new w' _);by_cases h1g : g = 1
           · have e1 : Nt.dig g = [1] := by rw [h1g]; exact Nt.dig_small (by decide) (by decide)
             unfold Nt.N at hN;rw [e1] at hN;refine (Sm.nat [1] v' _ _ (by simp) (hN.below hbA (Nat.le_refl _)) h1).mono fun e w'' h => ⟨by rw [h.1,hR2,h1g]; rfl,hbA.trans (h.2.mono hbA.size)⟩
           · have e1 : Nt.dig g ≠ [1] := fun e => h1g (by
              have := Nt.val_dig g;rw [e] at this
              simpa [Nt.val] using this.symm)
             refine (Rn.Same_ne (Nt.dig g) [1] v' _ _ (by have := HGL.out; omega) (Nt.In.below hN hbA (Nat.le_refl _)) h1 e1).mono fun e w'' h => ⟨by rw [h.1,hR2,decide_eq_false h1g],hbA.trans (h.2.mono hbA.size)⟩)
         have HB3 : Hid (∀ w',Below w2.heap.size w2 w' → Below w.heap.size w w') := Lib.hid (fun w' hb => HB2.out.2.trans (hb.mono HB2.out.2.size));clear hg hR2 et eb ht5 hb5 hT2 ht0 hs1 hs2;by_cases ht9 : t.length = 0
         · have hs9 := hT3 ht9;subst hs9;rw [ht9] at d1 KD;clear hT3 ht9;go_wp2_with fail;refine KD.mono ?_;rintro x w3 ⟨v',rfl,hN,hb3⟩;have KS := HKS.out w3 v' hN;have HB4 := Lib.hid hb3;obtain ⟨pa,pc,rfl⟩ := Nt.In.slice hN;clear hN hb3 KD;go_wp2_with fail;refine KS.mono ?_;rintro x w4 ⟨rfl,hb4⟩;have HB5 := Lib.hid (HB3.out w4 (HB4.out.trans (hb4.mono HB4.out.size)));clear hb4 KS;go_wp2_with fail;go_ret;exact ⟨rfl,HB5.out⟩
         · have htI : ((t.length : Int) == 0) = false := beq_eq_false_iff_ne.2 (by omega);clear hT3 ht9;go_wp2_with fail;refine KD.mono ?_;rintro x w3 ⟨v',rfl,hN,hb3⟩;have KS := HKS.out w3 v' hN;have HB4 := Lib.hid hb3;obtain ⟨pa,pc,rfl⟩ := Nt.In.slice hN;clear hN hb3 KD;go_wp2_with fail;refine KS.mono ?_;rintro x w4 ⟨rfl,hb4⟩;have HB5 := Lib.hid (HB3.out w4 (HB4.out.trans (hb4.mono HB4.out.size)));clear hb4 KS;go_wp2_with fail;go_ret;exact ⟨rfl,HB5.out⟩
theorem Rn.SoundN_any (s1 s2 : Bool) (t1 b1 t2 b2 : List Nat) (v3 v4 v6 v7 : Value) (w : World) (i3 : Nt.In w v3 t1) (i4 : Nt.In w v4 b1) (i6 : Nt.In w v6 t2) (i7 : Nt.In w v7 b2) (ok1 : Rt.GOk t1 b1) (ok2 : Rt.GOk t2 b2) :
 Calls Tryz.prog 24 #[.agg #[.bool s1,v3,v4,.bool s2,v6,v7]] w fun e w' => e = .returned (.bool (Rt.sound s1 t1 b1 && Rt.sound s2 t2 b2)) ∧ Below w.heap.size w w' := by
 obtain ⟨a3,c3,rfl⟩ := i3.slice
 obtain ⟨a4,c4,rfl⟩ := i4.slice
 obtain ⟨a6,c6,rfl⟩ := i6.slice
 obtain ⟨a7,c7,rfl⟩ := i7.slice
 have hb0 : Below w.heap.size w (w.alloc (.cells #[.bool s1,.slice a3 t1.length c3,.slice a4 b1.length c4,.bool s2,.slice a6 t2.length c6,.slice a7 b2.length c7] 26)) := (Below.refl _ _).alloc (Nat.le_refl _) _
 have hq0 : (w.alloc (.cells #[.bool s1,.slice a3 t1.length c3,.slice a4 b1.length c4,.bool s2,.slice a6 t2.length c6,.slice a7 b2.length c7] 26)).heap[w.heap.size]? = some (.cells #[.bool s1,.slice a3 t1.length c3,.slice a4 b1.length c4,.bool s2,.slice a6 t2.length c6,.slice a7 b2.length c7] 26 (0,0)) := heap_alloc_new w _
 have hz0 : (w.alloc (.cells #[.bool s1,.slice a3 t1.length c3,.slice a4 b1.length c4,.bool s2,.slice a6 t2.length c6,.slice a7 b2.length c7] 26)).heap.size = w.heap.size + 1 := by simp
 have K1 := Rn.RatSound_any s1 t1 b1 _ _ _ (i3.below hb0 (Nat.le_refl _)) (i4.below hb0 (Nat.le_refl _)) ok1
 have HK2 := Lib.hid (fun w' (hb : Below w.heap.size w w') => Rn.RatSound_any s2 t2 b2 _ _ w' (i6.below hb (Nat.le_refl _)) (i7.below hb (Nat.le_refl _)) ok2)
 have HF : Hid (∀ w',Below (w.heap.size + 1) (w.alloc (.cells #[.bool s1,.slice a3 t1.length c3,.slice a4 b1.length c4,.bool s2,.slice a6 t2.length c6,.slice a7 b2.length c7] 26)) w' → w'.cell? ⟨w.heap.size,3,none⟩ = some (.bool s2) ∧ w'.cell? ⟨w.heap.size,4,none⟩ = some (.slice a6 t2.length c6) ∧ w'.cell? ⟨w.heap.size,5,none⟩ = some (.slice a7 b2.length c7) ∧ Below w.heap.size w w') := Lib.hid (fun w' hb => by
   have a0 := (hb.block w.heap.size (Nat.lt_succ_self _)).trans hq0
   refine ⟨?_,?_,?_,hb0.trans (hb.mono (Nat.le_succ _))⟩ <;> simp [World.cell?,a0])
 rw [hz0] at K1
 clear i3 i4 i6 i7 ok1 ok2 hb0 hq0 hz0
 generalize Rt.sound s1 t1 b1 = R1 at *
 generalize Rt.sound s2 t2 b2 = R2 at *
 go_enter Tryz.func24,Tryz.ntmps24
 go_wp2_with fail
 refine K1.mono ?_
 rintro x w1 ⟨rfl,hb1⟩
 obtain ⟨d3,d4,d5,hbw1⟩ := HF.out w1 hb1
 have HB1 := Lib.hid hbw1
 clear hb1 hbw1 K1
 cases R1
 · go_wp2_with fail;go_ret;exact ⟨rfl,HB1.out⟩
 · go_wp2_with fail;refine (HK2.out w1 HB1.out).mono ?_;rintro x w2 ⟨rfl,hb2⟩;have HB2 := Lib.hid (HB1.out.trans (hb2.mono HB1.out.size));clear hb2 d3 d4 d5;go_wp2_with fail;go_ret;exact ⟨rfl,HB2.out⟩
theorem Tx.mag_one (t b : Nat) : (Wt.mag t b == [49]) = decide (t = 1 ∧ b = 1) := by
 have h1 : Tx.dec 1 = [49] := by unfold Tx.dec; rw [Tx.lo_small (by decide)]; rfl
 by_cases h : t = 1 ∧ b = 1
 · rw [decide_eq_true h,h.1,h.2];unfold Wt.mag;rw [h1];rfl
 · rw [decide_eq_false h,beq_eq_false_iff_ne];intro e;unfold Wt.mag at e;by_cases hb : b = 1
   · rw [if_pos hb,List.append_nil,← h1] at e;exact h ⟨Tx.dec_inj e,hb⟩
   · rw [if_neg hb] at e;have e2 := congrArg List.length e;have h3 : 0 < (Tx.dec t).length := by unfold Tx.dec; rw [List.length_reverse]; exact Tx.lo_pos t
     have h4 : 0 < (Tx.dec b).length := by unfold Tx.dec; rw [List.length_reverse]; exact Tx.lo_pos b
     simp only [List.length_append,List.length_cons,List.length_nil] at e2;omega
theorem Tx.ret2 {X Y : ByteArray} (h : X = Y) : Ending.returned (.tuple #[.string X,.int .i64 0]) = .returned (.tuple #[.string Y,.int .i64 0]) := by rw [h]
theorem Tx.plus_tail (M : List UInt8) (n : Nat) (hn : M.length = n) : ((⟨#[43]⟩ ++ (⟨M.toArray⟩ : ByteArray) : ByteArray).extract 1 (1 + n)).toList = M := by
 subst hn;rw [ByteArray.toList_eq];simp
theorem Tx.minus_tail (M : List UInt8) (n : Nat) (hn : M.length + 1 = n) : ((⟨(45 :: M).toArray⟩ : ByteArray).extract 1 n).toList = M := by
 subst hn;rw [ByteArray.toList_eq];simp
theorem Tx.Text_cplx (s : Bool) (t b : Nat) (s2 : Bool) (t2 b2 : Nat) (v : Value) (w : World) (h : Rt.Q w v s t b s2 t2 b2) (K : Rt.SoundAt w v) (h0 : 0 < t2) (hb : 0 < b) (hb2 : 0 < b2) (hl : (Nt.dig t).length ≤ 512 ∧ (Nt.dig b).length ≤ 512) (hl2 : (Nt.dig t2).length ≤ 512 ∧ (Nt.dig b2).length ≤ 512) :
 Calls Tryz.prog 57 #[v,.int .i64 10] w fun e w' => e = .returned (.tuple #[.string (Tx.str (Wt.cnum s t b s2 t2 b2)),.int .i64 0]) ∧ Below w.heap.size w w' := by
 obtain ⟨tv,bv,tv2,bv2,rfl,h1,h2,h3,h4⟩ := h
 obtain ⟨L1,a1,c1,rfl,hL1⟩ := Tx.N_slice h1
 obtain ⟨L2,a2,c2,rfl,hL2⟩ := Tx.N_slice h2
 obtain ⟨L3,a3,c3,rfl,hL3⟩ := Tx.N_slice h3
 obtain ⟨L4,a4,c4,rfl,hL4⟩ := Tx.N_slice h4
 obtain ⟨n0,n1,n2,n3⟩ := Sm.two w (.cells #[.bool s,.slice a1 L1 c1,.slice a2 L2 c2,.bool s2,.slice a3 L3 c3,.slice a4 L4 c4] 26) (.cells #[.bool s,.slice a1 L1 c1,.slice a2 L2 c2,.bool s2,.slice a3 L3 c3,.slice a4 L4 c4] 26)
 have KC := Tx.chk1 _ _ _ _ _ _ _ _ _ _ _ _ _ _ _ _ n1 (fun w' hb => K w' (n3.trans (hb.mono n3.size)))
 have KR := Lib.hid (fun w' (hb2 : Below w.heap.size w w') => Tx.ratText_any s t b (.agg #[.bool s,.slice a1 L1 c1,.slice a2 L2 c2]) w' ⟨_,_,rfl,Nt.In.below h1 hb2 (Nat.le_refl _),Nt.In.below h2 hb2 (Nat.le_refl _)⟩ hb hl)
 have hf1 := Wt.few_dig hl2.1
 have hf2 := Wt.few_dig hl2.2
 have hf3 := Wt.few_dig hl.1
 have hf4 := Wt.few_dig hl.2
 obtain ⟨one,hone⟩ : ∃ z,(Wt.mag t2 b2 == [49]) = z := ⟨_,rfl⟩
 have hone2 := (Tx.mag_one t2 b2).symm.trans hone
 obtain ⟨M,hM⟩ : ∃ z,Wt.mag t2 b2 = z := ⟨_,rfl⟩
 have hMl := Wt.mag_len hf1 hf2
 rw [hM] at hMl hone
 obtain ⟨S0,hS0⟩ : ∃ z,Tx.str (Tx.rat s2 t2 b2) = z := ⟨_,rfl⟩
 obtain ⟨R0,hR0⟩ : ∃ z,Tx.str (Tx.rat s t b) = z := ⟨_,rfl⟩
 have hRl := Wt.rat_len (s := s) hf3 hf4
 have KI := Lib.hid (fun w' (hbb : Below w.heap.size w w') => Tx.ratText_any s2 t2 b2 (.agg #[.bool s2,.slice a3 L3 c3,.slice a4 L4 c4]) w' ⟨_,_,rfl,Nt.In.below h3 hbb (Nat.le_refl _),Nt.In.below h4 hbb (Nat.le_refl _)⟩ hb2 hl2)
 rw [hS0] at KI
 rw [hR0] at KR
 have hSM : S0 = ⟨((if s2 = true then [45] else []) ++ M).toArray⟩ := by rw [← hS0,Wt.rat_mag,hM]; rfl
 obtain ⟨n,hn⟩ : ∃ z,S0.size = z := ⟨_,rfl⟩
 obtain ⟨k,hk⟩ : ∃ z,R0.size = z := ⟨_,rfl⟩
 have hn2 : n = (if s2 = true then 1 else 0) + M.length := by rw [← hn,hSM]; show (List.toArray _).size = _; cases s2 <;> simp <;> omega
 have hk2 : k ≤ 32772 := by rw [← hk,← hR0]; show (List.toArray _).size ≤ _; simpa using hRl
 have hnn : n ≤ 40000 := by rw [hn2]; split <;> omega
 have hCN : Tx.str (Wt.cnum s t b s2 t2 b2) = (if t = 0 then ⟨#[]⟩ else R0) ++ (⟨((if s2 = true then 45 else 43) :: ((if one = true then [] else M) ++ [105])).toArray⟩ : ByteArray) := by
  unfold Wt.cnum;rw [if_neg (by omega),← hone2,hM,← hR0];unfold Tx.str;by_cases ht : t = 0
  · apply ByteArray.ext;by_cases h12 : t2 = 1 ∧ b2 = 1 <;> simp [ht,h12]
  · apply ByteArray.ext;by_cases h12 : t2 = 1 ∧ b2 = 1 <;> simp [ht,h12]
 have HCN := Lib.hid hCN
 have HSM := Lib.hid hSM
 have HN := Lib.hid (And.intro n0 (And.intro n2 n3))
 have hL3p : ((L3 : Int) == 0) = false := beq_eq_false_iff_ne.2 (by
   have := Nt.dig_len_pos.2 h0
   omega)
 have hzt : (L1 = 0 ∧ t = 0) ∨ (0 < L1 ∧ t ≠ 0) := by
  have := Nt.dig_len_pos (n := t);omega
 have HZT := Lib.hid hzt
 have hsz1 : (9223372036854775807 < 1 + n) = False := eq_false (by omega)
 have hsz2 : (9223372036854775807 < n + 1) = False := eq_false (by omega)
 have hsz3 : (9223372036854775807 < 1 + n + 1) = False := eq_false (by omega)
 have hsz4 : (9223372036854775807 < k + 1) = False := eq_false (by omega)
 have hsz5 : (9223372036854775807 < k + 1 + 1) = False := eq_false (by omega)
 have hsz6 : (9223372036854775807 < k + (1 + n)) = False := eq_false (by omega)
 have hsz7 : (9223372036854775807 < k + (1 + n) + 1) = False := eq_false (by omega)
 have hsz8 : (9223372036854775807 < k + n) = False := eq_false (by omega)
 have hsz9 : (9223372036854775807 < k + n + 1) = False := eq_false (by omega)
 have HN2 := Lib.hid hn2
 have HONE := Lib.hid hone
 clear n0 n1 n2 n3 h1 h2 h3 h4 hL1 hL2 hL3 hL4 K hzt hS0 hR0 hM hMl hRl hCN hSM hn2 hk2 hnn hone hone2 hf1 hf2 hf3 hf4 hl hl2
 go_enter Tryz.func57,Tryz.ntmps57
 go_wp2_with fail
 refine KC.mono ?_
 rintro x w1 ⟨rfl,hb1⟩
 have HB1 := Lib.hid (HN.out.2.2.trans (hb1.mono HN.out.2.2.size))
 have HC := Lib.hid (fun (w' : World) (hb' : Below w1.heap.size w1 w') => Rt.cells6 ((hb'.block w.heap.size (by have := hb1.size; have := HN.out.2.1; omega)).trans ((hb1.block w.heap.size (by have := HN.out.2.1; omega)).trans HN.out.1)))
 obtain ⟨e0,e1,e2,e3,e4,e5⟩ := HC.out _ (Below.refl _ _)
 clear hb1 KC
 go_wp2_with fail
 refine (KI.out _ HB1.out).mono ?_
 rintro x w2 ⟨rfl,hb2⟩
 have HB2 := Lib.hid (HB1.out.trans (hb2.mono HB1.out.size))
 clear e0 e1 e2 e3 e4 e5
 obtain ⟨e0,e1,e2,e3,e4,e5⟩ := HC.out _ hb2
 clear hb2
 have hcond : (s2 = false ∧ (((⟨#[43]⟩ ++ S0 : ByteArray).extract 1 (1 + n)).toList == [49]) = one) ∨ (s2 = true ∧ (1 : Int) ≤ n ∧ S0.extract 0 1 = (⟨#[45]⟩ : ByteArray) ∧ ((S0.extract 1 n).toList == [49]) = one) := by
  have h1 := HN2.out;rw [HSM.out];cases s2
  · refine .inl ⟨rfl,?_⟩;have h2 : M.length = n := by simpa using h1.symm
    have := Tx.plus_tail M n h2;simp only [Bool.false_eq_true,if_false,List.nil_append];rw [this];exact HONE.out
  · have h2 : M.length + 1 = n := by simp at h1; omega
    refine .inr ⟨rfl,by omega,by apply ByteArray.ext; simp,?_⟩;have := Tx.minus_tail M n h2;simp only [if_true,List.cons_append,List.nil_append];rw [this];exact HONE.out
 rcases HZT.out with ⟨hz,ht⟩ | ⟨hz,ht⟩
 · subst hz;rcases hcond with ⟨rfl,hcond⟩ | ⟨rfl,hn1,hpre,hcond⟩;all_goals cases one
   all_goals
    go_wp2_with fail;go_ret2;refine ⟨Tx.ret2 ?_,HB2.out⟩;rw [HCN.out];try rw [HSM.out]
    apply ByteArray.ext;simp [ht]
 · have hz2 : (0 : Int) < (L1 : Int) := by omega
   rcases hcond with ⟨rfl,hcond⟩ | ⟨rfl,hn1,hpre,hcond⟩;all_goals cases one
   all_goals
    go_wp2_with (go_at_call 86; refine (KR.out _ HB2.out).mono ?_; rintro x w3 ⟨rfl,hb3⟩);go_ret2;refine ⟨Tx.ret2 ?_,HB2.out.trans (hb3.mono HB2.out.size)⟩;rw [HCN.out];try rw [HSM.out]
    apply ByteArray.ext;first | (simp [ht]; done) | (simp [ht]; apply Array.ext'; simp)
theorem Wt.pow16 (w : World) : Calls Tryz.prog 153 #[.int .i64 16] w fun e w' => e = .returned (.bool true) ∧ w' = w := by
 go_enter Tryz.func153,Tryz.ntmps153;go_wp2;go_ret;exact ⟨rfl,rfl⟩
theorem Wt.tz1 : IntKind.u64.wrap (-16) = 18446744073709551600 := by decide
theorem Wt.tz2 : bits .and .u64 16 18446744073709551600 = 16 := by decide +kernel
theorem Wt.tz16 (w : World) (hd : w.cell? ⟨5,15,none⟩ = some (.int .u8 4)) : Calls Tryz.prog 154 #[.int .u64 16] w fun e w' => e = .returned (.int .i64 4) ∧ w' = w := by
 have h1 := Wt.tz1;have h2 := Wt.tz2;go_enter Tryz.func154,Tryz.ntmps154;go_wp2;go_ret;exact ⟨rfl,rfl⟩
theorem Wt.and15 (x : Int) (h0 : 0 ≤ x) (h1 : x < 4294967296) : bits .and .u64 x 15 = x % 16 := bits_mask .u64 64 (by decide) (fun n h0 h1 => by rw [IntKind.wrap_u64]; omega) 4 (by decide) x h0 (by omega)
structure Wt.Fmt (r : Nat) (w : World) (g u i : Nat) (D : List UInt8) (cur : Array Value) (wr : World) : Prop where
 hi : i = 60 + g
 hu : u < 16 ^ (g + 1)
 hx : Wt.hex r = Wt.hex u ++ D
 hl : i + D.length = 65
 hb : wr.heap[w.heap.size]? = some (.cells cur 170 (0,0))
 hc : cur.size = 65
 hD : ∀ j,j < D.length → cur[i + j]? = some (.int .u8 (D.getD j 0).toNat)
 bw : Below w.heap.size w wr
def Wt.FmtRel (r : Nat) (w : World) (g : Nat) (uv iv : Value) (wr : World) : Prop := ∃ (u i : Nat) (D : List UInt8) (cur : Array Value),uv = .int .u64 u ∧ iv = .int .i64 i ∧ Wt.Fmt r w g u i D cur wr
theorem Wt.Fmt.put {r g u q : Nat} {w wr : World} {D : List UInt8} {cur : Array Value} (h : Wt.Fmt r w g u (q + 1) D cur wr) (c : UInt8) :
 (wr.setCell ⟨w.heap.size,q,none⟩ (.int .u8 (c.toNat : Int))).heap[w.heap.size]? = some (.cells (cur.set! q (.int .u8 (c.toNat : Int))) 170 (0,0)) ∧ (cur.set! q (.int .u8 (c.toNat : Int))).size = 65 ∧
 (∀ j,j < (c :: D).length → (cur.set! q (.int .u8 (c.toNat : Int)))[q + j]? = some (.int .u8 ((c :: D).getD j 0).toNat)) ∧ Below w.heap.size w (wr.setCell ⟨w.heap.size,q,none⟩ (.int .u8 (c.toNat : Int))) := by
 have hq : q < cur.size := by have := h.hl; have := h.hc; omega
 refine ⟨?_,by simp [h.hc],fun j hj => ?_,h.bw.setCell (p := ⟨w.heap.size,q,none⟩) (Nat.le_refl _) _⟩
 · simp [World.setCell,Array.getElem?_modify,h.hb]
 · cases j with
   | zero => simp [hq]
   | succ j =>
     have := h.hD j (by simpa using hj);have hne : q ≠ q + (j + 1) := by omega
     simp [Array.set!];rw [show q + (j + 1) = q + 1 + j by omega];exact this
theorem Wt.Fmt.step {r g u q : Nat} {w wr : World} {D : List UInt8} {cur : Array Value} (h : Wt.Fmt r w g u (q + 1) D cur wr) (h16 : 16 ≤ u) :
 0 < g ∧ Wt.FmtRel r w (g - 1) (.int .u64 ((u : Int) / 16)) (.int .i64 (q : Int)) (wr.setCell ⟨w.heap.size,q,none⟩ (.int .u8 ((Wt.hx (u % 16)).toNat : Int))) := by
 obtain ⟨p1,p2,p3,p4⟩ := h.put (Wt.hx (u % 16))
 have hg : 0 < g := by
  rcases Nat.eq_zero_or_pos g with rfl | h0
  · have := h.hu; simp at this; omega
  · exact h0
 refine ⟨hg,u / 16,q,Wt.hx (u % 16) :: D,_,by simp,rfl,⟨by have := h.hi; omega,?_,?_,by have := h.hl; simp; omega,p1,p2,p3,p4⟩⟩
 · obtain ⟨k,rfl⟩ : ∃ k,g = k + 1 := ⟨g - 1,by omega⟩;have := h.hu;rw [Nat.pow_succ] at this;show u / 16 < 16 ^ (k + 1);omega
 · rw [h.hx,Wt.hex_big (by omega)];simp
theorem Wt.info8 : (Tryz.prog.info? 5).isSome = true := by kernel_rfl
theorem Wt.cells8 : Tryz.prog.cellsOf 5 = 1 := by kernel_rfl
theorem Wt.len65 : Tryz.prog.arrayLen 170 = 65 := by kernel_rfl
theorem Wt.elem65 : Tryz.prog.elem 170 = 5 := by kernel_rfl
theorem Wt.und65 : Tryz.prog.underlying 170 = some (.array (Tryz.prog.arrayLen 170) (Tryz.prog.elem 170)) := by kernel_rfl
theorem Wt.slice65 (b q : Nat) (hq : q < 65) (W : World) : (Instr.sliceAt 170 (.pointer (some ⟨b,0,none⟩)) (some (.int .i64 (q : Int))) none none).run Tryz.prog W = .ok (.slice (some ⟨b,q,none⟩) (65 - q) (65 - q)) W := by
 rw [run_sliceAt_array_l W 170 _ Wt.und65 .i64 q (by omega) (by rw [Wt.len65]; omega),Wt.len65,Wt.elem65];have hs : (sizeOf 5).run Tryz.prog W = .ok 1 W := by
  obtain ⟨i,hi⟩ := Option.isSome_iff_exists.1 Wt.info8;rw [run_sizeOf W hi,Wt.cells8]
 rw [hs];simp only [Result.andThen,slicedAt,Int.toNat_natCast,Nat.mul_one];rw [if_neg (by omega)];have ha : (⟨b,0,none⟩ : Addr).add q = ⟨b,q,none⟩ := by unfold Addr.add; split <;> simp_all
 rw [ha]
theorem Wt.Fmt.last {r g u q : Nat} {w wr : World} {D : List UInt8} {cur : Array Value} (h : Wt.Fmt r w g u (q + 1) D cur wr) (h16 : u < 16) :
 (convert 27 9 (.slice (some ⟨w.heap.size,q,none⟩) (65 - q) (65 - q))).run Tryz.prog (wr.setCell ⟨w.heap.size,q,none⟩ (.int .u8 ((Wt.hx u).toNat : Int))) = .ok (.string ⟨(Wt.hex r).toArray⟩) (wr.setCell ⟨w.heap.size,q,none⟩ (.int .u8 ((Wt.hx u).toNat : Int))) := by
 obtain ⟨p1,p2,p3,p4⟩ := h.put (Wt.hx u)
 have hx : Wt.hex r = Wt.hx u :: D := by rw [h.hx,Wt.hex_small h16]; rfl
 rw [hx]
 have hl : (Wt.hx u :: D).length = 65 - q := by have := h.hl; simp; omega
 have := run_convert_bytes_back (P := Tryz.prog) (wr.setCell ⟨w.heap.size,q,none⟩ (.int .u8 ((Wt.hx u).toNat : Int))) 27 9 5 ⟨w.heap.size,q,none⟩ (65 - q) (Wt.hx u :: D) Tryz.underlying27 Tryz.underlying5 Tryz.underlying9 (fun j hj => by
   have ha : (⟨w.heap.size,q,none⟩ : Addr).add j = ⟨w.heap.size,q + j,none⟩ := by unfold Addr.add; split <;> simp_all
   rw [ha,Lib.cell_of_heap p1,p3 j hj]
   simp [List.getD_eq_getElem?_getD,List.getElem?_eq_getElem hj])
 rwa [hl] at this
theorem Wt.fmtBits (r : Nat) (w : World) (hr : r ≤ 1114111) (hd : w.cell? ⟨5,15,none⟩ = some (.int .u8 4)) :
 Calls Tryz.prog 139 #[.slice none 0 0,.int .u64 r,.int .i64 16,.bool false,.bool false] w fun e w' => e = .returned (.tuple #[.slice none 0 0,.string ⟨(Wt.hex r).toArray⟩]) ∧ Below w.heap.size w w' := by
 have hlt : 5 < w.heap.size := World.block_lt_of_cell? w _ hd
 have hd2 : ∀ o,(w.alloc o).cell? ⟨5,15,none⟩ = some (.int .u8 4) := fun o => by rw [((Below.refl w.heap.size w).alloc (Nat.le_refl _) o).cell (p := ⟨_,15,none⟩) hlt]; exact hd
 go_enter Tryz.func139,Tryz.ntmps139
 go_wp2_with (first | (go_at_call 153; refine (Wt.pow16 _).mono ?_; rintro e w' ⟨rfl,rfl⟩) | (go_at_call 154; refine (Wt.tz16 _ (hd2 _)).mono ?_; rintro e w' ⟨rfl,rfl⟩))
 go_loopg [1,13] 5 (fun g uv iv wr => Wt.FmtRel r w g uv iv wr)
 case atStart =>
  exact ⟨r,65,[],_,rfl,rfl,⟨rfl,by omega,by simp,rfl,heap_alloc_new w _,by rfl,fun j hj => by simp at hj,(Below.refl _ _).alloc (Nat.le_refl _) _⟩⟩
 case round =>
  obtain ⟨u,i,D,cur,rfl,rfl,hF⟩ := hrel
  obtain ⟨q,rfl⟩ : ∃ q,i = q + 1 := ⟨i - 1,by have := hF.hi; omega⟩
  have hq65 : q < 65 := by have := hF.hl; omega
  have hfz := Lib.frozen_of_heap hF.hb q
  obtain ⟨cv,hcv⟩ : ∃ v,cur[q]? = some v := ⟨_,Array.getElem?_eq_getElem (by have := hF.hc; omega : q < cur.size)⟩
  have hce := (Lib.cell_of_heap hF.hb q).trans hcv
  have HB := Lib.hid hF.bw
  have HF := Lib.hid hF
  have hub : u < 16777216 := Nat.lt_of_lt_of_le hF.hu (Nat.pow_le_pow_right (by decide) (by have := hF.hi; omega : gk + 1 ≤ 6))
  clear hcv hd2 hd hlt hF
  by_cases hlt16 : 16 ≤ u
  · obtain ⟨d,hdd⟩ : ∃ d,d = u % 16 := ⟨_,rfl⟩;have hA : bits .and .u64 (u : Int) 15 = (d : Int) := by rw [Wt.and15 _ (by omega) (by omega)]; omega
    have hcase : d = 0 ∨ d = 1 ∨ d = 2 ∨ d = 3 ∨ d = 4 ∨ d = 5 ∨ d = 6 ∨ d = 7 ∨ d = 8 ∨ d = 9 ∨ d = 10 ∨ d = 11 ∨ d = 12 ∨ d = 13 ∨ d = 14 ∨ d = 15 := by omega
    have HS := HF.out.step hlt16;rw [← hdd] at HS;have HREL : Hid (∀ z : Int,z = ((Wt.hx d).toNat : Int) → Wt.FmtRel r w (gk - 1) (.int .u64 ((u : Int) / 16)) (.int .i64 (q : Int)) (wr.setCell ⟨w.heap.size,q,none⟩ (.int .u8 z))) := Lib.hid (fun z e => by rw [e]; exact HS.2);have HG := Lib.hid HS.1;clear hdd HS;rcases hcase with rfl | rfl | rfl | rfl | rfl | rfl | rfl | rfl | rfl | rfl | rfl | rfl | rfl | rfl | rfl | rfl;all_goals
     go_wp2_with fail;go_roundg (gk - 1);case measure => exact Nat.sub_lt HG.out (by decide)
     case rel => exact HREL.out _ (by decide)
  · have hcase : u = 0 ∨ u = 1 ∨ u = 2 ∨ u = 3 ∨ u = 4 ∨ u = 5 ∨ u = 6 ∨ u = 7 ∨ u = 8 ∨ u = 9 ∨ u = 10 ∨ u = 11 ∨ u = 12 ∨ u = 13 ∨ u = 14 ∨ u = 15 := by omega
    have HCV : Hid (∀ z : Int,z = ((Wt.hx u).toNat : Int) → (convert 27 9 (.slice (some ⟨w.heap.size,q,none⟩) (65 - q) (65 - q))).run Tryz.prog (wr.setCell ⟨w.heap.size,q,none⟩ (.int .u8 z)) = .ok (.string ⟨(Wt.hex r).toArray⟩) (wr.setCell ⟨w.heap.size,q,none⟩ (.int .u8 z))) := Lib.hid (fun z e => by rw [e]; exact HF.out.last (by omega));have HEND : Hid (∀ v,Below w.heap.size w (wr.setCell ⟨w.heap.size,q,none⟩ v)) := Lib.hid (fun v => HB.out.setCell (p := ⟨w.heap.size,q,none⟩) (Nat.le_refl _) v);clear hlt16 HF;have hsl := Wt.slice65 w.heap.size q hq65;rcases hcase with rfl | rfl | rfl | rfl | rfl | rfl | rfl | rfl | rfl | rfl | rfl | rfl | rfl | rfl | rfl | rfl;all_goals
     go_wp2_with fail;rw [HCV.out _ (by decide)];simp only [Result.andThen];rw [Oper.upon_value];go_wp2_with fail;go_ret2;exact ⟨rfl,HEND.out _⟩
theorem Wt.fmtInt0 (r : Nat) (w : World) (hr : r ≤ 1114111) (hd : w.cell? ⟨5,15,none⟩ = some (.int .u8 4)) :
 Calls Tryz.prog 119 #[.int .i64 r,.int .i64 16] w fun e w' => e = .returned (.string ⟨(Wt.hex r).toArray⟩) ∧ Below w.heap.size w w' := by
 go_enter Tryz.func119,Tryz.ntmps119
 go_wp2_with (go_at_call 139; refine (Wt.fmtBits r _ hr hd).mono ?_)
 rintro e w1 ⟨rfl,hb⟩
 go_wp2
 go_ret
 exact ⟨rfl,hb⟩
theorem Wt.fmtInt (r : Nat) (w : World) (hr : r ≤ 1114111) (hd : w.cell? ⟨5,15,none⟩ = some (.int .u8 4)) :
 Calls Tryz.prog 116 #[.int .i64 r,.int .i64 16] w fun e w' => e = .returned (.string ⟨(Wt.hex r).toArray⟩) ∧ Below w.heap.size w w' := by
 go_enter Tryz.func116,Tryz.ntmps116
 go_wp2_with fail
 refine (Wt.fmtInt0 r _ hr hd).mono ?_
 rintro e w1 ⟨rfl,hb⟩
 go_wp2
 go_ret
 exact ⟨rfl,hb⟩
def Wt.Bits (w : World) : Prop := w.cell? ⟨5,15,none⟩ = some (.int .u8 4)
theorem Wt.Bits.below {w w' : World} (h : Wt.Bits w) (hb : Below w.heap.size w w') : Wt.Bits w' := by
 unfold Wt.Bits at h ⊢;rw [hb.cell (p := ⟨_,15,none⟩) (World.block_lt_of_cell? w _ h)];exact h
theorem Wt.Bits.kept {B b : Nat} {w w' : World} (h : Wt.Bits w) (hB : 5 < B) (hk : Wt.Kept B b w w') : Wt.Bits w' := by
 unfold Wt.Bits at h ⊢;rw [hk.1.cell (p := ⟨_,15,none⟩) hB];exact h
theorem Wt.str_app (a b : List UInt8) : (⟨a.toArray⟩ : ByteArray) ++ (⟨b.toArray⟩ : ByteArray) = ⟨(a ++ b).toArray⟩ := by
 apply ByteArray.ext;simp
theorem Wt.hex_any (B b : Nat) (m : Bool) (bs : List Value) (r : Nat) (x c : List UInt8) (w : World) (h : Wr.Is B b m bs w) (hr : r ≤ 1114111) (hd : Wt.Bits w) (hx : x.length ≤ 9) (hc : c.length ≤ 9) (hlen : bs.length + 100 ≤ 140737488355328) :
 Calls Tryz.prog 88 #[.pointer (some ⟨b,0,none⟩),.int .i32 r,.string ⟨x.toArray⟩,.string ⟨c.toArray⟩] w fun e w' => e = .returned (.tuple #[]) ∧ (Wr.At B b (.pointer (some ⟨b,0,none⟩)) m (bs ++ Lib.byteCells (x ++ [120] ++ Wt.hex r ++ c)) w' ∧ Wt.Kept B b w w') := by
 have hk := h.blk
 have hl := Wt.hex_len hr
 have KF := fun w' (hb : Below w.heap.size w w') => Wt.fmtInt r w' hr (hd.below hb)
 have KW : ∀ w1,Below w.heap.size w w1 → ∀ s : ByteArray,s = (⟨x.toArray⟩ : ByteArray) ++ (⟨#[120]⟩ : ByteArray) ++ (⟨(Wt.hex r).toArray⟩ : ByteArray) ++ (⟨c.toArray⟩ : ByteArray) → Calls Tryz.prog 56 #[.pointer (some ⟨b,0,none⟩),.string s] w1 fun e w' => e = .returned (.tuple #[.int .i64 s.size,.nilIface]) ∧ (Wr.At B b (.pointer (some ⟨b,0,none⟩)) m (bs ++ Lib.byteCells (x ++ [120] ++ Wt.hex r ++ c)) w' ∧ Wt.Kept B b w w') := by
  intro w1 hb2 s hs;rw [show (⟨#[120]⟩ : ByteArray) = ⟨([120] : List UInt8).toArray⟩ from rfl,Wt.str_app,Wt.str_app,Wt.str_app] at hs;have h1 := h.keptBelow hb2;refine (Wt.writeString B b m bs s w1 h1 (by rw [hs]; show _ + (List.toArray _).size ≤ _; simp; omega) (by have := hb2.size; omega)).mono ?_;rintro e w2 ⟨rfl,h2,k2⟩;rw [hs,Wt.strCells_str] at h2;exact ⟨rfl,h2,(Wt.Kept.below hb2 (by omega)).trans k2⟩
 have HF := Lib.hid KF
 have HW := Lib.hid KW
 have hsz : (9223372036854775807 < x.length + 1) = False := eq_false (by omega)
 have hsz2 : (9223372036854775807 < x.length + 1 + (Wt.hex r).length) = False := eq_false (by omega)
 have hsz3 : (9223372036854775807 < x.length + 1 + (Wt.hex r).length + c.length) = False := eq_false (by omega)
 have hwr : IntKind.i64.wrap (r : Int) = r := by rw [IntKind.wrap_i64]; omega
 clear KF KW h hd
 go_enter Tryz.func88,Tryz.ntmps88
 go_wp2_with fail
 go_region_held3 (fun w' => w.heap.size ≤ w'.heap.size)
  (first | exact Nat.le_refl _ | exact hkeep)
  (first
    | (go_at_call 116
       refine (HF.out w.drew (Below.drew (Below.refl _ _))).mono ?_
       rintro z1 w1 ⟨rfl,hb1⟩
       have hbe : Below w.heap.size w w1 := (Below.drew (Below.refl _ _)).trans hb1
       have hkeep : w.heap.size ≤ w1.heap.size := hb1.size)
    | (go_at_call 56
       refine (HW.out w1 hbe _ rfl).mono ?_
       rintro z2 w2 ⟨rfl,h2,k2⟩
       have hkeep : w.heap.size ≤ w2.heap.size := k2.size))
 all_goals go_wp2_with fail
 go_end0
 exact ⟨rfl,h2,k2⟩
theorem Wt.dec_itoa : ∀ (n : Nat),Lib.decDigits n = Tx.dec n := by
 intro n;induction n using Nat.strongRecOn with
 | ind n ih =>
   by_cases h : n < 10
   · rw [Lib.decDigits,dif_pos h];unfold Tx.dec;rw [Tx.lo_small h];rfl
   · rw [Lib.decDigits,dif_neg h,ih (n / 10) (by omega)];unfold Tx.dec;rw [Tx.lo_big h,List.reverse_cons];rfl
theorem Wt.itoa (n : Nat) : Lib.itoa (n : Int) = Tx.dec n := by
 unfold Lib.itoa;rw [if_neg (by omega),Int.toNat_natCast,Wt.dec_itoa]
structure Wt.Env (B : Nat) (w : World) : Prop where
 bits : Wt.Bits w
 tab : Lib.TabIs Tryz.prog w "internal/strconv.uint64pow10" .u64 Lib.pow10Tab
 lt : 5 < B ∧ 3 < B
theorem Wt.named : Tryz.prog.globalNamed "internal/strconv.uint64pow10" = some 3 := by kernel_rfl
theorem Wt.tabIs_block {w w' : World} (h : Lib.TabIs Tryz.prog w "internal/strconv.uint64pow10" .u64 Lib.pow10Tab) (hb : w'.heap[3]? = w.heap[3]?) : Lib.TabIs Tryz.prog w' "internal/strconv.uint64pow10" .u64 Lib.pow10Tab := by
 unfold Lib.TabIs World.var? at h ⊢;rw [Wt.named] at h ⊢;simp only [Option.bind_some] at h ⊢;rw [hb];exact h
theorem Wt.Env.below {B : Nat} {w w' : World} (h : Wt.Env B w) (hb : Below B w w') : Wt.Env B w' := by
 refine ⟨?_,Wt.tabIs_block h.tab (hb.block _ h.lt.2),h.lt⟩;have h1 := h.bits;unfold Wt.Bits at h1 ⊢;rw [hb.cell (p := ⟨_,15,none⟩) h.lt.1];exact h1
theorem Wt.Env.kept {B b : Nat} {w w' : World} (h : Wt.Env B w) (hk : Wt.Kept B b w w') : Wt.Env B w' := h.below hk.1
theorem Wt.itoa_any (x : UInt8) (w : World) (ht : Lib.TabIs Tryz.prog w "internal/strconv.uint64pow10" .u64 Lib.pow10Tab) :
 Calls Tryz.prog 62 #[.int .i64 x.toNat] w fun e w' => e = .returned (.string ⟨(Tx.dec x.toNat).toArray⟩) ∧ Below w.heap.size w w' := by
 have hx := x.toNat_lt
 refine (Tryz.strconv_Itoa x.toNat (by omega) (by omega) w ht).mono ?_
 rintro e w' ⟨rfl,k,os,rfl⟩
 rw [Wt.itoa]
 exact ⟨rfl,⟨rfl,rfl,rfl,by show w.heap.size ≤ (w.heap ++ os).size; simp,fun i hi => by
   show (w.heap ++ os)[i]? = _
   rw [Array.getElem?_append_left hi]⟩⟩
theorem Wt.Text_any (h : Tr.Hd) (l : Nat) (S : Nat → Prop) (v3 v4 v6 v7 v9 : Value) (w : World) (hI : Tr.Hd.In w S h v3 v4 v6 v7 v9) (hs : h.shape l = true) (hk : h.k = 3) :
 Calls Tryz.prog 57 #[.agg #[.bool h.s1,v3,v4,.bool h.s2,v6,v7],.int .i64 10] w fun e w' => e = .returned (.tuple #[.string (Tx.str (Wt.num h)),.int .i64 0]) ∧ Below w.heap.size w w' := by
 unfold Tr.Hd.shape Tr.Hd.num at hs
 simp only [hk,if_true,Bool.and_eq_true] at hs
 obtain ⟨e1,e2,S1⟩ := Rt.Snd.of hI.ok.w1 hI.ok.w2 hs.1.1.1.1.1
 obtain ⟨e3,e4,S2⟩ := Rt.Snd.of hI.ok.w3 hI.ok.w4 hs.1.1.1.1.2
 have i3 := hI.i3
 have i4 := hI.i4
 have i6 := hI.i6
 have i7 := hI.i7
 rw [e1] at i3
 rw [e2] at i4
 rw [e3] at i6
 rw [e4] at i7
 have hQ : Rt.Q w (.agg #[.bool h.s1,v3,v4,.bool h.s2,v6,v7]) h.s1 (Nt.val h.t1) (Nt.val h.b1) h.s2 (Nt.val h.t2) (Nt.val h.b2) := ⟨v3,v4,v6,v7,rfl,i3,i4,i6,i7⟩
 have hSA := Rt.SoundAt.of_Q hQ S1 S2
 unfold Wt.num
 by_cases h0 : Nt.val h.t2 = 0
 · rw [h0] at hQ;have := Tx.Text_real h.s1 (Nt.val h.t1) (Nt.val h.b1) h.s2 (Nt.val h.b2) _ w hQ hSA S1.pos ⟨S1.l1,S1.l2⟩;unfold Wt.cnum;rw [if_pos h0];exact this
 · exact Tx.Text_cplx _ _ _ _ _ _ _ w hQ hSA (by omega) S1.pos S2.pos ⟨S1.l1,S1.l2⟩ ⟨S2.l1,S2.l2⟩
end Go.Proofs.YteklhapffplohaaGreatDoor
