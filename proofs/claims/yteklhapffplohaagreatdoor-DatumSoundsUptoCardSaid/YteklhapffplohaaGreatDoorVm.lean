/-
  datum.shape of any node: the walk. Worlds that are alike but for one block. A row of data that a reader's loop owns.
-/
import Derived.Deep.AppendLies
import Derived.Deep.LoopGhost
import Derived.Lib.Walk
import Derived.Sort.WalkB12
import Derived.Lib.SlicesMore
import Derived.Test.YteklhapffplohaaGreatDoorVl
import Derived.Test.YteklhapffplohaaGreatDoorVk
import Derived.Test.YteklhapffplohaaGreatDoorVb
import Derived.Test.YteklhapffplohaaGreatDoorVg
import Derived.Test.YteklhapffplohaaGreatDoorVa
import Derived.Test.YteklhapffplohaaGreatDoorShelfV
set_option linter.unusedVariables false
set_option linter.unusedSimpArgs false
namespace Go.Proofs.YteklhapffplohaaGreatDoor
open Go.RowKit
def Tr.Tabs (w : World) : Prop := Lib.Utf8Tabs (Tryz.laysValid196_ren.g 3) (Tryz.laysValid196_ren.g 4) w
theorem Tr.Tabs.below {w w' : World} (h : Tr.Tabs w) (hb : Below w.heap.size w w') : Tr.Tabs w' := Utf8Tabs_below h hb
theorem Tr.str_size {x : ByteArray} (h : x.toList = []) : x.size = 0 := by
 rw [ByteArray.toList_eq] at h;have e : x.data.toList.length = x.size := by simp
 rw [h] at e;exact e.symm
theorem Tr.str_nil {x : ByteArray} (h : x.size = 0) : x = ⟨#[]⟩ := by
 apply ByteArray.ext;exact Array.eq_empty_of_size_eq_zero h
theorem Tr.str_ne {x : ByteArray} (h : x.size ≠ 0) : (x.toList = []) = False ∧ x.toList.isEmpty = false := by
 have hn : ¬ x.toList = [] := fun e => h (Tr.str_size e);exact ⟨by simp [hn],by simpa using hn⟩
set_option maxHeartbeats 8000000
set_option maxRecDepth 1000000
theorem Tr.shape_any (h : Tr.Hd) (n : Nat) (v3 v4 v6 v7 v9 : Value) (a10 : Option Addr) (c10 : Nat) (S : Nat → Prop) (w : World) (hI : Tr.Hd.In w S h v3 v4 v6 v7 v9) (hT : Tr.Tabs w) :
 Calls Tryz.prog 22 #[.agg (Tr.cells h v3 v4 v6 v7 v9 (.slice a10 n c10))] w fun e w' => e = .returned (.bool (h.shape n)) ∧ Below w.heap.size w w' := by
 have KS := fun w hh => Rt.Sound_any h.s1 h.t1 h.b1 h.s2 h.t2 h.b2 (.agg #[.bool h.s1,v3,v4,.bool h.s2,v6,v7]) w hh
 have hform : ∀ w',Below w.heap.size w w' → Rt.GN w' (.agg #[.bool h.s1,v3,v4,.bool h.s2,v6,v7]) h.s1 h.t1 h.b1 h.s2 h.t2 h.b2 := fun w' hb =>
  Rt.GN.below (w := w) (B := w.heap.size) ⟨⟨v3,v4,v6,v7,rfl,hI.i3,hI.i4,hI.i6,hI.i7⟩,⟨hI.ok.w1,hI.ok.w2,hI.ok.l1,hI.ok.l2⟩,⟨hI.ok.w3,hI.ok.w4,hI.ok.l3,hI.ok.l4⟩⟩ hb (Nat.le_refl _)
 have KV := fun w hh => Tryz.utf8_ValidString h.x w (by have := hI.ok.x1; unfold maxLen at this; omega) hh
 obtain ⟨a3,c3,rfl⟩ := hI.i3.slice
 obtain ⟨a4,c4,rfl⟩ := hI.i4.slice
 obtain ⟨a6,c6,rfl⟩ := hI.i6.slice
 obtain ⟨a7,c7,rfl⟩ := hI.i7.slice
 obtain ⟨a9,c9,rfl⟩ := hI.i9.slice
 have hk0 := hI.ok.k0
 have hk1 := hI.ok.k1
 have hn0 := hI.ok.n0
 have hn1 := hI.ok.n1
 have hdef : h.shape n = (h.num && (Tr.isText h.k || decide (h.x.size = 0)) && Lib.validD h.x.data.toList && (decide (h.k = 7) || decide (h.raw.size = 0)) && Tr.own h.k h.n n) := rfl
 have hnum : h.num = if h.k = 3 then Rt.soundN h.s1 h.t1 h.b1 h.s2 h.t2 h.b2 else (!h.s1 && decide (h.t1.length = 0) && decide (h.b1.length = 0)) && (!h.s2 && decide (h.t2.length = 0) && decide (h.b2.length = 0)) := rfl
 have htab : ∀ w',Below w.heap.size w w' → Tr.Tabs w' := fun w' hb => hT.below hb
 rw [hdef]
 unfold Tr.cells
 obtain ⟨k,kn,s1,t1,b1,s2,t2,b2,x,raw⟩ := h
 simp only at *
 generalize Tr.Hd.num ⟨k,kn,s1,t1,b1,s2,t2,b2,x,raw⟩ = num at *
 generalize Rt.soundN s1 t1 b1 s2 t2 b2 = SN at *
 clear hI hT hdef
 generalize t1.length = l1 at *
 generalize b1.length = l2 at *
 generalize t2.length = l3 at *
 generalize b2.length = l4 at *
 obtain ⟨W,hW⟩ : ∃ W,w.alloc (.cells #[.int .i64 k,.int .i64 kn,.bool s1,.slice a3 l1 c3,.slice a4 l2 c4,.bool s2,.slice a6 l3 c6,.slice a7 l4 c7,.string x,.slice a9 raw.size c9,.slice a10 n c10] 30) = W := ⟨_,rfl⟩
 have q0 : W.heap[w.heap.size]? = some (.cells #[.int .i64 k,.int .i64 kn,.bool s1,.slice a3 l1 c3,.slice a4 l2 c4,.bool s2,.slice a6 l3 c6,.slice a7 l4 c7,.string x,.slice a9 raw.size c9,.slice a10 n c10] 30 (0,0)) := by rw [← hW]; exact heap_alloc_new w _
 have hb0 : Below w.heap.size w W := by rw [← hW]; exact (Below.refl _ _).alloc (Nat.le_refl _) _
 have hzw : w.heap.size < W.heap.size := (Array.getElem?_eq_some_iff.1 q0).1
 have HK := Lib.hid (fun (w' : World) (hb : Below W.heap.size W w') => Dt.cells11 ((hb.block w.heap.size hzw).trans q0))
 have HB := Lib.hid (fun (w' : World) (hb : Below W.heap.size W w') => hb0.trans (hb.mono (by omega : w.heap.size ≤ W.heap.size)))
 have HF := Lib.hid hform
 have HTB := Lib.hid htab
 have HNUM := Lib.hid hnum
 obtain ⟨d0,d1,d2,d3,d4,d5,d6,d7,d8,d9,d10⟩ := HK.out _ (Below.refl _ _)
 clear q0 hb0 hzw hform htab hnum
 go_enter Tryz.func22,Tryz.ntmps22
 go_upto_region 1 with (fail)
 go_cut [3] (fun v wx => v = .bool num ∧ Below W.heap.size W wx)
 case first =>
  by_cases hk3 : k = 3
  · subst hk3;have HN : Hid (num = SN) := Lib.hid (by have := HNUM.out; rwa [if_pos rfl] at this);obtain rfl := HN.out;go_wp2_with fail;refine (KS _ (HF.out _ (HB.out _ (Below.refl _ _)))).mono ?_;rintro y w1 ⟨rfl,hb1⟩;have HB1 := Lib.hid hb1;clear d0 d1 d2 d3 d4 d5 d6 d7 d8 d9 d10;obtain ⟨d0,d1,d2,d3,d4,d5,d6,d7,d8,d9,d10⟩ := HK.out _ hb1;clear hb1 hW;cases num with
    | true =>
      go_wp2_with fail;go_meet;exact ⟨rfl,HB1.out⟩
    | false =>
      go_wp2_with fail;go_meet;exact ⟨rfl,HB1.out⟩
  · have hk3I : (k == 3) = false := by simp; exact hk3
    have hk3J : (k != 3) = true := by simp; exact hk3
    obtain ⟨N1,hN1⟩ : ∃ N,(!s1 && decide (l1 = 0) && decide (l2 = 0)) = N := ⟨_,rfl⟩;obtain ⟨N2,hN2⟩ : ∃ N,(!s2 && decide (l3 = 0) && decide (l4 = 0)) = N := ⟨_,rfl⟩;have KN1 := fun w => Tr.noRat_any s1 a3 a4 l1 c3 l2 c4 w;have KN2 := fun w => Tr.noRat_any s2 a6 a7 l3 c6 l4 c7 w;have HN : Hid (num = (N1 && N2)) := Lib.hid (by have := HNUM.out; rw [if_neg hk3,hN1,hN2] at this; exact this);rw [hN1] at KN1;rw [hN2] at KN2;clear hN1 hN2 hk3;obtain rfl := HN.out;go_wp2_with fail;refine (KN1 _).mono ?_;rintro y w1 ⟨rfl,hb1⟩;have HB1 := Lib.hid hb1;clear d0 d1 d2 d3 d4 d5 d6 d7 d8 d9 d10;obtain ⟨d0,d1,d2,d3,d4,d5,d6,d7,d8,d9,d10⟩ := HK.out _ hb1;clear hb1 hW;cases N1 with
    | false =>
      go_wp2_with fail;go_meet;exact ⟨rfl,HB1.out⟩
    | true =>
      go_wp2_with fail;refine (KN2 _).mono ?_;rintro y w2 ⟨rfl,hb2⟩;have HB2 := Lib.hid (HB1.out.trans (hb2.mono HB1.out.size));clear hb2;cases N2 with
      | false =>
        go_wp2_with fail;go_meet;exact ⟨rfl,HB2.out⟩
      | true =>
        go_wp2_with fail;go_meet;exact ⟨rfl,HB2.out⟩
 case rest =>
  obtain ⟨rfl,hbc⟩ := hcut
  clear d0 d1 d2 d3 d4 d5 d6 d7 d8 d9 d10
  obtain ⟨d0,d1,d2,d3,d4,d5,d6,d7,d8,d9,d10⟩ := HK.out _ hbc
  have HBC := Lib.hid hbc
  clear hbc hW KS HF HNUM
  go_upto_region 2 with (fail)
  go_cut [4] (fun v wx => v = .bool (Tr.isText k) ∧ wx = wc)
  case first =>
   by_cases h5 : k = 5
   · subst h5;go_wp2_with fail;go_meet;exact ⟨rfl,rfl⟩
   · have h5I : (k == 5) = false := by simp; exact h5
     by_cases h6 : k = 6
     · subst h6;clear h5;go_wp2_with fail;go_meet;exact ⟨rfl,rfl⟩
     · have h6I : (k == 6) = false := by simp; exact h6
       by_cases h11 : k = 11
       · subst h11;clear h5 h6;go_wp2_with fail;go_meet;exact ⟨rfl,rfl⟩
       · have h11I : (k == 11) = false := by simp; exact h11
         have HT : Hid (Tr.isText k = false) := Lib.hid (by simp [Tr.isText,h5,h6,h11]);clear h5 h6 h11;go_wp2_with fail;go_meet;exact ⟨by rw [HT.out],rfl⟩
  case rest =>
   obtain ⟨rfl,rfl⟩ := hcut
   obtain ⟨T,hTe⟩ : ∃ T,Tr.isText k = T := ⟨_,rfl⟩
   rw [hTe]
   have HTX := Lib.hid hTe
   clear hTe
   go_upto_region 3 with (fail)
   go_cut [70] (fun v wx => v = .bool (!(num && (T || decide (x.size = 0)) && Lib.validD x.data.toList && (decide (k = 7) || decide (raw.size = 0)))) ∧ Below W.heap.size W wx)
   case first =>
    cases num with
    | false =>
      go_wp2_with fail
      go_meet
      exact ⟨by simp,HBC.out⟩
    | true =>
      have hxe : T = false → x.size ≠ 0 → (x.toList = []) = False ∧ x.toList.isEmpty = false := fun _ hx => Tr.str_ne hx
      by_cases hTx : T = false ∧ x.size ≠ 0
      · obtain ⟨rfl,hx⟩ := hTx;obtain ⟨hx1,hx2⟩ := Tr.str_ne hx;have HX := Lib.hid hx;clear hx hxe;go_wp2_with fail;go_meet;exact ⟨by simp [HX.out],HBC.out⟩
      · have hTd : (T || decide (x.size = 0)) = true := by
         cases T with
         | true => rfl
         | false =>
           simp only [true_and,Classical.not_not] at hTx;simp [hTx]
        have HTD := Lib.hid hTd;have hxf : T = true ∨ (T = false ∧ x.size = 0) := by
         cases T with
         | true => exact .inl rfl
         | false => exact .inr ⟨rfl,by simpa using hTd⟩
        clear hTd hTx hxe;have hV := KV wc (HTB.out _ (HB.out _ HBC.out));obtain ⟨V,hVe⟩ : ∃ V,Lib.validD x.data.toList = V := ⟨_,rfl⟩;rw [hVe] at hV;have HVE := Lib.hid hVe;clear hVe KV;generalize raw.size = rl at *;have HX0 : Hid (x.size = 0 → x = ⟨#[]⟩) := Lib.hid Tr.str_nil;rcases hxf with rfl | ⟨rfl,hx⟩
        · go_wp2_with fail;refine hV.mono ?_;rintro y w3 ⟨rfl,hb3⟩;have HB3 := Lib.hid (HBC.out.trans (hb3.mono HBC.out.size));clear d0 d1 d2 d3 d4 d5 d6 d7 d8 d9 d10;obtain ⟨d0,d1,d2,d3,d4,d5,d6,d7,d8,d9,d10⟩ := HK.out _ HB3.out;clear hb3;cases V with
          | false =>
            go_wp2_with fail;go_meet;exact ⟨by rw [HVE.out]; simp,HB3.out⟩
          | true =>
            by_cases h7 : k = 7
            · subst h7;go_wp2_with fail;go_meet;exact ⟨by rw [HVE.out,HTD.out]; simp,HB3.out⟩
            · have h7I : (k != 7) = true := by simp; exact h7
              by_cases hr0 : rl = 0
              · subst hr0;have H7 := Lib.hid h7;clear h7;go_wp2_with fail;go_meet;exact ⟨by rw [HVE.out,HTD.out]; simp,HB3.out⟩
              · have hrI : (0 : Int) < (rl : Int) := by omega
                have H7 := Lib.hid (And.intro h7 hr0);clear h7 hr0;go_wp2_with fail;go_meet;exact ⟨by rw [HVE.out,HTD.out]; simp [H7.out.1,H7.out.2]; exact Nat.pos_of_ne_zero H7.out.2,HB3.out⟩
        · obtain rfl := HX0.out hx;clear hx;go_wp2_with fail;refine hV.mono ?_;rintro y w3 ⟨rfl,hb3⟩;have HB3 := Lib.hid (HBC.out.trans (hb3.mono HBC.out.size));clear d0 d1 d2 d3 d4 d5 d6 d7 d8 d9 d10;obtain ⟨d0,d1,d2,d3,d4,d5,d6,d7,d8,d9,d10⟩ := HK.out _ HB3.out;clear hb3;cases V with
          | false =>
            go_wp2_with fail;go_meet;exact ⟨by rw [HVE.out]; simp,HB3.out⟩
          | true =>
            by_cases h7 : k = 7
            · subst h7;go_wp2_with fail;go_meet;exact ⟨by rw [HVE.out,HTD.out]; simp,HB3.out⟩
            · have h7I : (k != 7) = true := by simp; exact h7
              by_cases hr0 : rl = 0
              · subst hr0;have H7 := Lib.hid h7;clear h7;go_wp2_with fail;go_meet;exact ⟨by rw [HVE.out,HTD.out]; simp,HB3.out⟩
              · have hrI : (0 : Int) < (rl : Int) := by omega
                have H7 := Lib.hid (And.intro h7 hr0);clear h7 hr0;go_wp2_with fail;go_meet;exact ⟨by rw [HVE.out,HTD.out]; simp [H7.out.1,H7.out.2]; exact Nat.pos_of_ne_zero H7.out.2,HB3.out⟩
   case rest =>
    obtain ⟨rfl,hbd⟩ := hcut
    obtain ⟨P,hP⟩ : ∃ P,(num && (T || decide (x.size = 0)) && Lib.validD x.data.toList && (decide (k = 7) || decide (raw.size = 0))) = P := ⟨_,rfl⟩
    have HP := Lib.hid hP
    have HBD := Lib.hid (HB.out _ hbd)
    clear d0 d1 d2 d3 d4 d5 d6 d7 d8 d9 d10
    obtain ⟨d0,d1,d2,d3,d4,d5,d6,d7,d8,d9,d10⟩ := HK.out _ hbd
    obtain ⟨rl,hrl⟩ : ∃ r,raw.size = r := ⟨_,rfl⟩
    rw [hrl] at d9
    have hcv : (!(num && (T || decide (x.size = 0)) && Lib.validD x.data.toList && (decide (k = 7) || decide (raw.size = 0)))) = !P := by rw [hP]
    rw [hcv]
    clear hP hbd KV HTB HBC hrl hcv
    cases P with
    | false =>
      go_wp2_with fail
      go_ret
      exact ⟨by rw [HTX.out,HP.out]; simp,HBD.out⟩
    | true =>
      by_cases h8 : k = 8
      · subst h8;by_cases hz : kn = 0
        · subst hz;by_cases hl : n = 2
          · subst hl;go_wp2_with fail;go_ret;exact ⟨by rw [HTX.out,HP.out]; simp [Tr.own],HBD.out⟩
          · have hlI : ((n : Int) == 2) = false := by simp; omega
            have HL := Lib.hid hl;clear hl;go_wp2_with fail;go_ret;exact ⟨by rw [HTX.out,HP.out]; simp [Tr.own,HL.out],HBD.out⟩
        · have hzI : (kn == 0) = false := by simp; exact hz
          have HZ := Lib.hid hz;clear hz;go_wp2_with fail;go_ret;exact ⟨by rw [HTX.out,HP.out]; simp [Tr.own,HZ.out],HBD.out⟩
      · have h8I : (k == 8) = false := by simp; exact h8
        by_cases h9 : k = 9
        · subst h9;clear h8;by_cases hz : kn = 0
          · subst hz;go_wp2_with fail;go_ret;exact ⟨by rw [HTX.out,HP.out]; simp [Tr.own],HBD.out⟩
          · have hzI : (kn == 0) = false := by simp; exact hz
            have HZ := Lib.hid hz;clear hz;go_wp2_with fail;go_ret;exact ⟨by rw [HTX.out,HP.out]; simp [Tr.own,HZ.out],HBD.out⟩
        · have h9I : (k == 9) = false := by simp; exact h9
          by_cases h2 : k = 2
          · subst h2;clear h8 h9;by_cases hz : kn = 0 ∨ kn = 1
            · have hzd : (kn / 2 == 0) = true := by rcases hz with rfl | rfl <;> rfl
              have hze : kn / 2 = 0 := by rcases hz with rfl | rfl <;> rfl
              have HZ := Lib.hid hz;clear hz;by_cases hl : n = 0
              · subst hl;go_wp2_with fail;go_ret;exact ⟨by rw [HTX.out,HP.out]; rcases HZ.out with h | h <;> simp [Tr.own,h],HBD.out⟩
              · have hlI : ((n : Int) == 0) = false := by simp; omega
                have HL := Lib.hid hl;clear hl;go_wp2_with fail;go_ret;exact ⟨by rw [HTX.out,HP.out]; simp [Tr.own,HL.out],HBD.out⟩
            · have hzd : (kn / 2 == 0) = false := by simp; omega
              have hze : ¬ kn / 2 = 0 := by omega
              have HZ := Lib.hid hz;clear hz;go_wp2_with fail;go_ret;exact ⟨by rw [HTX.out,HP.out]; have := HZ.out; simp [Tr.own]; omega,HBD.out⟩
          · have h2I : (k == 2) = false := by simp; exact h2
            by_cases h4 : k = 4
            · subst h4;clear h8 h9 h2;have KC := fun w => Tr.IsChar_any kn w;obtain ⟨C,hC⟩ : ∃ C,Tr.isChar kn = C := ⟨_,rfl⟩;rw [hC] at KC;have HC := Lib.hid hC;clear hC;cases C with
              | false =>
                go_wp2_with fail;refine (KC _).mono ?_;rintro y w5 ⟨rfl,hw5⟩;subst hw5;go_wp2_with fail;go_ret;exact ⟨by rw [HTX.out,HP.out]; simp [Tr.own,HC.out],HBD.out⟩
              | true =>
                by_cases hl : n = 0
                · subst hl;go_wp2_with fail;refine (KC _).mono ?_;rintro y w5 ⟨rfl,hw5⟩;subst hw5;go_wp2_with fail;go_ret;exact ⟨by rw [HTX.out,HP.out]; simp [Tr.own,HC.out],HBD.out⟩
                · have hlI : ((n : Int) == 0) = false := by simp; omega
                  have HL := Lib.hid hl;clear hl;go_wp2_with fail;refine (KC _).mono ?_;rintro y w5 ⟨rfl,hw5⟩;subst hw5;go_wp2_with fail;go_ret;exact ⟨by rw [HTX.out,HP.out]; simp [Tr.own,HL.out],HBD.out⟩
            · have h4I : (k == 4) = false := by simp; exact h4
              have HKN := Lib.hid (And.intro h8 (And.intro h9 (And.intro h2 h4)));clear h8 h9 h2 h4;by_cases hk1' : 1 ≤ k
              · by_cases hk11 : k ≤ 11
                · by_cases hz : kn = 0
                  · subst hz;by_cases hl : n = 0
                    · subst hl;go_wp2_with fail;go_ret;exact ⟨by rw [HTX.out,HP.out]; simp [Tr.own,HKN.out.1,HKN.out.2.1,HKN.out.2.2.1,HKN.out.2.2.2,hk1',hk11],HBD.out⟩
                    · have hlI : ((n : Int) == 0) = false := by simp; omega
                      have HL := Lib.hid hl;clear hl;go_wp2_with fail;go_ret;exact ⟨by rw [HTX.out,HP.out]; simp [Tr.own,HKN.out.1,HKN.out.2.1,HKN.out.2.2.1,HKN.out.2.2.2,HL.out],HBD.out⟩
                  · have hzI : (kn == 0) = false := by simp; exact hz
                    have HZ := Lib.hid hz;clear hz;go_wp2_with fail;go_ret;exact ⟨by rw [HTX.out,HP.out]; simp [Tr.own,HKN.out.1,HKN.out.2.1,HKN.out.2.2.1,HKN.out.2.2.2,HZ.out],HBD.out⟩
                · go_wp2_with fail;go_ret;exact ⟨by simp [Tr.own,HKN.out.1,HKN.out.2.1,HKN.out.2.2.1,HKN.out.2.2.2]; intros; omega,HBD.out⟩
              · go_wp2_with fail;go_ret;exact ⟨by simp [Tr.own,HKN.out.1,HKN.out.2.1,HKN.out.2.2.1,HKN.out.2.2.2]; intros; omega,HBD.out⟩
set_option maxHeartbeats 200000
set_option maxRecDepth 512
structure Tr.But (L : Nat) (w w' : World) : Prop where
 os : w'.os = w.os
 tape : w'.tape = w.tape
 output : w'.output = w.output
 size : w.heap.size ≤ w'.heap.size
 block : ∀ q,q ≠ L → q < w.heap.size → w'.heap[q]? = w.heap[q]?
theorem Tr.But.refl (L : Nat) (w : World) : Tr.But L w w := ⟨rfl,rfl,rfl,Nat.le_refl _,fun _ _ _ => rfl⟩
theorem Tr.But.trans {L : Nat} {a b c : World} (h : Tr.But L a b) (k : Tr.But L b c) : Tr.But L a c :=
 ⟨k.os.trans h.os,k.tape.trans h.tape,k.output.trans h.output,Nat.le_trans h.size k.size,fun q h1 h2 => (k.block q h1 (Nat.lt_of_lt_of_le h2 h.size)).trans (h.block q h1 h2)⟩
theorem Tr.But.of_below {L B : Nat} {w w' : World} (h : Below B w w') (hB : w.heap.size ≤ B) : Tr.But L w w' :=
 ⟨h.os,h.tape,h.output,h.size,fun q _ h2 => h.block q (Nat.lt_of_lt_of_le h2 hB)⟩
theorem Tr.But.below {L B : Nat} {w w' : World} (h : Tr.But L w w') (hL : B ≤ L) (hB : B ≤ w.heap.size) : Below B w w' :=
 ⟨h.os,h.tape,h.output,h.size,fun q hq => h.block q (by omega) (by omega)⟩
theorem Tr.But.alloc {L : Nat} {a w : World} (h : Tr.But L a w) (o : Obj) : Tr.But L a (w.alloc o) := h.trans (Tr.But.of_below ((Below.refl w.heap.size w).alloc (Nat.le_refl _) o) (Nat.le_refl _))
theorem Tr.But.setCell {L : Nat} {a w : World} (h : Tr.But L a w) (p : Addr) (hp : p.block = L ∨ a.heap.size ≤ p.block) (u : Value) : Tr.But L a (w.setCell p u) :=
 ⟨h.os,h.tape,h.output,by have := h.size; simp [World.setCell]; exact this,fun q h1 h2 => (Below.heap_setCell _ _ _ _ (by rcases hp with e | e <;> omega)).trans (h.block q h1 h2)⟩
theorem Tr.storeInt {w : World} {L : Nat} {n : Int} {t : TypeId} (h : w.heap[L]? = some (.cells #[.int .i64 n] t (0,0))) (m : Int) :
 ∃ W,w.setCell ⟨L,0,none⟩ (.int .i64 m) = W ∧ w.cell? ⟨L,0,none⟩ = some (.int .i64 n) ∧ w.frozen? ⟨L,0,none⟩ = false ∧ W.cell? ⟨L,0,none⟩ = some (.int .i64 m) ∧ W.heap[L]? = some (.cells #[.int .i64 m] t (0,0)) ∧ Tr.But L w W ∧ W.heap.size = w.heap.size ∧ (∀ q,q ≠ L → W.heap[q]? = w.heap[q]?) := by
 have h1 := Dt.setCells h 0 (.int .i64 m)
 exact ⟨_,rfl,Dt.cell_of h 0,Dt.frozen_of h 0,Dt.cell_of h1 0,h1,(Tr.But.refl L w).setCell _ (.inl rfl) _,by simp,fun q hq => Below.heap_setCell _ _ _ _ hq⟩
theorem Tr.In.form2 {w : World} {S : Nat → Prop} {t : Tr} {C : Array Value} (h : Tr.In w S t (.agg C)) : ∃ (hd : Tr.Hd) (l : List Tr) (a3 a4 a6 a7 a9 a10 : Option Addr) (n3 n4 n6 n7 n9 n10 c3 c4 c6 c7 c9 c10 : Nat),
 C = Tr.cells hd (.slice a3 n3 c3) (.slice a4 n4 c4) (.slice a6 n6 c6) (.slice a7 n7 c7) (.slice a9 n9 c9) (.slice a10 n10 c10) ∧ t = .mk hd l ∧ Tr.Hd.In w S hd (.slice a3 n3 c3) (.slice a4 n4 c4) (.slice a6 n6 c6) (.slice a7 n7 c7) (.slice a9 n9 c9) ∧ Tr.LIn w S l (.slice a10 n10 c10) := by
 obtain ⟨hd,l⟩ := t
 rw [Tr.In_mk] at h
 obtain ⟨v3,v4,v6,v7,v9,v10,e,h1,h2⟩ := h
 obtain ⟨a3,c3,rfl⟩ := h1.i3.slice
 obtain ⟨a4,c4,rfl⟩ := h1.i4.slice
 obtain ⟨a6,c6,rfl⟩ := h1.i6.slice
 obtain ⟨a7,c7,rfl⟩ := h1.i7.slice
 obtain ⟨a9,c9,rfl⟩ := h1.i9.slice
 obtain ⟨a10,c10,rfl,_⟩ := h2.slice
 exact ⟨hd,l,a3,a4,a6,a7,a9,a10,_,_,_,_,_,_,c3,c4,c6,c7,c9,c10,by injection e,rfl,h1,h2⟩
def Dr.zeroV : Value := .agg #[.int .i64 0,.int .i64 0,.bool false,.slice none 0 0,.slice none 0 0,.bool false,.slice none 0 0,.slice none 0 0,.string ⟨#[]⟩,.slice none 0 0,.slice none 0 0]
theorem Dr.infoD : (Tryz.prog.info? 30).map (fun i => (i.zero,i.size,i.bytes)) = some (some Dr.zeroV,11,192) := by kernel_rfl
theorem Dr.own_slice {w : World} {B sz : Nat} {t : TypeId} {v : Value} {n : Nat} {xs : List Value} (h : w.ownsRow B t sz v n xs) : ∃ a c,v = .slice a n c := by
 rcases h.2 with ⟨rfl,rfl⟩ | ⟨g,cap,cur,hv,_⟩
 · exact ⟨_,_,rfl⟩
 · exact ⟨_,_,hv⟩
theorem Dr.own_kept {w w' : World} {B sz : Nat} {t : TypeId} {v : Value} {n : Nat} {xs : List Value} (h : w.ownsRow B t sz v n xs) (hk : ∀ q,B ≤ q → q < w.heap.size → w'.heap[q]? = w.heap[q]?) : w'.ownsRow B t sz v n xs := by
 refine ⟨h.1,?_⟩;rcases h.2 with hv | ⟨g,cap,cur,hv,hB',hg,rest⟩
 · exact .inl hv
 · have hlt := (Array.getElem?_eq_some_iff.1 hg).1;exact .inr ⟨g,cap,cur,hv,hB',(hk g hB' hlt).trans hg,rest⟩
theorem Dr.row_kept {w w' : World} {B : Nat} {v : Value} {l : List Tr} {xs : List Value} (h : Tr.Row B w v l xs) (hz : w.heap.size ≤ w'.heap.size) (hk : ∀ q,B ≤ q → q < w.heap.size → w'.heap[q]? = w.heap[q]?) : Tr.Row B w' v l xs := by
 refine ⟨Dr.own_kept h.1 hk,fun k t ht => ?_⟩;obtain ⟨C,hI,hx⟩ := h.2 k t ht;exact ⟨C,Tr.In.kept ⟨hz,fun q hq hl => hk q hq.1 hl⟩ _ _ hI,hx⟩
theorem Dr.row_push {B : Nat} {w w1 w2 : World} {v v' : Value} {l : List Tr} {xs : List Value} {t : Tr} {C : Array Value} (h : Tr.Row B w v l xs) (hz : w.heap.size ≤ w1.heap.size) (hk : ∀ q,B ≤ q → q < w.heap.size → w1.heap[q]? = w.heap[q]?) (hB : B ≤ w.heap.size)
 (hI : Tr.In w1 (fun q => w.heap.size ≤ q) t (.agg C)) (ho : w2.ownsRow B 30 11 v' (l.length + 1) (xs ++ C.toList)) (hg : w1.grownBy w2 v.ownBlock) (hf : Ls.Fresh w1 v v') : Tr.Row B w2 v' (l ++ [t]) (xs ++ C.toList) := by
 refine ⟨by rw [List.length_append]; exact ho,fun k u hku => ?_⟩
 have hlt := h.1.lt
 rcases Nat.lt_or_ge k l.length with h1 | h1
 · rw [List.getElem?_append_left h1] at hku;obtain ⟨C',hI',hx⟩ := h.2 k u hku;have h5 := Tr.In.kept (S := fun q => (B ≤ q ∧ v.ownBlock ≠ some q) ∧ q < w.heap.size) (w' := w2) ⟨Nat.le_trans hz hg.size,fun q hq hl => (hg.block q (Nat.lt_of_lt_of_le hl hz) (fun e => hq.1.2 e.symm)).trans (hk q hq.1.1 hl)⟩ _ _ (Tr.In.top _ _ hI');have h6 : ∀ q,((B ≤ q ∧ v.ownBlock ≠ some q) ∧ q < w.heap.size) → (B ≤ q ∧ v'.ownBlock ≠ some q) := by
    intro q hq;refine ⟨hq.1.1,fun he => ?_⟩;rcases hf q he with h2 | h2
    · exact hq.1.2 h2
    · have := hq.2;omega
   refine ⟨C',Tr.In.mono h6 _ _ h5,fun j hj => ?_⟩;rw [List.getElem?_append_left (by rw [h.1.1]; omega)];exact hx j hj
 · have hkl : k = l.length := by
    have := (List.getElem?_eq_some_iff.1 hku).1;simp at this;omega
   subst hkl;rw [List.getElem?_append_right (Nat.le_refl _),Nat.sub_self] at hku;simp only [List.getElem?_cons_zero,Option.some.injEq] at hku;subst hku;have h5 := Tr.In.kept (S := fun q => w.heap.size ≤ q ∧ q < w1.heap.size) (w' := w2) ⟨hg.size,fun q hq hl => hg.block q hl (fun e => by have := (hlt q e.symm).2; have := hq.1; omega)⟩ _ _ (Tr.In.top _ _ hI);have h6 : ∀ q,(w.heap.size ≤ q ∧ q < w1.heap.size) → (B ≤ q ∧ v'.ownBlock ≠ some q) := by
    intro q hq;refine ⟨Nat.le_trans hB hq.1,fun he => ?_⟩;rcases hf q he with h2 | h2
    · have := (hlt q h2).2;have := hq.1;omega
    · have := hq.2;omega
   refine ⟨C,Tr.In.mono h6 _ _ h5,fun j hj => ?_⟩;rw [List.getElem?_append_right (by rw [h.1.1]; omega),show 11 * l.length + j - xs.length = j by rw [h.1.1]; omega,Array.getElem?_toList]
structure Dr.ItSt (b : Nat) (S : ByteArray) (w0 : World) (l : List UInt8) (g : Bool) (w : World) (v : Value) (ts : List Tr) (xs : List Value) : Prop where
 rd : Dr.At b S l g w
 kept : Dr.Kept b w0 w
 row : Tr.Row w0.heap.size w v ts xs
 lt : b < w0.heap.size
theorem Dr.ItSt.start {b : Nat} {S : ByteArray} {w : World} {l : List UInt8} {g : Bool} (h : Dr.At b S l g w) : Dr.ItSt b S w l g w (.slice none 0 0) [] [] := ⟨h,Dr.Kept.refl _ _,Tr.Row.nil _ _,h.lt⟩
theorem Dr.ItSt.move {b : Nat} {S : ByteArray} {w0 w w' : World} {l l' : List UInt8} {g g' : Bool} {v : Value} {ts : List Tr} {xs : List Value} (h : Dr.ItSt b S w0 l g w v ts xs) (hA : Dr.At b S l' g' w') (hk : Dr.Kept b w w') : Dr.ItSt b S w0 l' g' w' v ts xs :=
 ⟨hA,h.kept.trans hk,Dr.row_kept h.row hk.size (fun q hq hl => hk.block q hl (by have := h.lt; omega)),h.lt⟩
theorem Dr.grown_alloc {w w' : World} {o : Obj} {r : Option Nat} (h : (w.alloc o).grownBy w' r) : w.grownBy w' r := by
 have hb : Below w.heap.size w (w.alloc o) := (Below.refl _ _).alloc (Nat.le_refl _) o;exact ⟨h.os.trans hb.os,h.tape.trans hb.tape,h.output.trans hb.output,Nat.le_trans hb.size h.size,fun q hq hne => (h.block q (Nat.lt_of_lt_of_le hq hb.size) hne).trans (hb.block q hq)⟩
theorem Dr.fresh_alloc {w : World} {o : Obj} {v v' : Value} (h : Ls.Fresh (w.alloc o) v v') : Ls.Fresh w v v' := fun q hq => by
 rcases h q hq with h1 | h1
 · exact .inl h1
 · have hz : (w.alloc o).heap.size = w.heap.size + 1 := by simp
   exact .inr (by omega)
theorem Dr.ItSt.next {b : Nat} {S : ByteArray} {w0 w w1 w2 : World} {l l' : List UInt8} {g g' : Bool} {v v' : Value} {ts : List Tr} {xs : List Value} {t : Tr} {C : Array Value} {o : Obj} (h : Dr.ItSt b S w0 l g w v ts xs)
 (hI : Tr.In w1 (fun q => w.heap.size ≤ q) t (.agg C)) (hA : Dr.At b S l' g' w1) (hk : Dr.Kept b w w1) (ho : w2.ownsRow w0.heap.size 30 11 v' (ts.length + 1) (xs ++ C.toList)) (hg : (w1.alloc o).grownBy w2 v.ownBlock) (hf : Ls.Fresh (w1.alloc o) v v') : Dr.ItSt b S w0 l' g' w2 v' (ts ++ [t]) (xs ++ C.toList) := by
 have hg := Dr.grown_alloc hg
 have hf := Dr.fresh_alloc hf
 have hlt := h.row.1.lt
 have hb := h.lt
 have hz := h.kept.size
 have hkb : w2.heap[b]? = w1.heap[b]? := hg.block b hA.lt (fun e => by have := (hlt b e.symm).1; omega)
 refine ⟨⟨hkb.trans hA.blk,hA.suf,hA.le⟩,⟨hg.os.trans ((hk.os).trans h.kept.os),hg.tape.trans (hk.tape.trans h.kept.tape),hg.output.trans (hk.output.trans h.kept.output),Nat.le_trans hz (Nat.le_trans hk.size hg.size),fun q hq hne => ?_⟩,?_,hb⟩
 · have hq1 : q < w1.heap.size := Nat.lt_of_lt_of_le hq (Nat.le_trans hz hk.size);exact (hg.block q hq1 (fun e => by have := (hlt q e.symm).1; omega)).trans ((hk.block q (Nat.lt_of_lt_of_le hq hz) hne).trans (h.kept.block q hq hne))
 · exact Dr.row_push h.row hk.size (fun q hq hl => hk.block q hl (by omega)) hz hI ho hg hf
def Dr.joinR (ts : List Tr) (acc : Bool) : Dr.Res → Dr.Res
 | .list ts' r big => .list (ts ++ ts') r (acc || big)
 | .lst ts' last r big => .lst (ts ++ ts') last r (acc || big)
 | x => x
theorem Dr.joinR_nil (R : Dr.Res) : Dr.joinR [] false R = R := by cases R <;> simp [Dr.joinR]
theorem Dr.joinR_snoc (ts : List Tr) (t : Tr) (acc big : Bool) (R : Dr.Res) : Dr.joinR ts acc (Dr.joinR [t] big R) = Dr.joinR (ts ++ [t]) (acc || big) R := by
 cases R <;> simp [Dr.joinR,Bool.or_assoc]
theorem Dr.it_inv_fault {e : Int} {l : List UInt8} {R : Dr.Res} (h : Dr.Rel (.blanks l) .fault) (k : Dr.Rel (.items e l) R) : R = .fault := k.det (.iFault1 h)
theorem Dr.it_inv {e : Int} {l r : List UInt8} {R : Dr.Res} (h : Dr.Rel (.blanks l) (.skip r)) (hp : Dr.pk e true r = .item) (k : Dr.Rel (.items e l) R) :
 (Dr.Rel (.datum r) .fault ∧ R = .fault) ∨ ∃ t r2 big R3,Dr.Rel (.datum r) (.got t r2 big) ∧ r2.length < r.length ∧ Dr.Rel (.items e r2) R3 ∧ R = Dr.joinR [t] big R3 := by
 obtain ⟨R2,h2⟩ := Dr.total (.datum r)
 rcases Dr.gots h2 with rfl | ⟨t,r2,b,rfl,hl⟩
 · exact .inl ⟨h2,k.det (.iItem1 h hp h2)⟩
 · obtain ⟨R3,h3⟩ := Dr.total (.items e r2);refine .inr ⟨t,r2,b,R3,h2,hl,h3,?_⟩;have hless := h3.less;cases R3 with
   | fault => exact k.det (.iItem2 h hp h2 h3)
   | list ts r3 b2 => exact k.det (.iItem3 h hp h2 h3)
   | skip => exact absurd hless id
   | got => exact absurd hless id
   | lst => exact absurd hless id
theorem Dr.pr_inv_fault {e : Int} {f : Bool} {l : List UInt8} {R : Dr.Res} (h : Dr.Rel (.blanks l) .fault) (k : Dr.Rel (.pairs e f l) R) : R = .fault := k.det (.pFault1 h)
theorem Dr.pr_inv {e : Int} {f : Bool} {l r : List UInt8} {R : Dr.Res} (h : Dr.Rel (.blanks l) (.skip r)) (hp : Dr.pk e f r = .item) (k : Dr.Rel (.pairs e f l) R) :
 (Dr.Rel (.datum r) .fault ∧ R = .fault) ∨ ∃ t r2 big R3,Dr.Rel (.datum r) (.got t r2 big) ∧ r2.length < r.length ∧ Dr.Rel (.pairs e false r2) R3 ∧ R = Dr.joinR [t] big R3 := by
 obtain ⟨R2,h2⟩ := Dr.total (.datum r)
 rcases Dr.gots h2 with rfl | ⟨t,r2,b,rfl,hl⟩
 · exact .inl ⟨h2,k.det (.pItem1 h hp h2)⟩
 · obtain ⟨R3,h3⟩ := Dr.total (.pairs e false r2);refine .inr ⟨t,r2,b,R3,h2,hl,h3,?_⟩;have hless := h3.less;cases R3 with
   | fault => exact k.det (.pItem2 h hp h2 h3)
   | lst ts last r3 b2 => exact k.det (.pItem3 h hp h2 h3)
   | skip => exact absurd hless id
   | got => exact absurd hless id
   | list => exact absurd hless id
theorem Dr.pk_bad {e : Int} {f : Bool} {r : List UInt8} (h : r ≠ []) (hb : Dr.bad r = true) : Dr.pk e f r = .fault := by rw [Dr.pk,if_neg h,if_pos hb]
theorem Dr.pk_stop {e : Int} {f : Bool} {r : List UInt8} (h : r ≠ []) (hb : Dr.bad r = false) (hc : Dr.cp r = e) : Dr.pk e f r = .stop (r.drop (Dr.wd r)) := by rw [Dr.pk,if_neg h,if_neg (by rw [hb]; simp),if_pos hc]
theorem Dr.pk_true {e : Int} {r : List UInt8} (h : r = [] ∨ (Dr.bad r = false ∧ ¬ Dr.cp r = e)) : Dr.pk e true r = .item := by
 rcases h with rfl | ⟨hb,hc⟩
 · rw [Dr.pk,if_pos rfl]
 · by_cases h0 : r = []
   · rw [Dr.pk,if_pos h0]
   · rw [Dr.pk,if_neg h0,if_neg (by rw [hb]; simp),if_neg hc,if_neg (by simp)]
theorem Dr.peek_not (b : Nat) (S : ByteArray) (r : List UInt8) (g : Bool) (e : Int) (w : World) (h : Dr.At b S r g w) (hp : r = [] ∨ (Dr.bad r = false ∧ ¬ Dr.cp r = e)) (hT : Dr.Tabs w) : ∃ c n : Int,(n = 0 ∨ (0 < n ∧ (c == e) = false)) ∧ c = Dr.pc r ∧
 Calls Tryz.prog 32 #[.pointer (some ⟨b,0,none⟩)] w fun x w' => x = .returned (.tuple #[.int .i32 c,.int .i64 n]) ∧ Below w.heap.size w w' := by
 refine ⟨Dr.pc r,Dr.pn r,?_,rfl,Dr.peek_pc b S r g w h (hp.imp_right And.left) hT⟩
 by_cases h0 : r = []
 · subst h0;exact .inl rfl
 · obtain ⟨e1,e2⟩ := Dr.pc_cons h0;have := Dr.wd_pos h0;rw [e1,e2];exact .inr ⟨by omega,beq_eq_false_iff_ne.2 ((hp.resolve_left h0).2)⟩
theorem Dr.its {e : Int} {l : List UInt8} {R : Dr.Res} (h : Dr.Rel (.items e l) R) : R = .fault ∨ ∃ ts r big,R = .list ts r big := by
 have hless := h.less;cases R with
 | fault => exact .inl rfl
 | list ts r2 big => exact .inr ⟨ts,r2,big,rfl⟩
 | skip => exact absurd hless id
 | got => exact absurd hless id
 | lst => exact absurd hless id
theorem Dr.in_agg {w : World} {S : Nat → Prop} {t : Tr} {v : Value} (h : Tr.In w S t v) : ∃ C,v = .agg C := by
 cases t with
 | mk hd l =>
   rw [Tr.In_mk] at h;obtain ⟨_,_,_,_,_,_,e,_⟩ := h;exact ⟨_,e⟩
set_option maxHeartbeats 4000000
set_option maxRecDepth 1000000
theorem Dr.items_con (e : Int) (l : List UInt8) (IH : ∀ j : Dr.Job,j.len < (Dr.Job.items e l).len → Dr.Con j) : Dr.Con (.items e l) := by
 intro b S g w R h hs hT hR he;subst he;have HIH := Lib.hid IH;have H0 := Lib.hid (show ∃ (l' : List UInt8) (acc : Bool) (ts : List Tr) (xs : List Value) (R' : Dr.Res),Dr.ItSt b S w l' (g || acc) w (.slice none 0 0) ts xs ∧ Dr.Rel (.items 41 l') R' ∧ R = Dr.joinR ts acc R' ∧ ts.length + l'.length ≤ l.length from
   ⟨l,false,[],[],R,by rw [Bool.or_false]; exact Dr.ItSt.start h,hR,(Dr.joinR_nil R).symm,by simp⟩)
 have HNE := Lib.hid (And.intro hT (h.tabs_ne hT));have HS := Lib.hid hs;have HLE := Lib.hid h.le;obtain ⟨i0,hi,hz0,hz1,hz2⟩ := info_parts Dr.infoD;clear h hT hR IH hs;go_enter Tryz.func41,Tryz.ntmps41;go_wp2_with fail;go_loopw [5] (fun v5 wr => ∃ (l' : List UInt8) (acc : Bool) (ts : List Tr) (xs : List Value) (R' : Dr.Res),Dr.ItSt b S w l' (g || acc) wr v5 ts xs ∧ Dr.Rel (.items 41 l') R' ∧ R = Dr.joinR ts acc R' ∧ ts.length + l'.length ≤ l.length) (fun _ wr => Dr.left b S wr);case atStart => exact H0.out
 case round =>
  obtain ⟨l',acc,ts,xs,R',hst,hR,hj,hll⟩ := hrel;clear H0;obtain ⟨oa,oc,rfl⟩ := Dr.own_slice hst.row.1;obtain ⟨k,hk⟩ : ∃ z,ts.length = z := ⟨_,rfl⟩;have HK := Lib.hid hk;rw [hk] at hst ⊢;have HT := Lib.hid (fun (w1 : World) (hk : Dr.Kept b w w1) => Dr.tabs_kept HNE.out.1 HNE.out.2.1 HNE.out.2.2 hk);have HM := Lib.hid hst.rd.left;have HST := Lib.hid hst;have HJ := Lib.hid hj;have HLL := Lib.hid hll;have HR := Lib.hid hR;have HIB := HIH.out (.blanks l') (by show 2 * l'.length < 2 * l.length + 1; omega) b S (g || acc) wr;have KB := Lib.hid HIB;obtain ⟨R1,h1⟩ := Dr.total (.blanks l');have KB1 := Lib.hid (KB.out R1 hst.rd HS.out (HT.out wr hst.kept) h1);have H1 := Lib.hid h1;clear hst hR hj hll hk HIB KB h1;go_wp2_with fail;rcases Dr.skips H1.out with hR1 | ⟨r,hR1,hl1⟩
  · subst hR1;refine KB1.out.mono ?_;rintro x w4 ⟨rfl,hK4⟩;have HE := Lib.hid (show Dr.PostIt b S g w R Dr.dead w4 by
      rw [HJ.out,Dr.it_inv_fault H1.out HR.out]
      exact ⟨rfl,HST.out.kept.trans hK4⟩)
    clear hK4 KB1;unfold Dr.dead at *;go_wp2_with fail;exact ⟨rfl,HE.out⟩
  subst hR1;refine KB1.out.mono ?_;rintro x w4 ⟨rfl,hA4,hK4⟩;have HS4 := Lib.hid (HST.out.move hA4 hK4);have hT4 := HT.out w4 HS4.out.kept;have HL1 := Lib.hid hl1;clear KB1 hl1;by_cases hbad : r ≠ [] ∧ Dr.bad r = true
  · have KP := Dr.peek_bad b S r (g || acc) w4 hA4 hbad.1 hbad.2 hT4;have HE0 := Lib.hid (fun w5 (hb5 : Below w4.heap.size w4 w5) => show Dr.PostIt b S g w R Dr.dead w5 from by
      rw [HJ.out,HR.out.det (.iFault2 H1.out (Dr.pk_bad hbad.1 hbad.2))]
      exact ⟨rfl,HS4.out.kept.trans (Dr.Kept.of_below hb5)⟩)
    clear hA4 hK4 hT4 hbad;go_wp2_with fail;refine KP.mono ?_;rintro x w5 ⟨rfl,hb5⟩;have HE := Lib.hid (HE0.out w5 hb5);clear HE0 hb5 KP;unfold Dr.dead at *;go_wp2_with fail;exact ⟨rfl,HE.out⟩
  by_cases hstop : r ≠ [] ∧ Dr.cp r = 41
  · obtain ⟨hr0,hr41⟩ := hstop;have hb : Dr.bad r = false := by
     cases hq : Dr.bad r with
     | false => rfl
     | true => exact absurd ⟨hr0,hq⟩ hbad
    have KP := Dr.peek_ok b S r (g || acc) w4 hA4 hr0 hb hT4;have hRR := HR.out.det (.iStop H1.out (Dr.pk_stop hr0 hb hr41));have hwp := Dr.wd_pos hr0;have hwl := Dr.wd_le hr0;have h0n : 0 < Dr.wd r := by omega
    have h0n2 : (0 : Int) < (Dr.wd r : Int) := by omega
    have hcb : (Dr.cp r == 41) = true := beq_iff_eq.2 hr41;obtain ⟨p,hp⟩ : ∃ z,S.size - r.length = z := ⟨_,rfl⟩;have hps : (p : Int) + (Dr.wd r : Int) ≤ 9223372036854775807 ∧ 0 ≤ (p : Int) ∧ (p : Int) ≤ 9223372036854775807 := by have := HS.out; have := hA4.le; omega
    obtain ⟨hps,hpa,hpb⟩ := hps;have HAT := Lib.hid (fun w5 (hb5 : Below w4.heap.size w4 w5) => (hA4.below hb5).cells);rw [hp] at HAT;have HSET := Lib.hid (fun w5 (hb5 : Below w4.heap.size w4 w5) => Dr.setAt (hA4.below hb5) hp hwl ((Dr.wd r : Nat) : Int) rfl);have HE0 := Lib.hid (fun w5 W (hb5 : Below w4.heap.size w4 w5) (hA : Dr.At b S (r.drop (Dr.wd r)) (g || acc) W) (hkW : Dr.Kept b w5 W) => show Dr.PostIt b S g w R (.returned (.slice oa k oc)) W from by
      rw [HJ.out,hRR];have h5 := HS4.out.move hA ((Dr.Kept.of_below hb5).trans hkW);show ∃ v,Ending.returned (.slice oa k oc) = .returned v ∧ Tr.LIn W (fun q => w.heap.size ≤ q) (ts ++ []) v ∧ (ts ++ []).length ≤ S.size ∧ Dr.At b S (r.drop (Dr.wd r)) (g || (acc || false)) W ∧ Dr.Kept b w W;rw [List.append_nil,Bool.or_false]
      exact ⟨_,rfl,h5.row.lin,by have := HLL.out; have := HLE.out; omega,hA,h5.kept⟩)
    clear hA4 hK4 hT4 hbad hr41 hRR hwp hwl hp hb hr0;generalize Dr.cp r = c at *;generalize Dr.wd r = n at *;go_wp2_with fail;refine KP.mono ?_;rintro x w5 ⟨rfl,hb5⟩;obtain ⟨d0,d1,d2⟩ := HAT.out w5 hb5;obtain ⟨W,hW,hfz,hAt,hKW,hz⟩ := HSET.out w5 hb5;have HE := Lib.hid (HE0.out w5 W hb5 hAt hKW);clear HE0 hb5 KP hAt hKW hz HAT HSET d2;go_wp2_with fail;go_ret;exact HE.out
  have hitem : r = [] ∨ (Dr.bad r = false ∧ ¬ Dr.cp r = 41) := by
   by_cases h0 : r = []
   · exact .inl h0
   · refine .inr ⟨?_,fun h => hstop ⟨h0,h⟩⟩;cases hq : Dr.bad r with
     | false => rfl
     | true => exact absurd ⟨h0,hq⟩ hbad
  obtain ⟨c,n,hcn,_,KP⟩ := Dr.peek_not b S r (g || acc) 41 w4 hA4 hitem hT4;have HDI := HIH.out (.datum r) (by have := HLL.out; have := HL1.out; show 2 * r.length < 2 * l.length + 1; omega) b S (g || acc);have KD := Lib.hid (fun w5 R2 (hb5 : Below w4.heap.size w4 w5) h2 => HDI w5 R2 (hA4.below hb5) HS.out (Utf8Tabs_below hT4 hb5) h2);have HINV := Lib.hid (Dr.it_inv H1.out (Dr.pk_true hitem) HR.out);clear hA4 hK4 hT4 hbad hstop hitem HDI;rcases hcn with rfl | ⟨hn0,hcb⟩;all_goals
   go_wp2_with fail;refine KP.mono ?_;rintro x w5 ⟨rfl,hb5⟩;have HS5 := Lib.hid (HS4.out.move (HS4.out.rd.below hb5) (Dr.Kept.of_below hb5));have KD1 := Lib.hid (fun R2 h2 => KD.out w5 R2 hb5 h2);clear KP hb5 KD HS4 HST;go_wp2_with fail;rcases HINV.out with ⟨h2,hRf⟩ | ⟨t,r2,big,R3,h2,hl2,h3,hRj⟩
   · refine (KD1.out _ h2).mono ?_;rintro x w6 ⟨rfl,hK6⟩;have HE := Lib.hid (show Dr.PostIt b S g w R Dr.dead w6 by
       rw [HJ.out,hRf]
       exact ⟨rfl,HS5.out.kept.trans hK6⟩)
     clear h2 hRf hK6 KD1 HINV;unfold Dr.dead at *;go_wp2_with fail;exact ⟨rfl,HE.out⟩
   · refine (KD1.out _ h2).mono ?_;rintro x w6 ⟨v,rfl,hI6,hA6,hK6⟩;obtain ⟨C6,rfl⟩ := Dr.in_agg hI6;obtain ⟨hf,lf,ar3,ar4,ar6,ar7,ar9,ar10,nr3,nr4,nr6,nr7,nr9,nr10,cr3,cr4,cr6,cr7,cr9,cr10,eC6,et6,_,_⟩ := Tr.In.form2 hI6;subst eC6;have H6 := Lib.hid (And.intro hI6 (And.intro hA6 hK6));have H3 := Lib.hid (And.intro h3 (And.intro hRj hl2));have hrow6 := (HS5.out.move hA6 hK6).row.1;obtain ⟨O,hO⟩ : ∃ z,Obj.cells (Tr.cells hf (.slice ar3 nr3 cr3) (.slice ar4 nr4 cr4) (.slice ar6 nr6 cr6) (.slice ar7 nr7 cr7) (.slice ar9 nr9 cr9) (.slice ar10 nr10 cr10)) 30 = z := ⟨_,rfl⟩;have hown6 : (w6.alloc O).ownsRow w.heap.size 30 11 (.slice oa k oc) k xs := by
      have := Dr.own_kept (w' := w6.alloc O) hrow6 (fun q _ hq => ((Below.refl w6.heap.size w6).alloc (Nat.le_refl _) O).block q hq);rwa [HK.out] at this
     have hkb : k ≤ 1048576 := by have := HS.out; have := HLL.out; have := HLE.out; have := HK.out; omega
     have hsz6 : w.heap.size ≤ (w6.alloc O).heap.size := by
      have h1 := (HS5.out.move hA6 hK6).kept.size;have h2 : (w6.alloc O).heap.size = w6.heap.size + 1 := by simp
      omega
     subst hO;unfold Tr.cells at *;have HOWN := Lib.hid hown6;have HSZ := Lib.hid hsz6;clear hI6 hA6 hK6 hrow6 h2 h3 hRj et6 KD1 HINV hl2 hown6 hsz6;go_wp2_with (at_builtin; refine Ls.wpList_append _ rfl _ _ 28 rfl w.heap.size 30 i0 Dr.zeroV 11 192 Tryz.underlying28 hi hz0 hz1 hz2 rfl (by decide) (.slice oa k oc) k xs (by rfl) HOWN.out (.slice (some ⟨w6.heap.size,0,none⟩) 1 1) 1 [.int .i64 hf.k,.int .i64 hf.n,.bool hf.s1,.slice ar3 nr3 cr3,.slice ar4 nr4 cr4,.bool hf.s2,.slice ar6 nr6 cr6,.slice ar7 nr7 cr7,.string hf.x,.slice ar9 nr9 cr9,.slice ar10 nr10 cr10] (by rfl) (.inr ⟨_,_,rfl,rfl,World.news_of_block (heap_alloc_new _ _)⟩) (by intro u hu; simp only [List.mem_cons,List.not_mem_nil,or_false] at hu; rcases hu with rfl | rfl | rfl | rfl | rfl | rfl | rfl | rfl | rfl | rfl | rfl <;> rfl) (by simp only [maxLen]; omega) (by omega) HSZ.out ?_);intro v7 w7 hown7 hgr7 hfr7;have HE := Lib.hid (show (∃ (l' : List UInt8) (acc : Bool) (ts : List Tr) (xs : List Value) (R' : Dr.Res),Dr.ItSt b S w l' (g || acc) w7 v7 ts xs ∧ Dr.Rel (.items 41 l') R' ∧ R = Dr.joinR ts acc R' ∧ ts.length + l'.length ≤ l.length) ∧ Dr.left b S w7 < Dr.left b S wr from by
       have hnx := HS5.out.next H6.out.1 H6.out.2.1 H6.out.2.2 (v' := v7) (by rw [HK.out]; exact hown7) hgr7 hfr7;refine ⟨⟨r2,acc || big,ts ++ [t],_,R3,by rw [← Bool.or_assoc]; exact hnx,H3.out.1,by rw [HJ.out,H3.out.2.1,Dr.joinR_snoc],?_⟩,?_⟩
       · have := HLL.out; have := HL1.out; have := H3.out.2.2;rw [List.length_append,List.length_singleton]; omega
       · rw [hnx.rd.left,HM.out]
         have := HL1.out; have := H3.out.2.2; omega)
     obtain ⟨a7,c7,rfl⟩ := Dr.own_slice hown7;clear hown7 hgr7 hfr7;go_wp2_with fail;exact HE.out
end Go.Proofs.YteklhapffplohaaGreatDoor
namespace Go.Proofs.YteklhapffplohaaGreatDoor
open Go.RowKit
end Go.Proofs.YteklhapffplohaaGreatDoor
namespace Go.Proofs.YteklhapffplohaaGreatDoor
open Go.RowKit
end Go.Proofs.YteklhapffplohaaGreatDoor
namespace Go.Proofs.YteklhapffplohaaGreatDoor
open Go.RowKit Go.Lib Go.Sort
end Go.Proofs.YteklhapffplohaaGreatDoor
