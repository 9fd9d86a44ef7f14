/-
  The law DatumSounds, walked.
-/
import Derived.Deep.RegionHeld3
import Derived.Outline
import Derived.Test.YteklhapffplohaaGreatDoorVzb
import Derived.Test.YteklhapffplohaaGreatDoorVs
set_option linter.unusedVariables false
set_option linter.unusedSimpArgs false
namespace Go.Proofs.YteklhapffplohaaGreatDoor
open Go.RowKit
set_option maxHeartbeats 4000000
set_option maxRecDepth 1000000
theorem Dl.sounds_walk (v : Value) (t : Tr) (s : ByteArray) (w : World) (h : Tr.In w (fun _ => True) t v) (htx : Tr.txt t) (hs : s.size ≤ 1048576) (hT : Tr.Tabs w) :
 Calls Tryz.prog 3 #[v,.string s] w fun e w' => e = .returned (.bool true) ∧ Below w.heap.size w w' := by
 obtain ⟨C,rfl⟩ := Dr.in_agg h
 obtain ⟨bS,hbS⟩ : ∃ z,Tr.sound t = z := ⟨_,rfl⟩
 have HT := Lib.hid hT
 have HAW := Lib.hid (fun w' (hb : Below w.heap.size w w') => Dr.awake_any w' (Utf8Tabs_below HT.out hb))
 have KS := Lib.hid (fun w' (hb : Below w.heap.size w w') => show Calls Tryz.prog 7 #[.agg C] w' (fun e w'' => e = .returned (.bool bS) ∧ Below w'.heap.size w' w'') from by
   rw [← hbS]; exact Tr.Sound_any t _ _ w' (Tr.In.below h hb (Nat.le_refl _)) (Utf8Tabs_below HT.out hb))
 have KT := Lib.hid (fun w' (hb : Below w.heap.size w w') => show Calls Tryz.prog 8 #[.agg C] w' (fun e w'' => e = .returned (.bool bS) ∧ Below w'.heap.size w' w'') from by
   rw [← hbS]; exact Rd.Sound_any t _ _ w' (Tr.In.below h hb (Nat.le_refl _)) (Utf8Tabs_below HT.out hb) htx)
 obtain ⟨hd,ld,da3,da4,da6,da7,da9,da10,dn3,dn4,dn6,dn7,dn9,dn10,dc3,dc4,dc6,dc7,dc9,dc10,eC,et,_,_⟩ := Tr.In.form2 h
 subst eC
 clear et
 unfold Tr.cells at *
 obtain ⟨W0,hW0⟩ : ∃ z,w.alloc (.cells #[.int .i64 hd.k,.int .i64 hd.n,.bool hd.s1,.slice da3 dn3 dc3,.slice da4 dn4 dc4,.bool hd.s2,.slice da6 dn6 dc6,.slice da7 dn7 dc7,.string hd.x,.slice da9 dn9 dc9,.slice da10 dn10 dc10] 30) = z := ⟨_,rfl⟩
 have hb0 : Below w.heap.size w W0 := by rw [← hW0]; exact (Below.refl _ _).alloc (Nat.le_refl _) _
 have hq0 : W0.heap[w.heap.size]? = some (.cells #[.int .i64 hd.k,.int .i64 hd.n,.bool hd.s1,.slice da3 dn3 dc3,.slice da4 dn4 dc4,.bool hd.s2,.slice da6 dn6 dc6,.slice da7 dn7 dc7,.string hd.x,.slice da9 dn9 dc9,.slice da10 dn10 dc10] 30 (0,0)) := by rw [← hW0]; exact heap_alloc_new w _
 have hz0 : W0.heap.size = w.heap.size + 1 := by rw [← hW0]; simp
 obtain ⟨A,hA⟩ := Dr.One.total s.data.toList
 have KR := Lib.hid (Dr.DRead_any s W0 A (Utf8Tabs_below HT.out hb0) hA)
 obtain ⟨A',hA'⟩ : ∃ z,Dr.cut s A = z := ⟨_,rfl⟩
 have HOK := Lib.hid (show (∃ x,A' = .err x ∧ (x = 18 ∨ x = 5 ∨ x = 11 ∨ x = 4)) ∨ ∃ t2 n,A' = .ok t2 n ∧ Tr.sound t2 = true ∧ Tr.txt t2 from by
   rw [← hA'];unfold Dr.cut;by_cases hl : 65536 < s.size
   · rw [if_pos hl]; exact .inl ⟨18,rfl,.inl rfl⟩
   · rw [if_neg hl];cases A with
     | err x => refine .inl ⟨x,rfl,.inr ?_⟩; cases hA <;> simp
     | ok t2 n => exact .inr ⟨t2,n,rfl,hA.ok_le.2.2,hA.txt (by rw [show s.data.toList.length = s.size by simp]; omega)⟩)
 rw [hA'] at KR
 have HB0 := Lib.hid hb0
 have HQ0 := Lib.hid hq0
 have HZ0 := Lib.hid hz0
 clear hT hA hA' hbS h htx hb0 hq0 hz0
 rcases HOK.out with ⟨x,rfl,hx⟩ | ⟨t2,n,rfl,hsd,htx2⟩
 · have hx1 : (x != 0) = true := by rcases hx with rfl | rfl | rfl | rfl <;> rfl
   have hx0 : (x == 0) = false := by rcases hx with rfl | rfl | rfl | rfl <;> rfl
   have hun : ∀ b : Bool,(undef = Value.bool b) = False := fun b => by unfold undef; simp
   have hun2 : ∀ b : Bool,¬ (undef = Value.bool b) := fun b => by unfold undef; simp
   clear hx;cases bS;all_goals
    go_enter Tryz.func3,Tryz.ntmps3;go_wp2_with fail;refine KR.out.mono ?_;rintro y w1 ⟨rfl,hb1⟩;unfold Dr.voidV;obtain ⟨w2,hw2⟩ : ∃ z,w1.alloc (.cells #[.int .i64 0,.int .i64 0,.bool false,.slice none 0 0,.slice none 0 0,.bool false,.slice none 0 0,.slice none 0 0,.string ⟨#[]⟩,.slice none 0 0,.slice none 0 0] 30) = z := ⟨_,rfl⟩;have hq2 : w2.heap[w1.heap.size]? = some (.cells #[.int .i64 0,.int .i64 0,.bool false,.slice none 0 0,.slice none 0 0,.bool false,.slice none 0 0,.slice none 0 0,.string ⟨#[]⟩,.slice none 0 0,.slice none 0 0] 30 (0,0)) := by rw [← hw2]; exact heap_alloc_new w1 _
    have hal2 : Below w1.heap.size w1 w2 := by rw [← hw2]; exact (Below.refl _ _).alloc (Nat.le_refl _) _
    have hz2 : w2.heap.size = w1.heap.size + 1 := by rw [← hw2]; simp
    have hb02 := hb1.trans (hal2.mono hb1.size);have hd2 : w2.heap[w.heap.size]? = _ := (hb02.block w.heap.size (by have := HZ0.out; omega)).trans HQ0.out;have HB2 := Lib.hid (HB0.out.trans (hb02.mono HB0.out.size));have HAL2 := Lib.hid hal2
    have HS : Hid (∀ w',Below w2.heap.size w2 w' → w'.cell? ⟨w.heap.size,0,none⟩ = some (Value.int .i64 hd.k) ∧ w'.cell? ⟨w.heap.size,1,none⟩ = some (Value.int .i64 hd.n) ∧ w'.cell? ⟨w.heap.size,2,none⟩ = some (Value.bool hd.s1) ∧ w'.cell? ⟨w.heap.size,3,none⟩ = some (Value.slice da3 dn3 dc3) ∧ w'.cell? ⟨w.heap.size,4,none⟩ = some (Value.slice da4 dn4 dc4) ∧ w'.cell? ⟨w.heap.size,5,none⟩ = some (Value.bool hd.s2) ∧ w'.cell? ⟨w.heap.size,6,none⟩ = some (Value.slice da6 dn6 dc6) ∧ w'.cell? ⟨w.heap.size,7,none⟩ = some (Value.slice da7 dn7 dc7) ∧ w'.cell? ⟨w.heap.size,8,none⟩ = some (Value.string hd.x) ∧ w'.cell? ⟨w.heap.size,9,none⟩ = some (Value.slice da9 dn9 dc9) ∧ w'.cell? ⟨w.heap.size,10,none⟩ = some (Value.slice da10 dn10 dc10) ∧ w'.cell? ⟨w1.heap.size,0,none⟩ = some (Value.int .i64 0) ∧ w'.cell? ⟨w1.heap.size,1,none⟩ = some (Value.int .i64 0) ∧ w'.cell? ⟨w1.heap.size,2,none⟩ = some (Value.bool false) ∧ w'.cell? ⟨w1.heap.size,3,none⟩ = some (Value.slice none 0 0) ∧ w'.cell? ⟨w1.heap.size,4,none⟩ = some (Value.slice none 0 0) ∧ w'.cell? ⟨w1.heap.size,5,none⟩ = some (Value.bool false) ∧ w'.cell? ⟨w1.heap.size,6,none⟩ = some (Value.slice none 0 0) ∧ w'.cell? ⟨w1.heap.size,7,none⟩ = some (Value.slice none 0 0) ∧ w'.cell? ⟨w1.heap.size,8,none⟩ = some (Value.string ⟨#[]⟩) ∧ w'.cell? ⟨w1.heap.size,9,none⟩ = some (Value.slice none 0 0) ∧ w'.cell? ⟨w1.heap.size,10,none⟩ = some (Value.slice none 0 0)) := Lib.hid (fun w' hb => by
      obtain ⟨e0,e1,e2,e3,e4,e5,e6,e7,e8,e9,e10⟩ := Dr.cells11 ((hb.block w.heap.size (Array.getElem?_eq_some_iff.1 hd2).1).trans hd2);obtain ⟨f0,f1,f2,f3,f4,f5,f6,f7,f8,f9,f10⟩ := Dr.cells11 ((hb.block w1.heap.size (Array.getElem?_eq_some_iff.1 hq2).1).trans hq2)
      exact ⟨e0,e1,e2,e3,e4,e5,e6,e7,e8,e9,e10,f0,f1,f2,f3,f4,f5,f6,f7,f8,f9,f10⟩)
    obtain ⟨⟨xa0,xa1,xa2,xa3,xa4,xa5,xa6,xa7,xa8,xa9,xa10⟩,xf0,xf1,xf2,xf3,xf4,xf5,xf6,xf7,xf8,xf9,xf10⟩ := Dr.same11 (B := w1.heap.size) hq2;obtain ⟨xc0,xc1,xc2,xc3,xc4,xc5,xc6,xc7,xc8,xc9,xc10⟩ := Dr.cells11 hq2;clear hb1 hq2 hal2 hb02 hd2 KR HOK;go_upto_region 2 with fail;clear xa0 xa1 xa2 xa3 xa4 xa5 xa6 xa7 xa8 xa9 xa10 xf0 xf1 xf2 xf3 xf4 xf5 xf6 xf7 xf8 xf9 xf10 xc0 xc1 xc2 xc3 xc4 xc5 xc6 xc7 xc8 xc9 xc10;have hacc : Below w2.heap.size w2 w2.drew := (Below.refl _ _).drew;have hkeep := HS.out _ hacc;obtain ⟨e0,e1,e2,e3,e4,e5,e6,e7,e8,e9,e10,f0,f1,f2,f3,f4,f5,f6,f7,f8,f9,f10⟩ := hkeep
    first | go_region_with (first
        | (go_at_call 6
           refine (HAW.out _ (HB2.out.trans (hacc.mono HB2.out.size))).mono ?_
           rintro z wA ⟨rfl,hby⟩
           have hacc := hacc.trans (hby.mono hacc.size)
           clear hby
           clear e0 e1 e2 e3 e4 e5 e6 e7 e8 e9 e10 f0 f1 f2 f3 f4 f5 f6 f7 f8 f9 f10
           obtain ⟨e0,e1,e2,e3,e4,e5,e6,e7,e8,e9,e10,f0,f1,f2,f3,f4,f5,f6,f7,f8,f9,f10⟩ := HS.out _ hacc)
        | (go_at_call_of 7 (Value.agg #[.int .i64 hd.k,.int .i64 hd.n,.bool hd.s1,.slice da3 dn3 dc3,.slice da4 dn4 dc4,.bool hd.s2,.slice da6 dn6 dc6,.slice da7 dn7 dc7,.string hd.x,.slice da9 dn9 dc9,.slice da10 dn10 dc10])
           refine (KS.out _ (HB2.out.trans (hacc.mono HB2.out.size))).mono ?_
           rintro z wA ⟨rfl,hby⟩
           have hacc := hacc.trans (hby.mono hacc.size)
           clear hby
           clear e0 e1 e2 e3 e4 e5 e6 e7 e8 e9 e10 f0 f1 f2 f3 f4 f5 f6 f7 f8 f9 f10
           obtain ⟨e0,e1,e2,e3,e4,e5,e6,e7,e8,e9,e10,f0,f1,f2,f3,f4,f5,f6,f7,f8,f9,f10⟩ := HS.out _ hacc)
        | (go_at_call_of 8 (Value.agg #[.int .i64 hd.k,.int .i64 hd.n,.bool hd.s1,.slice da3 dn3 dc3,.slice da4 dn4 dc4,.bool hd.s2,.slice da6 dn6 dc6,.slice da7 dn7 dc7,.string hd.x,.slice da9 dn9 dc9,.slice da10 dn10 dc10])
           refine (KT.out _ (HB2.out.trans (hacc.mono HB2.out.size))).mono ?_
           rintro z wA ⟨rfl,hby⟩
           have hacc := hacc.trans (hby.mono hacc.size)
           clear hby
           clear e0 e1 e2 e3 e4 e5 e6 e7 e8 e9 e10 f0 f1 f2 f3 f4 f5 f6 f7 f8 f9 f10
           obtain ⟨e0,e1,e2,e3,e4,e5,e6,e7,e8,e9,e10,f0,f1,f2,f3,f4,f5,f6,f7,f8,f9,f10⟩ := HS.out _ hacc)) | fail
    all_goals
     have HE := Lib.hid (HB2.out.trans (hacc.mono HB2.out.size));clear hacc;go_wp2_with fail;go_ret;exact ⟨by first | rfl | (simp; done),HE.out⟩
 · go_enter Tryz.func3,Tryz.ntmps3;go_wp2_with fail;refine KR.out.mono ?_;rintro y w1 ⟨v2,rfl,hI2,hb1⟩;obtain ⟨C2,rfl⟩ := Dr.in_agg hI2;have KS2 := Lib.hid (fun w' (hb : Below w1.heap.size w1 w') => show Calls Tryz.prog 7 #[.agg C2] w' (fun e w'' => e = .returned (.bool true) ∧ Below w'.heap.size w' w'') from by
     rw [← hsd]; exact Tr.Sound_any t2 _ _ w' (Tr.In.below hI2 hb (Nat.le_refl _)) (Utf8Tabs_below HT.out ((HB0.out.trans (hb1.mono HB0.out.size)).trans (hb.mono (HB0.out.trans (hb1.mono HB0.out.size)).size))))
   have KT2 := Lib.hid (fun w' (hb : Below w1.heap.size w1 w') => show Calls Tryz.prog 8 #[.agg C2] w' (fun e w'' => e = .returned (.bool true) ∧ Below w'.heap.size w' w'') from by
     rw [← hsd]; exact Rd.Sound_any t2 _ _ w' (Tr.In.below hI2 hb (Nat.le_refl _)) (Utf8Tabs_below HT.out ((HB0.out.trans (hb1.mono HB0.out.size)).trans (hb.mono (HB0.out.trans (hb1.mono HB0.out.size)).size))) htx2)
   obtain ⟨hp,lp,pa3,pa4,pa6,pa7,pa9,pa10,pn3,pn4,pn6,pn7,pn9,pn10,pc3,pc4,pc6,pc7,pc9,pc10,eC,et,_,_⟩ := Tr.In.form2 hI2;subst eC;clear et hI2 hsd htx2;unfold Tr.cells at *;obtain ⟨w2,hw2⟩ : ∃ z,w1.alloc (.cells #[.int .i64 hp.k,.int .i64 hp.n,.bool hp.s1,.slice pa3 pn3 pc3,.slice pa4 pn4 pc4,.bool hp.s2,.slice pa6 pn6 pc6,.slice pa7 pn7 pc7,.string hp.x,.slice pa9 pn9 pc9,.slice pa10 pn10 pc10] 30) = z := ⟨_,rfl⟩;have hq2 : w2.heap[w1.heap.size]? = some (.cells #[.int .i64 hp.k,.int .i64 hp.n,.bool hp.s1,.slice pa3 pn3 pc3,.slice pa4 pn4 pc4,.bool hp.s2,.slice pa6 pn6 pc6,.slice pa7 pn7 pc7,.string hp.x,.slice pa9 pn9 pc9,.slice pa10 pn10 pc10] 30 (0,0)) := by rw [← hw2]; exact heap_alloc_new w1 _
   have hal2 : Below w1.heap.size w1 w2 := by rw [← hw2]; exact (Below.refl _ _).alloc (Nat.le_refl _) _
   have hz2 : w2.heap.size = w1.heap.size + 1 := by rw [← hw2]; simp
   have hb02 := hb1.trans (hal2.mono hb1.size);have hd2 : w2.heap[w.heap.size]? = _ := (hb02.block w.heap.size (by have := HZ0.out; omega)).trans HQ0.out;have HB2 := Lib.hid (HB0.out.trans (hb02.mono HB0.out.size));have HAL2 := Lib.hid hal2
   have HS : Hid (∀ w',Below w2.heap.size w2 w' → w'.cell? ⟨w.heap.size,0,none⟩ = some (Value.int .i64 hd.k) ∧ w'.cell? ⟨w.heap.size,1,none⟩ = some (Value.int .i64 hd.n) ∧ w'.cell? ⟨w.heap.size,2,none⟩ = some (Value.bool hd.s1) ∧ w'.cell? ⟨w.heap.size,3,none⟩ = some (Value.slice da3 dn3 dc3) ∧ w'.cell? ⟨w.heap.size,4,none⟩ = some (Value.slice da4 dn4 dc4) ∧ w'.cell? ⟨w.heap.size,5,none⟩ = some (Value.bool hd.s2) ∧ w'.cell? ⟨w.heap.size,6,none⟩ = some (Value.slice da6 dn6 dc6) ∧ w'.cell? ⟨w.heap.size,7,none⟩ = some (Value.slice da7 dn7 dc7) ∧ w'.cell? ⟨w.heap.size,8,none⟩ = some (Value.string hd.x) ∧ w'.cell? ⟨w.heap.size,9,none⟩ = some (Value.slice da9 dn9 dc9) ∧ w'.cell? ⟨w.heap.size,10,none⟩ = some (Value.slice da10 dn10 dc10) ∧ w'.cell? ⟨w1.heap.size,0,none⟩ = some (Value.int .i64 hp.k) ∧ w'.cell? ⟨w1.heap.size,1,none⟩ = some (Value.int .i64 hp.n) ∧ w'.cell? ⟨w1.heap.size,2,none⟩ = some (Value.bool hp.s1) ∧ w'.cell? ⟨w1.heap.size,3,none⟩ = some (Value.slice pa3 pn3 pc3) ∧ w'.cell? ⟨w1.heap.size,4,none⟩ = some (Value.slice pa4 pn4 pc4) ∧ w'.cell? ⟨w1.heap.size,5,none⟩ = some (Value.bool hp.s2) ∧ w'.cell? ⟨w1.heap.size,6,none⟩ = some (Value.slice pa6 pn6 pc6) ∧ w'.cell? ⟨w1.heap.size,7,none⟩ = some (Value.slice pa7 pn7 pc7) ∧ w'.cell? ⟨w1.heap.size,8,none⟩ = some (Value.string hp.x) ∧ w'.cell? ⟨w1.heap.size,9,none⟩ = some (Value.slice pa9 pn9 pc9) ∧ w'.cell? ⟨w1.heap.size,10,none⟩ = some (Value.slice pa10 pn10 pc10)) := Lib.hid (fun w' hb => by
     obtain ⟨e0,e1,e2,e3,e4,e5,e6,e7,e8,e9,e10⟩ := Dr.cells11 ((hb.block w.heap.size (Array.getElem?_eq_some_iff.1 hd2).1).trans hd2);obtain ⟨f0,f1,f2,f3,f4,f5,f6,f7,f8,f9,f10⟩ := Dr.cells11 ((hb.block w1.heap.size (Array.getElem?_eq_some_iff.1 hq2).1).trans hq2)
     exact ⟨e0,e1,e2,e3,e4,e5,e6,e7,e8,e9,e10,f0,f1,f2,f3,f4,f5,f6,f7,f8,f9,f10⟩)
   clear hb1 hq2 hal2 hb02 hd2 KR HOK;go_upto_region 2 with fail;have hacc : Below w2.heap.size w2 w2.drew := (Below.refl _ _).drew;have hkeep := HS.out _ hacc
   go_region_held3 (fun w' => w'.cell? ⟨w.heap.size,0,none⟩ = some (Value.int .i64 hd.k) ∧ w'.cell? ⟨w.heap.size,1,none⟩ = some (Value.int .i64 hd.n) ∧ w'.cell? ⟨w.heap.size,2,none⟩ = some (Value.bool hd.s1) ∧ w'.cell? ⟨w.heap.size,3,none⟩ = some (Value.slice da3 dn3 dc3) ∧ w'.cell? ⟨w.heap.size,4,none⟩ = some (Value.slice da4 dn4 dc4) ∧ w'.cell? ⟨w.heap.size,5,none⟩ = some (Value.bool hd.s2) ∧ w'.cell? ⟨w.heap.size,6,none⟩ = some (Value.slice da6 dn6 dc6) ∧ w'.cell? ⟨w.heap.size,7,none⟩ = some (Value.slice da7 dn7 dc7) ∧ w'.cell? ⟨w.heap.size,8,none⟩ = some (Value.string hd.x) ∧ w'.cell? ⟨w.heap.size,9,none⟩ = some (Value.slice da9 dn9 dc9) ∧ w'.cell? ⟨w.heap.size,10,none⟩ = some (Value.slice da10 dn10 dc10) ∧ w'.cell? ⟨w1.heap.size,0,none⟩ = some (Value.int .i64 hp.k) ∧ w'.cell? ⟨w1.heap.size,1,none⟩ = some (Value.int .i64 hp.n) ∧ w'.cell? ⟨w1.heap.size,2,none⟩ = some (Value.bool hp.s1) ∧ w'.cell? ⟨w1.heap.size,3,none⟩ = some (Value.slice pa3 pn3 pc3) ∧ w'.cell? ⟨w1.heap.size,4,none⟩ = some (Value.slice pa4 pn4 pc4) ∧ w'.cell? ⟨w1.heap.size,5,none⟩ = some (Value.bool hp.s2) ∧ w'.cell? ⟨w1.heap.size,6,none⟩ = some (Value.slice pa6 pn6 pc6) ∧ w'.cell? ⟨w1.heap.size,7,none⟩ = some (Value.slice pa7 pn7 pc7) ∧ w'.cell? ⟨w1.heap.size,8,none⟩ = some (Value.string hp.x) ∧ w'.cell? ⟨w1.heap.size,9,none⟩ = some (Value.slice pa9 pn9 pc9) ∧ w'.cell? ⟨w1.heap.size,10,none⟩ = some (Value.slice pa10 pn10 pc10))
    (exact hkeep)
    (first
      | (go_at_call 6
         refine (HAW.out _ (HB2.out.trans (hacc.mono HB2.out.size))).mono ?_
         rintro z wA ⟨rfl,hby⟩
         have hacc := hacc.trans (hby.mono hacc.size)
         clear hby
         have hkeep := HS.out _ hacc)
      | (go_at_call_of 7 (Value.agg #[.int .i64 hd.k,.int .i64 hd.n,.bool hd.s1,.slice da3 dn3 dc3,.slice da4 dn4 dc4,.bool hd.s2,.slice da6 dn6 dc6,.slice da7 dn7 dc7,.string hd.x,.slice da9 dn9 dc9,.slice da10 dn10 dc10])
         refine (KS.out _ (HB2.out.trans (hacc.mono HB2.out.size))).mono ?_
         rintro z wA ⟨rfl,hby⟩
         have hacc := hacc.trans (hby.mono hacc.size)
         clear hby
         have hkeep := HS.out _ hacc)
      | (go_at_call_of 8 (Value.agg #[.int .i64 hd.k,.int .i64 hd.n,.bool hd.s1,.slice da3 dn3 dc3,.slice da4 dn4 dc4,.bool hd.s2,.slice da6 dn6 dc6,.slice da7 dn7 dc7,.string hd.x,.slice da9 dn9 dc9,.slice da10 dn10 dc10])
         refine (KT.out _ (HB2.out.trans (hacc.mono HB2.out.size))).mono ?_
         rintro z wA ⟨rfl,hby⟩
         have hacc := hacc.trans (hby.mono hacc.size)
         clear hby
         have hkeep := HS.out _ hacc)
      | (go_at_call_of 7 (Value.agg #[.int .i64 hp.k,.int .i64 hp.n,.bool hp.s1,.slice pa3 pn3 pc3,.slice pa4 pn4 pc4,.bool hp.s2,.slice pa6 pn6 pc6,.slice pa7 pn7 pc7,.string hp.x,.slice pa9 pn9 pc9,.slice pa10 pn10 pc10])
         refine (KS2.out _ (HAL2.out.trans (hacc.mono HAL2.out.size))).mono ?_
         rintro z wA ⟨rfl,hby⟩
         have hacc := hacc.trans (hby.mono hacc.size)
         clear hby
         have hkeep := HS.out _ hacc)
      | (go_at_call_of 8 (Value.agg #[.int .i64 hp.k,.int .i64 hp.n,.bool hp.s1,.slice pa3 pn3 pc3,.slice pa4 pn4 pc4,.bool hp.s2,.slice pa6 pn6 pc6,.slice pa7 pn7 pc7,.string hp.x,.slice pa9 pn9 pc9,.slice pa10 pn10 pc10])
         refine (KT2.out _ (HAL2.out.trans (hacc.mono HAL2.out.size))).mono ?_
         rintro z wA ⟨rfl,hby⟩
         have hacc := hacc.trans (hby.mono hacc.size)
         clear hby
         have hkeep := HS.out _ hacc))
   all_goals
    have HE := Lib.hid (HB2.out.trans (hacc.mono HB2.out.size));clear hkeep hacc;go_wp2_with fail;go_ret;exact ⟨by first | rfl | (simp; done),HE.out⟩
end Go.Proofs.YteklhapffplohaaGreatDoor
