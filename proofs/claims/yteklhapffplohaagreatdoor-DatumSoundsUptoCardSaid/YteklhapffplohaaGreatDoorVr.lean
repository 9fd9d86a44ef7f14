/-
  The reference's shape of a node of kind 2. The reference's shape of a node of kind 3. The reference's shape of a node of kind 4.
-/
import Derived.Test.YteklhapffplohaaGreatDoorVq
set_option linter.unusedVariables false
set_option linter.unusedSimpArgs false
namespace Go.Proofs.YteklhapffplohaaGreatDoor
open Go.RowKit
set_option maxHeartbeats 1000000
set_option maxRecDepth 1000000
theorem Rd.shape2 (N : Int) (s1 s2 : Bool) (t1 b1 t2 b2 : List Nat) (x raw : ByteArray) (n : Nat) (a3 a4 a6 a7 a9 a10 : Option Addr) (c3 c4 c6 c7 c9 c10 : Nat) (w : World) (hx : x.size ≤ 1048576)
 (i3 : Nt.In w (.slice a3 t1.length c3) t1) (i4 : Nt.In w (.slice a4 b1.length c4) b1) (i6 : Nt.In w (.slice a6 t2.length c6) t2) (i7 : Nt.In w (.slice a7 b2.length c7) b2) (ok1 : Rt.GOk t1 b1) (ok2 : Rt.GOk t2 b2) :
 Calls Tryz.prog 23 #[.agg #[.int .i64 2,.int .i64 N,.bool s1,.slice a3 t1.length c3,.slice a4 b1.length c4,.bool s2,.slice a6 t2.length c6,.slice a7 b2.length c7,.string x,.slice a9 raw.size c9,.slice a10 n c10]] w fun e w' => e = .returned (.bool (Tr.Hd.shape ⟨2,N,s1,t1,b1,s2,t2,b2,x,raw⟩ n)) ∧ Below w.heap.size w w' := by
 obtain ⟨R,hR⟩ : ∃ z,z = Tr.Hd.shape ⟨2,N,s1,t1,b1,s2,t2,b2,x,raw⟩ n := ⟨_,rfl⟩
 rw [← hR]
 have HR := Lib.hid hR
 have hb0 : Below w.heap.size w (w.alloc (.cells #[.int .i64 2,.int .i64 N,.bool s1,.slice a3 t1.length c3,.slice a4 b1.length c4,.bool s2,.slice a6 t2.length c6,.slice a7 b2.length c7,.string x,.slice a9 raw.size c9,.slice a10 n c10] 30)) := (Below.refl _ _).alloc (Nat.le_refl _) _
 have hq0 : (w.alloc (.cells #[.int .i64 2,.int .i64 N,.bool s1,.slice a3 t1.length c3,.slice a4 b1.length c4,.bool s2,.slice a6 t2.length c6,.slice a7 b2.length c7,.string x,.slice a9 raw.size c9,.slice a10 n c10] 30)).heap[w.heap.size]? = some (.cells #[.int .i64 2,.int .i64 N,.bool s1,.slice a3 t1.length c3,.slice a4 b1.length c4,.bool s2,.slice a6 t2.length c6,.slice a7 b2.length c7,.string x,.slice a9 raw.size c9,.slice a10 n c10] 30 (0,0)) := heap_alloc_new w _
 have hz0 : (w.alloc (.cells #[.int .i64 2,.int .i64 N,.bool s1,.slice a3 t1.length c3,.slice a4 b1.length c4,.bool s2,.slice a6 t2.length c6,.slice a7 b2.length c7,.string x,.slice a9 raw.size c9,.slice a10 n c10] 30)).heap.size = w.heap.size + 1 := by simp
 have HF : Hid (∀ w',Below (w.heap.size + 1) (w.alloc (.cells #[.int .i64 2,.int .i64 N,.bool s1,.slice a3 t1.length c3,.slice a4 b1.length c4,.bool s2,.slice a6 t2.length c6,.slice a7 b2.length c7,.string x,.slice a9 raw.size c9,.slice a10 n c10] 30)) w' → (∀ j,w'.cell? ⟨w.heap.size,j,none⟩ = (#[.int .i64 2,.int .i64 N,.bool s1,.slice a3 t1.length c3,.slice a4 b1.length c4,.bool s2,.slice a6 t2.length c6,.slice a7 b2.length c7,.string x,.slice a9 raw.size c9,.slice a10 n c10] : Array Value)[j]?) ∧ Below w.heap.size w w') := Lib.hid (fun w' hb => by
   have a0 := (hb.block w.heap.size (Nat.lt_succ_self _)).trans hq0
   exact ⟨fun j => by simp [World.cell?,a0],hb0.trans (hb.mono (Nat.le_succ _))⟩)
 have KV := Ru.valid_any x (w.alloc (.cells #[.int .i64 2,.int .i64 N,.bool s1,.slice a3 t1.length c3,.slice a4 b1.length c4,.bool s2,.slice a6 t2.length c6,.slice a7 b2.length c7,.string x,.slice a9 raw.size c9,.slice a10 n c10] 30)) (by omega)
 rw [hz0] at KV
 have HK1 := Lib.hid (fun w' (hb : Below w.heap.size w w') => Rn.noRat_any s1 t1 b1 _ _ w' (i3.below hb (Nat.le_refl _)) (i4.below hb (Nat.le_refl _)) ok1.l1 ok1.l2)
 have HK2 := Lib.hid (fun w' (hb : Below w.heap.size w w') => Rn.noRat_any s2 t2 b2 _ _ w' (i6.below hb (Nat.le_refl _)) (i7.below hb (Nat.le_refl _)) ok2.l1 ok2.l2)
 clear hb0 hq0 hz0 hR i3 i4 i6 i7 ok1 ok2 hx
 cases hV : Lib.validD x.data.toList
 all_goals
  rw [hV] at KV
  go_enter Tryz.func23,Tryz.ntmps23
  go_wp2_with fail
  refine KV.mono ?_
  rintro z w1 ⟨rfl,hb1⟩
  obtain ⟨d,hbw1⟩ := HF.out w1 hb1
  have d0 := d 0
  have d2 := d 2
  have d3 := d 3
  have d4 := d 4
  have d5 := d 5
  have d6 := d 6
  have d7 := d 7
  have HB1 := Lib.hid (And.intro hb1 hbw1)
  clear hb1 hbw1 d KV
 · have hans : R = false := by
    rw [HR.out];simp [Tr.Hd.shape,Tr.Hd.num,Tr.isText,Tr.own,hV]
   have HANS := Lib.hid hans;clear hans;go_wp2_with fail;go_ret;exact ⟨by rw [HANS.out]; rfl,HB1.out.2⟩
 · cases hS1 : Rt.noRat s1 t1 b1;all_goals
    have KN := HK1.out w1 HB1.out.2;rw [hS1] at KN;go_wp2_with fail;refine KN.mono ?_;rintro z w2 ⟨rfl,hb2⟩;have hb2' := HB1.out.1.trans (hb2.mono (by have := HB1.out.1.size; simp at this; omega));obtain ⟨d,hbw2⟩ := HF.out w2 hb2';clear d0 d2 d3 d4 d5 d6 d7;have d0 := d 0;have d2 := d 2;have d5 := d 5;have d6 := d 6;have d7 := d 7;have HB2 := Lib.hid (And.intro hb2' hbw2);clear hb2 hb2' hbw2 d;clear KN
   · have hans : R = false := by
      rw [HR.out];simp [Tr.Hd.shape,Tr.Hd.num,Tr.isText,Tr.own,hV,hS1]
     have HANS := Lib.hid hans;clear hans;go_wp2_with fail;go_ret;exact ⟨by rw [HANS.out]; rfl,HB2.out.2⟩
   · cases hS2 : Rt.noRat s2 t2 b2;all_goals
      have KN := HK2.out w2 HB2.out.2;rw [hS2] at KN;go_wp2_with fail;refine KN.mono ?_;rintro z w3 ⟨rfl,hb3⟩;have hb3' := HB2.out.1.trans (hb3.mono (by have := HB2.out.1.size; simp at this; omega));obtain ⟨d,hbw3⟩ := HF.out w3 hb3';clear d0 d2 d5 d6 d7;have d0 := d 0;have d1 := d 1;have d8 := d 8;have d9 := d 9;have d10 := d 10;have HB3 := Lib.hid (And.intro hb3' hbw3);clear hb3 hb3' hbw3 d;clear KN
     · have hans : R = false := by
        rw [HR.out];simp [Tr.Hd.shape,Tr.Hd.num,Tr.isText,Tr.own,hV,hS1,hS2]
       have HANS := Lib.hid hans;clear hans;go_wp2_with fail;go_ret;exact ⟨by rw [HANS.out]; rfl,HB3.out.2⟩
     · by_cases hxz : x.size = 0
       · have hxl : x.toList = [] := (Rd.empty x).2 hxz;by_cases hr : raw.size = 0
         · have hr0 : ¬ 0 < raw.size := by omega
           have hrI : ¬ (raw.size : Int) > 0 := by omega
           by_cases hN : N = 0
           · subst hN;by_cases hn : n = 0
             · have hnI : ((n : Int) == 0) = true := by subst hn; rfl
               have hans : R = true := by
                rw [HR.out];simp [Tr.Hd.shape,Tr.Hd.num,Tr.isText,Tr.own,hV,hS1,hS2,hxz,hr,hn]
               have HANS := Lib.hid hans;clear hans;go_wp2_with fail;go_ret;exact ⟨by rw [HANS.out]; rfl,HB3.out.2⟩
             · have hnI : ((n : Int) == 0) = false := beq_eq_false_iff_ne.2 (by omega);have hans : R = false := by
                rw [HR.out];simp [Tr.Hd.shape,Tr.Hd.num,Tr.isText,Tr.own,hV,hS1,hS2,hxz,hr,hn]
               have HANS := Lib.hid hans;clear hans;go_wp2_with fail;go_ret;exact ⟨by rw [HANS.out]; rfl,HB3.out.2⟩
           · by_cases hN1 : N = 1
             · subst hN1;by_cases hn : n = 0
               · have hnI : ((n : Int) == 0) = true := by subst hn; rfl
                 have hans : R = true := by
                  rw [HR.out];simp [Tr.Hd.shape,Tr.Hd.num,Tr.isText,Tr.own,hV,hS1,hS2,hxz,hr,hn]
                 have HANS := Lib.hid hans;clear hans;go_wp2_with fail;go_ret;exact ⟨by rw [HANS.out]; rfl,HB3.out.2⟩
               · have hnI : ((n : Int) == 0) = false := beq_eq_false_iff_ne.2 (by omega);have hans : R = false := by
                  rw [HR.out];simp [Tr.Hd.shape,Tr.Hd.num,Tr.isText,Tr.own,hV,hS1,hS2,hxz,hr,hn]
                 have HANS := Lib.hid hans;clear hans;go_wp2_with fail;go_ret;exact ⟨by rw [HANS.out]; rfl,HB3.out.2⟩
             · have hNI : (N != 0) = true := by simpa using hN
               have hNJ : (N != 1) = true := by simpa using hN1
               have hans : R = false := by
                rw [HR.out];simp [Tr.Hd.shape,Tr.Hd.num,Tr.isText,Tr.own,hV,hS1,hS2,hxz,hr,hN,hN1]
               have HANS := Lib.hid hans;clear hans;go_wp2_with fail;go_ret;exact ⟨by rw [HANS.out]; rfl,HB3.out.2⟩
         · have hr0 : 0 < raw.size := by omega
           have hrI : (raw.size : Int) > 0 := by omega
           have hans : R = false := by
            rw [HR.out];simp [Tr.Hd.shape,Tr.Hd.num,Tr.isText,Tr.own,hV,hS1,hS2,hxz,hr]
           have HANS := Lib.hid hans;clear hans;go_wp2_with fail;go_ret;exact ⟨by rw [HANS.out]; rfl,HB3.out.2⟩
       · have hxl : ¬ x.toList = [] := fun e => hxz ((Rd.empty x).1 e);have hxe : x.toList.isEmpty = false := by cases hh : x.toList with | nil => exact absurd hh hxl | cons a r => rfl
         have hans : R = false := by
          rw [HR.out];simp [Tr.Hd.shape,Tr.Hd.num,Tr.isText,Tr.own,hV,hS1,hS2,hxz]
         have HANS := Lib.hid hans;clear hans;go_wp2_with fail;go_ret;exact ⟨by rw [HANS.out]; rfl,HB3.out.2⟩
theorem Rd.shape3 (N : Int) (s1 s2 : Bool) (t1 b1 t2 b2 : List Nat) (x raw : ByteArray) (n : Nat) (a3 a4 a6 a7 a9 a10 : Option Addr) (c3 c4 c6 c7 c9 c10 : Nat) (w : World) (hx : x.size ≤ 1048576)
 (i3 : Nt.In w (.slice a3 t1.length c3) t1) (i4 : Nt.In w (.slice a4 b1.length c4) b1) (i6 : Nt.In w (.slice a6 t2.length c6) t2) (i7 : Nt.In w (.slice a7 b2.length c7) b2) (ok1 : Rt.GOk t1 b1) (ok2 : Rt.GOk t2 b2) :
 Calls Tryz.prog 23 #[.agg #[.int .i64 3,.int .i64 N,.bool s1,.slice a3 t1.length c3,.slice a4 b1.length c4,.bool s2,.slice a6 t2.length c6,.slice a7 b2.length c7,.string x,.slice a9 raw.size c9,.slice a10 n c10]] w fun e w' => e = .returned (.bool (Tr.Hd.shape ⟨3,N,s1,t1,b1,s2,t2,b2,x,raw⟩ n)) ∧ Below w.heap.size w w' := by
 obtain ⟨R,hR⟩ : ∃ z,z = Tr.Hd.shape ⟨3,N,s1,t1,b1,s2,t2,b2,x,raw⟩ n := ⟨_,rfl⟩
 rw [← hR]
 have HR := Lib.hid hR
 have hb0 : Below w.heap.size w (w.alloc (.cells #[.int .i64 3,.int .i64 N,.bool s1,.slice a3 t1.length c3,.slice a4 b1.length c4,.bool s2,.slice a6 t2.length c6,.slice a7 b2.length c7,.string x,.slice a9 raw.size c9,.slice a10 n c10] 30)) := (Below.refl _ _).alloc (Nat.le_refl _) _
 have hq0 : (w.alloc (.cells #[.int .i64 3,.int .i64 N,.bool s1,.slice a3 t1.length c3,.slice a4 b1.length c4,.bool s2,.slice a6 t2.length c6,.slice a7 b2.length c7,.string x,.slice a9 raw.size c9,.slice a10 n c10] 30)).heap[w.heap.size]? = some (.cells #[.int .i64 3,.int .i64 N,.bool s1,.slice a3 t1.length c3,.slice a4 b1.length c4,.bool s2,.slice a6 t2.length c6,.slice a7 b2.length c7,.string x,.slice a9 raw.size c9,.slice a10 n c10] 30 (0,0)) := heap_alloc_new w _
 have hz0 : (w.alloc (.cells #[.int .i64 3,.int .i64 N,.bool s1,.slice a3 t1.length c3,.slice a4 b1.length c4,.bool s2,.slice a6 t2.length c6,.slice a7 b2.length c7,.string x,.slice a9 raw.size c9,.slice a10 n c10] 30)).heap.size = w.heap.size + 1 := by simp
 have HF : Hid (∀ w',Below (w.heap.size + 1) (w.alloc (.cells #[.int .i64 3,.int .i64 N,.bool s1,.slice a3 t1.length c3,.slice a4 b1.length c4,.bool s2,.slice a6 t2.length c6,.slice a7 b2.length c7,.string x,.slice a9 raw.size c9,.slice a10 n c10] 30)) w' → (∀ j,w'.cell? ⟨w.heap.size,j,none⟩ = (#[.int .i64 3,.int .i64 N,.bool s1,.slice a3 t1.length c3,.slice a4 b1.length c4,.bool s2,.slice a6 t2.length c6,.slice a7 b2.length c7,.string x,.slice a9 raw.size c9,.slice a10 n c10] : Array Value)[j]?) ∧ Below w.heap.size w w') := Lib.hid (fun w' hb => by
   have a0 := (hb.block w.heap.size (Nat.lt_succ_self _)).trans hq0
   exact ⟨fun j => by simp [World.cell?,a0],hb0.trans (hb.mono (Nat.le_succ _))⟩)
 have KV := Ru.valid_any x (w.alloc (.cells #[.int .i64 3,.int .i64 N,.bool s1,.slice a3 t1.length c3,.slice a4 b1.length c4,.bool s2,.slice a6 t2.length c6,.slice a7 b2.length c7,.string x,.slice a9 raw.size c9,.slice a10 n c10] 30)) (by omega)
 rw [hz0] at KV
 have HKN := Lib.hid (fun w' (hb : Below w.heap.size w w') => Rn.SoundN_any s1 s2 t1 b1 t2 b2 _ _ _ _ w' (i3.below hb (Nat.le_refl _)) (i4.below hb (Nat.le_refl _)) (i6.below hb (Nat.le_refl _)) (i7.below hb (Nat.le_refl _)) ok1 ok2)
 clear hb0 hq0 hz0 hR i3 i4 i6 i7 ok1 ok2 hx
 cases hV : Lib.validD x.data.toList
 all_goals
  rw [hV] at KV
  go_enter Tryz.func23,Tryz.ntmps23
  go_wp2_with fail
  refine KV.mono ?_
  rintro z w1 ⟨rfl,hb1⟩
  obtain ⟨d,hbw1⟩ := HF.out w1 hb1
  have d0 := d 0
  have d2 := d 2
  have d3 := d 3
  have d4 := d 4
  have d5 := d 5
  have d6 := d 6
  have d7 := d 7
  have HB1 := Lib.hid (And.intro hb1 hbw1)
  clear hb1 hbw1 d KV
 · have hans : R = false := by
    rw [HR.out];simp [Tr.Hd.shape,Tr.Hd.num,Tr.isText,Tr.own,hV]
   have HANS := Lib.hid hans;clear hans;go_wp2_with fail;go_ret;exact ⟨by rw [HANS.out]; rfl,HB1.out.2⟩
 · cases hS : (Rt.sound s1 t1 b1 && Rt.sound s2 t2 b2);all_goals
    have KN := HKN.out w1 HB1.out.2;rw [hS] at KN;go_wp2_with fail;refine KN.mono ?_;rintro z w2 ⟨rfl,hb2⟩;have hb2' := HB1.out.1.trans (hb2.mono (by have := HB1.out.1.size; simp at this; omega));obtain ⟨d,hbw2⟩ := HF.out w2 hb2';clear d0 d2 d3 d4 d5 d6 d7;have d0 := d 0;have d1 := d 1;have d8 := d 8;have d9 := d 9;have d10 := d 10;have HB2 := Lib.hid (And.intro hb2' hbw2);clear hb2 hb2' hbw2 d;clear KN
   · have hans : R = false := by
      rw [HR.out];simp [Tr.Hd.shape,Tr.Hd.num,Tr.isText,Tr.own,hV,hS]
     have HANS := Lib.hid hans;clear hans;go_wp2_with fail;go_ret;exact ⟨by rw [HANS.out]; rfl,HB2.out.2⟩
   · by_cases hxz : x.size = 0
     · have hxl : x.toList = [] := (Rd.empty x).2 hxz;by_cases hr : raw.size = 0
       · have hr0 : ¬ 0 < raw.size := by omega
         have hrI : ¬ (raw.size : Int) > 0 := by omega
         by_cases hN : N = 0
         · subst hN;by_cases hn : n = 0
           · have hnI : ((n : Int) == 0) = true := by subst hn; rfl
             have hans : R = true := by
              rw [HR.out];simp [Tr.Hd.shape,Tr.Hd.num,Tr.isText,Tr.own,hV,hS,hxz,hr,hn]
             have HANS := Lib.hid hans;clear hans;go_wp2_with fail;go_ret;exact ⟨by rw [HANS.out]; rfl,HB2.out.2⟩
           · have hnI : ((n : Int) == 0) = false := beq_eq_false_iff_ne.2 (by omega);have hans : R = false := by
              rw [HR.out];simp [Tr.Hd.shape,Tr.Hd.num,Tr.isText,Tr.own,hV,hS,hxz,hr,hn]
             have HANS := Lib.hid hans;clear hans;go_wp2_with fail;go_ret;exact ⟨by rw [HANS.out]; rfl,HB2.out.2⟩
         · have hNI : (N != 0) = true := by simpa using hN
           have hans : R = false := by
            rw [HR.out];simp [Tr.Hd.shape,Tr.Hd.num,Tr.isText,Tr.own,hV,hS,hxz,hr,hN]
           have HANS := Lib.hid hans;clear hans;go_wp2_with fail;go_ret;exact ⟨by rw [HANS.out]; rfl,HB2.out.2⟩
       · have hr0 : 0 < raw.size := by omega
         have hrI : (raw.size : Int) > 0 := by omega
         have hans : R = false := by
          rw [HR.out];simp [Tr.Hd.shape,Tr.Hd.num,Tr.isText,Tr.own,hV,hS,hxz,hr]
         have HANS := Lib.hid hans;clear hans;go_wp2_with fail;go_ret;exact ⟨by rw [HANS.out]; rfl,HB2.out.2⟩
     · have hxl : ¬ x.toList = [] := fun e => hxz ((Rd.empty x).1 e);have hxe : x.toList.isEmpty = false := by cases hh : x.toList with | nil => exact absurd hh hxl | cons a r => rfl
       have hans : R = false := by
        rw [HR.out];simp [Tr.Hd.shape,Tr.Hd.num,Tr.isText,Tr.own,hV,hS,hxz]
       have HANS := Lib.hid hans;clear hans;go_wp2_with fail;go_ret;exact ⟨by rw [HANS.out]; rfl,HB2.out.2⟩
theorem Rd.shape4 (N : Int) (s1 s2 : Bool) (t1 b1 t2 b2 : List Nat) (x raw : ByteArray) (n : Nat) (a3 a4 a6 a7 a9 a10 : Option Addr) (c3 c4 c6 c7 c9 c10 : Nat) (w : World) (hx : x.size ≤ 1048576)
 (i3 : Nt.In w (.slice a3 t1.length c3) t1) (i4 : Nt.In w (.slice a4 b1.length c4) b1) (i6 : Nt.In w (.slice a6 t2.length c6) t2) (i7 : Nt.In w (.slice a7 b2.length c7) b2) (ok1 : Rt.GOk t1 b1) (ok2 : Rt.GOk t2 b2) :
 Calls Tryz.prog 23 #[.agg #[.int .i64 4,.int .i64 N,.bool s1,.slice a3 t1.length c3,.slice a4 b1.length c4,.bool s2,.slice a6 t2.length c6,.slice a7 b2.length c7,.string x,.slice a9 raw.size c9,.slice a10 n c10]] w fun e w' => e = .returned (.bool (Tr.Hd.shape ⟨4,N,s1,t1,b1,s2,t2,b2,x,raw⟩ n)) ∧ Below w.heap.size w w' := by
 obtain ⟨R,hR⟩ : ∃ z,z = Tr.Hd.shape ⟨4,N,s1,t1,b1,s2,t2,b2,x,raw⟩ n := ⟨_,rfl⟩
 rw [← hR]
 have HR := Lib.hid hR
 have hb0 : Below w.heap.size w (w.alloc (.cells #[.int .i64 4,.int .i64 N,.bool s1,.slice a3 t1.length c3,.slice a4 b1.length c4,.bool s2,.slice a6 t2.length c6,.slice a7 b2.length c7,.string x,.slice a9 raw.size c9,.slice a10 n c10] 30)) := (Below.refl _ _).alloc (Nat.le_refl _) _
 have hq0 : (w.alloc (.cells #[.int .i64 4,.int .i64 N,.bool s1,.slice a3 t1.length c3,.slice a4 b1.length c4,.bool s2,.slice a6 t2.length c6,.slice a7 b2.length c7,.string x,.slice a9 raw.size c9,.slice a10 n c10] 30)).heap[w.heap.size]? = some (.cells #[.int .i64 4,.int .i64 N,.bool s1,.slice a3 t1.length c3,.slice a4 b1.length c4,.bool s2,.slice a6 t2.length c6,.slice a7 b2.length c7,.string x,.slice a9 raw.size c9,.slice a10 n c10] 30 (0,0)) := heap_alloc_new w _
 have hz0 : (w.alloc (.cells #[.int .i64 4,.int .i64 N,.bool s1,.slice a3 t1.length c3,.slice a4 b1.length c4,.bool s2,.slice a6 t2.length c6,.slice a7 b2.length c7,.string x,.slice a9 raw.size c9,.slice a10 n c10] 30)).heap.size = w.heap.size + 1 := by simp
 have HF : Hid (∀ w',Below (w.heap.size + 1) (w.alloc (.cells #[.int .i64 4,.int .i64 N,.bool s1,.slice a3 t1.length c3,.slice a4 b1.length c4,.bool s2,.slice a6 t2.length c6,.slice a7 b2.length c7,.string x,.slice a9 raw.size c9,.slice a10 n c10] 30)) w' → (∀ j,w'.cell? ⟨w.heap.size,j,none⟩ = (#[.int .i64 4,.int .i64 N,.bool s1,.slice a3 t1.length c3,.slice a4 b1.length c4,.bool s2,.slice a6 t2.length c6,.slice a7 b2.length c7,.string x,.slice a9 raw.size c9,.slice a10 n c10] : Array Value)[j]?) ∧ Below w.heap.size w w') := Lib.hid (fun w' hb => by
   have a0 := (hb.block w.heap.size (Nat.lt_succ_self _)).trans hq0
   exact ⟨fun j => by simp [World.cell?,a0],hb0.trans (hb.mono (Nat.le_succ _))⟩)
 have KV := Ru.valid_any x (w.alloc (.cells #[.int .i64 4,.int .i64 N,.bool s1,.slice a3 t1.length c3,.slice a4 b1.length c4,.bool s2,.slice a6 t2.length c6,.slice a7 b2.length c7,.string x,.slice a9 raw.size c9,.slice a10 n c10] 30)) (by omega)
 rw [hz0] at KV
 have HK1 := Lib.hid (fun w' (hb : Below w.heap.size w w') => Rn.noRat_any s1 t1 b1 _ _ w' (i3.below hb (Nat.le_refl _)) (i4.below hb (Nat.le_refl _)) ok1.l1 ok1.l2)
 have HK2 := Lib.hid (fun w' (hb : Below w.heap.size w w') => Rn.noRat_any s2 t2 b2 _ _ w' (i6.below hb (Nat.le_refl _)) (i7.below hb (Nat.le_refl _)) ok2.l1 ok2.l2)
 clear hb0 hq0 hz0 hR i3 i4 i6 i7 ok1 ok2 hx
 cases hV : Lib.validD x.data.toList
 all_goals
  rw [hV] at KV
  go_enter Tryz.func23,Tryz.ntmps23
  go_wp2_with fail
  refine KV.mono ?_
  rintro z w1 ⟨rfl,hb1⟩
  obtain ⟨d,hbw1⟩ := HF.out w1 hb1
  have d0 := d 0
  have d2 := d 2
  have d3 := d 3
  have d4 := d 4
  have d5 := d 5
  have d6 := d 6
  have d7 := d 7
  have HB1 := Lib.hid (And.intro hb1 hbw1)
  clear hb1 hbw1 d KV
 · have hans : R = false := by
    rw [HR.out];simp [Tr.Hd.shape,Tr.Hd.num,Tr.isText,Tr.own,hV]
   have HANS := Lib.hid hans;clear hans;go_wp2_with fail;go_ret;exact ⟨by rw [HANS.out]; rfl,HB1.out.2⟩
 · cases hS1 : Rt.noRat s1 t1 b1;all_goals
    have KN := HK1.out w1 HB1.out.2;rw [hS1] at KN;go_wp2_with fail;refine KN.mono ?_;rintro z w2 ⟨rfl,hb2⟩;have hb2' := HB1.out.1.trans (hb2.mono (by have := HB1.out.1.size; simp at this; omega));obtain ⟨d,hbw2⟩ := HF.out w2 hb2';clear d0 d2 d3 d4 d5 d6 d7;have d0 := d 0;have d2 := d 2;have d5 := d 5;have d6 := d 6;have d7 := d 7;have HB2 := Lib.hid (And.intro hb2' hbw2);clear hb2 hb2' hbw2 d;clear KN
   · have hans : R = false := by
      rw [HR.out];simp [Tr.Hd.shape,Tr.Hd.num,Tr.isText,Tr.own,hV,hS1]
     have HANS := Lib.hid hans;clear hans;go_wp2_with fail;go_ret;exact ⟨by rw [HANS.out]; rfl,HB2.out.2⟩
   · cases hS2 : Rt.noRat s2 t2 b2;all_goals
      have KN := HK2.out w2 HB2.out.2;rw [hS2] at KN;go_wp2_with fail;refine KN.mono ?_;rintro z w3 ⟨rfl,hb3⟩;have hb3' := HB2.out.1.trans (hb3.mono (by have := HB2.out.1.size; simp at this; omega));obtain ⟨d,hbw3⟩ := HF.out w3 hb3';clear d0 d2 d5 d6 d7;have d0 := d 0;have d1 := d 1;have d8 := d 8;have d9 := d 9;have d10 := d 10;have HB3 := Lib.hid (And.intro hb3' hbw3);clear hb3 hb3' hbw3 d;clear KN
     · have hans : R = false := by
        rw [HR.out];simp [Tr.Hd.shape,Tr.Hd.num,Tr.isText,Tr.own,hV,hS1,hS2]
       have HANS := Lib.hid hans;clear hans;go_wp2_with fail;go_ret;exact ⟨by rw [HANS.out]; rfl,HB3.out.2⟩
     · by_cases hxz : x.size = 0
       · have hxl : x.toList = [] := (Rd.empty x).2 hxz;by_cases hr : raw.size = 0
         · have hr0 : ¬ 0 < raw.size := by omega
           have hrI : ¬ (raw.size : Int) > 0 := by omega
           have KC := Rn.IsChar_any N w3;cases hC : Tr.isChar N
           · rw [hC] at KC;have hans : R = false := by
              rw [HR.out];simp [Tr.Hd.shape,Tr.Hd.num,Tr.isText,Tr.own,hV,hS1,hS2,hxz,hr,hC]
             have HANS := Lib.hid hans;clear hans;go_wp2_with fail;refine KC.mono ?_;rintro z w8 ⟨rfl,hb8⟩;have HB8 := Lib.hid (HB3.out.2.trans (hb8.mono HB3.out.2.size));clear hb8 KC;go_wp2_with fail;go_ret;exact ⟨by rw [HANS.out]; rfl,HB8.out⟩
           · rw [hC] at KC;go_wp2_with fail;refine KC.mono ?_;rintro z w8 ⟨rfl,hb8⟩;have hb8' := HB3.out.1.trans (hb8.mono (by have := HB3.out.1.size; simp at this; omega));obtain ⟨d,hbw8⟩ := HF.out w8 hb8';clear d0 d1 d8 d9 d10;have d0 := d 0;have d10 := d 10;have HB8 := Lib.hid hbw8;clear hb8 hb8' hbw8 d KC;by_cases hn : n = 0
             · have hnI : ((n : Int) == 0) = true := by subst hn; rfl
               have hans : R = true := by
                rw [HR.out];simp [Tr.Hd.shape,Tr.Hd.num,Tr.isText,Tr.own,hV,hS1,hS2,hxz,hr,hC,hn]
               have HANS := Lib.hid hans;clear hans;go_wp2_with fail;go_ret;exact ⟨by rw [HANS.out]; rfl,HB8.out⟩
             · have hnI : ((n : Int) == 0) = false := beq_eq_false_iff_ne.2 (by omega);have hans : R = false := by
                rw [HR.out];simp [Tr.Hd.shape,Tr.Hd.num,Tr.isText,Tr.own,hV,hS1,hS2,hxz,hr,hC,hn]
               have HANS := Lib.hid hans;clear hans;go_wp2_with fail;go_ret;exact ⟨by rw [HANS.out]; rfl,HB8.out⟩
         · have hr0 : 0 < raw.size := by omega
           have hrI : (raw.size : Int) > 0 := by omega
           have hans : R = false := by
            rw [HR.out];simp [Tr.Hd.shape,Tr.Hd.num,Tr.isText,Tr.own,hV,hS1,hS2,hxz,hr]
           have HANS := Lib.hid hans;clear hans;go_wp2_with fail;go_ret;exact ⟨by rw [HANS.out]; rfl,HB3.out.2⟩
       · have hxl : ¬ x.toList = [] := fun e => hxz ((Rd.empty x).1 e);have hxe : x.toList.isEmpty = false := by cases hh : x.toList with | nil => exact absurd hh hxl | cons a r => rfl
         have hans : R = false := by
          rw [HR.out];simp [Tr.Hd.shape,Tr.Hd.num,Tr.isText,Tr.own,hV,hS1,hS2,hxz]
         have HANS := Lib.hid hans;clear hans;go_wp2_with fail;go_ret;exact ⟨by rw [HANS.out]; rfl,HB3.out.2⟩
theorem Rd.shape5 (N : Int) (s1 s2 : Bool) (t1 b1 t2 b2 : List Nat) (x raw : ByteArray) (n : Nat) (a3 a4 a6 a7 a9 a10 : Option Addr) (c3 c4 c6 c7 c9 c10 : Nat) (w : World) (hx : x.size ≤ 1048576)
 (i3 : Nt.In w (.slice a3 t1.length c3) t1) (i4 : Nt.In w (.slice a4 b1.length c4) b1) (i6 : Nt.In w (.slice a6 t2.length c6) t2) (i7 : Nt.In w (.slice a7 b2.length c7) b2) (ok1 : Rt.GOk t1 b1) (ok2 : Rt.GOk t2 b2) :
 Calls Tryz.prog 23 #[.agg #[.int .i64 5,.int .i64 N,.bool s1,.slice a3 t1.length c3,.slice a4 b1.length c4,.bool s2,.slice a6 t2.length c6,.slice a7 b2.length c7,.string x,.slice a9 raw.size c9,.slice a10 n c10]] w fun e w' => e = .returned (.bool (Tr.Hd.shape ⟨5,N,s1,t1,b1,s2,t2,b2,x,raw⟩ n)) ∧ Below w.heap.size w w' := by
 obtain ⟨R,hR⟩ : ∃ z,z = Tr.Hd.shape ⟨5,N,s1,t1,b1,s2,t2,b2,x,raw⟩ n := ⟨_,rfl⟩
 rw [← hR]
 have HR := Lib.hid hR
 have hb0 : Below w.heap.size w (w.alloc (.cells #[.int .i64 5,.int .i64 N,.bool s1,.slice a3 t1.length c3,.slice a4 b1.length c4,.bool s2,.slice a6 t2.length c6,.slice a7 b2.length c7,.string x,.slice a9 raw.size c9,.slice a10 n c10] 30)) := (Below.refl _ _).alloc (Nat.le_refl _) _
 have hq0 : (w.alloc (.cells #[.int .i64 5,.int .i64 N,.bool s1,.slice a3 t1.length c3,.slice a4 b1.length c4,.bool s2,.slice a6 t2.length c6,.slice a7 b2.length c7,.string x,.slice a9 raw.size c9,.slice a10 n c10] 30)).heap[w.heap.size]? = some (.cells #[.int .i64 5,.int .i64 N,.bool s1,.slice a3 t1.length c3,.slice a4 b1.length c4,.bool s2,.slice a6 t2.length c6,.slice a7 b2.length c7,.string x,.slice a9 raw.size c9,.slice a10 n c10] 30 (0,0)) := heap_alloc_new w _
 have hz0 : (w.alloc (.cells #[.int .i64 5,.int .i64 N,.bool s1,.slice a3 t1.length c3,.slice a4 b1.length c4,.bool s2,.slice a6 t2.length c6,.slice a7 b2.length c7,.string x,.slice a9 raw.size c9,.slice a10 n c10] 30)).heap.size = w.heap.size + 1 := by simp
 have HF : Hid (∀ w',Below (w.heap.size + 1) (w.alloc (.cells #[.int .i64 5,.int .i64 N,.bool s1,.slice a3 t1.length c3,.slice a4 b1.length c4,.bool s2,.slice a6 t2.length c6,.slice a7 b2.length c7,.string x,.slice a9 raw.size c9,.slice a10 n c10] 30)) w' → (∀ j,w'.cell? ⟨w.heap.size,j,none⟩ = (#[.int .i64 5,.int .i64 N,.bool s1,.slice a3 t1.length c3,.slice a4 b1.length c4,.bool s2,.slice a6 t2.length c6,.slice a7 b2.length c7,.string x,.slice a9 raw.size c9,.slice a10 n c10] : Array Value)[j]?) ∧ Below w.heap.size w w') := Lib.hid (fun w' hb => by
   have a0 := (hb.block w.heap.size (Nat.lt_succ_self _)).trans hq0
   exact ⟨fun j => by simp [World.cell?,a0],hb0.trans (hb.mono (Nat.le_succ _))⟩)
 have KV := Ru.valid_any x (w.alloc (.cells #[.int .i64 5,.int .i64 N,.bool s1,.slice a3 t1.length c3,.slice a4 b1.length c4,.bool s2,.slice a6 t2.length c6,.slice a7 b2.length c7,.string x,.slice a9 raw.size c9,.slice a10 n c10] 30)) (by omega)
 rw [hz0] at KV
 have HK1 := Lib.hid (fun w' (hb : Below w.heap.size w w') => Rn.noRat_any s1 t1 b1 _ _ w' (i3.below hb (Nat.le_refl _)) (i4.below hb (Nat.le_refl _)) ok1.l1 ok1.l2)
 have HK2 := Lib.hid (fun w' (hb : Below w.heap.size w w') => Rn.noRat_any s2 t2 b2 _ _ w' (i6.below hb (Nat.le_refl _)) (i7.below hb (Nat.le_refl _)) ok2.l1 ok2.l2)
 clear hb0 hq0 hz0 hR i3 i4 i6 i7 ok1 ok2 hx
 cases hV : Lib.validD x.data.toList
 all_goals
  rw [hV] at KV
  go_enter Tryz.func23,Tryz.ntmps23
  go_wp2_with fail
  refine KV.mono ?_
  rintro z w1 ⟨rfl,hb1⟩
  obtain ⟨d,hbw1⟩ := HF.out w1 hb1
  have d0 := d 0
  have d2 := d 2
  have d3 := d 3
  have d4 := d 4
  have d5 := d 5
  have d6 := d 6
  have d7 := d 7
  have HB1 := Lib.hid (And.intro hb1 hbw1)
  clear hb1 hbw1 d KV
 · have hans : R = false := by
    rw [HR.out];simp [Tr.Hd.shape,Tr.Hd.num,Tr.isText,Tr.own,hV]
   have HANS := Lib.hid hans;clear hans;go_wp2_with fail;go_ret;exact ⟨by rw [HANS.out]; rfl,HB1.out.2⟩
 · cases hS1 : Rt.noRat s1 t1 b1;all_goals
    have KN := HK1.out w1 HB1.out.2;rw [hS1] at KN;go_wp2_with fail;refine KN.mono ?_;rintro z w2 ⟨rfl,hb2⟩;have hb2' := HB1.out.1.trans (hb2.mono (by have := HB1.out.1.size; simp at this; omega));obtain ⟨d,hbw2⟩ := HF.out w2 hb2';clear d0 d2 d3 d4 d5 d6 d7;have d0 := d 0;have d2 := d 2;have d5 := d 5;have d6 := d 6;have d7 := d 7;have HB2 := Lib.hid (And.intro hb2' hbw2);clear hb2 hb2' hbw2 d;clear KN
   · have hans : R = false := by
      rw [HR.out];simp [Tr.Hd.shape,Tr.Hd.num,Tr.isText,Tr.own,hV,hS1]
     have HANS := Lib.hid hans;clear hans;go_wp2_with fail;go_ret;exact ⟨by rw [HANS.out]; rfl,HB2.out.2⟩
   · cases hS2 : Rt.noRat s2 t2 b2;all_goals
      have KN := HK2.out w2 HB2.out.2;rw [hS2] at KN;go_wp2_with fail;refine KN.mono ?_;rintro z w3 ⟨rfl,hb3⟩;have hb3' := HB2.out.1.trans (hb3.mono (by have := HB2.out.1.size; simp at this; omega));obtain ⟨d,hbw3⟩ := HF.out w3 hb3';clear d0 d2 d5 d6 d7;have d0 := d 0;have d1 := d 1;have d8 := d 8;have d9 := d 9;have d10 := d 10;have HB3 := Lib.hid (And.intro hb3' hbw3);clear hb3 hb3' hbw3 d;clear KN
     · have hans : R = false := by
        rw [HR.out];simp [Tr.Hd.shape,Tr.Hd.num,Tr.isText,Tr.own,hV,hS1,hS2]
       have HANS := Lib.hid hans;clear hans;go_wp2_with fail;go_ret;exact ⟨by rw [HANS.out]; rfl,HB3.out.2⟩
     · by_cases hxz : x.size = 0
       · have hxl : x.toList = [] := (Rd.empty x).2 hxz;by_cases hr : raw.size = 0
         · have hr0 : ¬ 0 < raw.size := by omega
           have hrI : ¬ (raw.size : Int) > 0 := by omega
           by_cases hN : N = 0
           · subst hN;by_cases hn : n = 0
             · have hnI : ((n : Int) == 0) = true := by subst hn; rfl
               have hans : R = true := by
                rw [HR.out];simp [Tr.Hd.shape,Tr.Hd.num,Tr.isText,Tr.own,hV,hS1,hS2,hxz,hr,hn]
               have HANS := Lib.hid hans;clear hans;go_wp2_with fail;go_ret;exact ⟨by rw [HANS.out]; rfl,HB3.out.2⟩
             · have hnI : ((n : Int) == 0) = false := beq_eq_false_iff_ne.2 (by omega);have hans : R = false := by
                rw [HR.out];simp [Tr.Hd.shape,Tr.Hd.num,Tr.isText,Tr.own,hV,hS1,hS2,hxz,hr,hn]
               have HANS := Lib.hid hans;clear hans;go_wp2_with fail;go_ret;exact ⟨by rw [HANS.out]; rfl,HB3.out.2⟩
           · have hNI : (N != 0) = true := by simpa using hN
             have hans : R = false := by
              rw [HR.out];simp [Tr.Hd.shape,Tr.Hd.num,Tr.isText,Tr.own,hV,hS1,hS2,hxz,hr,hN]
             have HANS := Lib.hid hans;clear hans;go_wp2_with fail;go_ret;exact ⟨by rw [HANS.out]; rfl,HB3.out.2⟩
         · have hr0 : 0 < raw.size := by omega
           have hrI : (raw.size : Int) > 0 := by omega
           have hans : R = false := by
            rw [HR.out];simp [Tr.Hd.shape,Tr.Hd.num,Tr.isText,Tr.own,hV,hS1,hS2,hxz,hr]
           have HANS := Lib.hid hans;clear hans;go_wp2_with fail;go_ret;exact ⟨by rw [HANS.out]; rfl,HB3.out.2⟩
       · have hxl : ¬ x.toList = [] := fun e => hxz ((Rd.empty x).1 e);have hxe : x.toList.isEmpty = false := by cases hh : x.toList with | nil => exact absurd hh hxl | cons a r => rfl
         by_cases hr : raw.size = 0
         · have hr0 : ¬ 0 < raw.size := by omega
           have hrI : ¬ (raw.size : Int) > 0 := by omega
           by_cases hN : N = 0
           · subst hN;by_cases hn : n = 0
             · have hnI : ((n : Int) == 0) = true := by subst hn; rfl
               have hans : R = true := by
                rw [HR.out];simp [Tr.Hd.shape,Tr.Hd.num,Tr.isText,Tr.own,hV,hS1,hS2,hxz,hr,hn]
               have HANS := Lib.hid hans;clear hans;go_wp2_with fail;go_ret;exact ⟨by rw [HANS.out]; rfl,HB3.out.2⟩
             · have hnI : ((n : Int) == 0) = false := beq_eq_false_iff_ne.2 (by omega);have hans : R = false := by
                rw [HR.out];simp [Tr.Hd.shape,Tr.Hd.num,Tr.isText,Tr.own,hV,hS1,hS2,hxz,hr,hn]
               have HANS := Lib.hid hans;clear hans;go_wp2_with fail;go_ret;exact ⟨by rw [HANS.out]; rfl,HB3.out.2⟩
           · have hNI : (N != 0) = true := by simpa using hN
             have hans : R = false := by
              rw [HR.out];simp [Tr.Hd.shape,Tr.Hd.num,Tr.isText,Tr.own,hV,hS1,hS2,hxz,hr,hN]
             have HANS := Lib.hid hans;clear hans;go_wp2_with fail;go_ret;exact ⟨by rw [HANS.out]; rfl,HB3.out.2⟩
         · have hr0 : 0 < raw.size := by omega
           have hrI : (raw.size : Int) > 0 := by omega
           have hans : R = false := by
            rw [HR.out];simp [Tr.Hd.shape,Tr.Hd.num,Tr.isText,Tr.own,hV,hS1,hS2,hxz,hr]
           have HANS := Lib.hid hans;clear hans;go_wp2_with fail;go_ret;exact ⟨by rw [HANS.out]; rfl,HB3.out.2⟩
theorem Rd.shape6 (N : Int) (s1 s2 : Bool) (t1 b1 t2 b2 : List Nat) (x raw : ByteArray) (n : Nat) (a3 a4 a6 a7 a9 a10 : Option Addr) (c3 c4 c6 c7 c9 c10 : Nat) (w : World) (hx : x.size ≤ 1048576)
 (i3 : Nt.In w (.slice a3 t1.length c3) t1) (i4 : Nt.In w (.slice a4 b1.length c4) b1) (i6 : Nt.In w (.slice a6 t2.length c6) t2) (i7 : Nt.In w (.slice a7 b2.length c7) b2) (ok1 : Rt.GOk t1 b1) (ok2 : Rt.GOk t2 b2) :
 Calls Tryz.prog 23 #[.agg #[.int .i64 6,.int .i64 N,.bool s1,.slice a3 t1.length c3,.slice a4 b1.length c4,.bool s2,.slice a6 t2.length c6,.slice a7 b2.length c7,.string x,.slice a9 raw.size c9,.slice a10 n c10]] w fun e w' => e = .returned (.bool (Tr.Hd.shape ⟨6,N,s1,t1,b1,s2,t2,b2,x,raw⟩ n)) ∧ Below w.heap.size w w' := by
 obtain ⟨R,hR⟩ : ∃ z,z = Tr.Hd.shape ⟨6,N,s1,t1,b1,s2,t2,b2,x,raw⟩ n := ⟨_,rfl⟩
 rw [← hR]
 have HR := Lib.hid hR
 have hb0 : Below w.heap.size w (w.alloc (.cells #[.int .i64 6,.int .i64 N,.bool s1,.slice a3 t1.length c3,.slice a4 b1.length c4,.bool s2,.slice a6 t2.length c6,.slice a7 b2.length c7,.string x,.slice a9 raw.size c9,.slice a10 n c10] 30)) := (Below.refl _ _).alloc (Nat.le_refl _) _
 have hq0 : (w.alloc (.cells #[.int .i64 6,.int .i64 N,.bool s1,.slice a3 t1.length c3,.slice a4 b1.length c4,.bool s2,.slice a6 t2.length c6,.slice a7 b2.length c7,.string x,.slice a9 raw.size c9,.slice a10 n c10] 30)).heap[w.heap.size]? = some (.cells #[.int .i64 6,.int .i64 N,.bool s1,.slice a3 t1.length c3,.slice a4 b1.length c4,.bool s2,.slice a6 t2.length c6,.slice a7 b2.length c7,.string x,.slice a9 raw.size c9,.slice a10 n c10] 30 (0,0)) := heap_alloc_new w _
 have hz0 : (w.alloc (.cells #[.int .i64 6,.int .i64 N,.bool s1,.slice a3 t1.length c3,.slice a4 b1.length c4,.bool s2,.slice a6 t2.length c6,.slice a7 b2.length c7,.string x,.slice a9 raw.size c9,.slice a10 n c10] 30)).heap.size = w.heap.size + 1 := by simp
 have HF : Hid (∀ w',Below (w.heap.size + 1) (w.alloc (.cells #[.int .i64 6,.int .i64 N,.bool s1,.slice a3 t1.length c3,.slice a4 b1.length c4,.bool s2,.slice a6 t2.length c6,.slice a7 b2.length c7,.string x,.slice a9 raw.size c9,.slice a10 n c10] 30)) w' → (∀ j,w'.cell? ⟨w.heap.size,j,none⟩ = (#[.int .i64 6,.int .i64 N,.bool s1,.slice a3 t1.length c3,.slice a4 b1.length c4,.bool s2,.slice a6 t2.length c6,.slice a7 b2.length c7,.string x,.slice a9 raw.size c9,.slice a10 n c10] : Array Value)[j]?) ∧ Below w.heap.size w w') := Lib.hid (fun w' hb => by
   have a0 := (hb.block w.heap.size (Nat.lt_succ_self _)).trans hq0
   exact ⟨fun j => by simp [World.cell?,a0],hb0.trans (hb.mono (Nat.le_succ _))⟩)
 have KV := Ru.valid_any x (w.alloc (.cells #[.int .i64 6,.int .i64 N,.bool s1,.slice a3 t1.length c3,.slice a4 b1.length c4,.bool s2,.slice a6 t2.length c6,.slice a7 b2.length c7,.string x,.slice a9 raw.size c9,.slice a10 n c10] 30)) (by omega)
 rw [hz0] at KV
 have HK1 := Lib.hid (fun w' (hb : Below w.heap.size w w') => Rn.noRat_any s1 t1 b1 _ _ w' (i3.below hb (Nat.le_refl _)) (i4.below hb (Nat.le_refl _)) ok1.l1 ok1.l2)
 have HK2 := Lib.hid (fun w' (hb : Below w.heap.size w w') => Rn.noRat_any s2 t2 b2 _ _ w' (i6.below hb (Nat.le_refl _)) (i7.below hb (Nat.le_refl _)) ok2.l1 ok2.l2)
 clear hb0 hq0 hz0 hR i3 i4 i6 i7 ok1 ok2 hx
 cases hV : Lib.validD x.data.toList
 all_goals
  rw [hV] at KV
  go_enter Tryz.func23,Tryz.ntmps23
  go_wp2_with fail
  refine KV.mono ?_
  rintro z w1 ⟨rfl,hb1⟩
  obtain ⟨d,hbw1⟩ := HF.out w1 hb1
  have d0 := d 0
  have d2 := d 2
  have d3 := d 3
  have d4 := d 4
  have d5 := d 5
  have d6 := d 6
  have d7 := d 7
  have HB1 := Lib.hid (And.intro hb1 hbw1)
  clear hb1 hbw1 d KV
 · have hans : R = false := by
    rw [HR.out];simp [Tr.Hd.shape,Tr.Hd.num,Tr.isText,Tr.own,hV]
   have HANS := Lib.hid hans;clear hans;go_wp2_with fail;go_ret;exact ⟨by rw [HANS.out]; rfl,HB1.out.2⟩
 · cases hS1 : Rt.noRat s1 t1 b1;all_goals
    have KN := HK1.out w1 HB1.out.2;rw [hS1] at KN;go_wp2_with fail;refine KN.mono ?_;rintro z w2 ⟨rfl,hb2⟩;have hb2' := HB1.out.1.trans (hb2.mono (by have := HB1.out.1.size; simp at this; omega));obtain ⟨d,hbw2⟩ := HF.out w2 hb2';clear d0 d2 d3 d4 d5 d6 d7;have d0 := d 0;have d2 := d 2;have d5 := d 5;have d6 := d 6;have d7 := d 7;have HB2 := Lib.hid (And.intro hb2' hbw2);clear hb2 hb2' hbw2 d;clear KN
   · have hans : R = false := by
      rw [HR.out];simp [Tr.Hd.shape,Tr.Hd.num,Tr.isText,Tr.own,hV,hS1]
     have HANS := Lib.hid hans;clear hans;go_wp2_with fail;go_ret;exact ⟨by rw [HANS.out]; rfl,HB2.out.2⟩
   · cases hS2 : Rt.noRat s2 t2 b2;all_goals
      have KN := HK2.out w2 HB2.out.2;rw [hS2] at KN;go_wp2_with fail;refine KN.mono ?_;rintro z w3 ⟨rfl,hb3⟩;have hb3' := HB2.out.1.trans (hb3.mono (by have := HB2.out.1.size; simp at this; omega));obtain ⟨d,hbw3⟩ := HF.out w3 hb3';clear d0 d2 d5 d6 d7;have d0 := d 0;have d1 := d 1;have d8 := d 8;have d9 := d 9;have d10 := d 10;have HB3 := Lib.hid (And.intro hb3' hbw3);clear hb3 hb3' hbw3 d;clear KN
     · have hans : R = false := by
        rw [HR.out];simp [Tr.Hd.shape,Tr.Hd.num,Tr.isText,Tr.own,hV,hS1,hS2]
       have HANS := Lib.hid hans;clear hans;go_wp2_with fail;go_ret;exact ⟨by rw [HANS.out]; rfl,HB3.out.2⟩
     · by_cases hxz : x.size = 0
       · have hxl : x.toList = [] := (Rd.empty x).2 hxz;by_cases hr : raw.size = 0
         · have hr0 : ¬ 0 < raw.size := by omega
           have hrI : ¬ (raw.size : Int) > 0 := by omega
           by_cases hN : N = 0
           · subst hN;by_cases hn : n = 0
             · have hnI : ((n : Int) == 0) = true := by subst hn; rfl
               have hans : R = true := by
                rw [HR.out];simp [Tr.Hd.shape,Tr.Hd.num,Tr.isText,Tr.own,hV,hS1,hS2,hxz,hr,hn]
               have HANS := Lib.hid hans;clear hans;go_wp2_with fail;go_ret;exact ⟨by rw [HANS.out]; rfl,HB3.out.2⟩
             · have hnI : ((n : Int) == 0) = false := beq_eq_false_iff_ne.2 (by omega);have hans : R = false := by
                rw [HR.out];simp [Tr.Hd.shape,Tr.Hd.num,Tr.isText,Tr.own,hV,hS1,hS2,hxz,hr,hn]
               have HANS := Lib.hid hans;clear hans;go_wp2_with fail;go_ret;exact ⟨by rw [HANS.out]; rfl,HB3.out.2⟩
           · have hNI : (N != 0) = true := by simpa using hN
             have hans : R = false := by
              rw [HR.out];simp [Tr.Hd.shape,Tr.Hd.num,Tr.isText,Tr.own,hV,hS1,hS2,hxz,hr,hN]
             have HANS := Lib.hid hans;clear hans;go_wp2_with fail;go_ret;exact ⟨by rw [HANS.out]; rfl,HB3.out.2⟩
         · have hr0 : 0 < raw.size := by omega
           have hrI : (raw.size : Int) > 0 := by omega
           have hans : R = false := by
            rw [HR.out];simp [Tr.Hd.shape,Tr.Hd.num,Tr.isText,Tr.own,hV,hS1,hS2,hxz,hr]
           have HANS := Lib.hid hans;clear hans;go_wp2_with fail;go_ret;exact ⟨by rw [HANS.out]; rfl,HB3.out.2⟩
       · have hxl : ¬ x.toList = [] := fun e => hxz ((Rd.empty x).1 e);have hxe : x.toList.isEmpty = false := by cases hh : x.toList with | nil => exact absurd hh hxl | cons a r => rfl
         by_cases hr : raw.size = 0
         · have hr0 : ¬ 0 < raw.size := by omega
           have hrI : ¬ (raw.size : Int) > 0 := by omega
           by_cases hN : N = 0
           · subst hN;by_cases hn : n = 0
             · have hnI : ((n : Int) == 0) = true := by subst hn; rfl
               have hans : R = true := by
                rw [HR.out];simp [Tr.Hd.shape,Tr.Hd.num,Tr.isText,Tr.own,hV,hS1,hS2,hxz,hr,hn]
               have HANS := Lib.hid hans;clear hans;go_wp2_with fail;go_ret;exact ⟨by rw [HANS.out]; rfl,HB3.out.2⟩
             · have hnI : ((n : Int) == 0) = false := beq_eq_false_iff_ne.2 (by omega);have hans : R = false := by
                rw [HR.out];simp [Tr.Hd.shape,Tr.Hd.num,Tr.isText,Tr.own,hV,hS1,hS2,hxz,hr,hn]
               have HANS := Lib.hid hans;clear hans;go_wp2_with fail;go_ret;exact ⟨by rw [HANS.out]; rfl,HB3.out.2⟩
           · have hNI : (N != 0) = true := by simpa using hN
             have hans : R = false := by
              rw [HR.out];simp [Tr.Hd.shape,Tr.Hd.num,Tr.isText,Tr.own,hV,hS1,hS2,hxz,hr,hN]
             have HANS := Lib.hid hans;clear hans;go_wp2_with fail;go_ret;exact ⟨by rw [HANS.out]; rfl,HB3.out.2⟩
         · have hr0 : 0 < raw.size := by omega
           have hrI : (raw.size : Int) > 0 := by omega
           have hans : R = false := by
            rw [HR.out];simp [Tr.Hd.shape,Tr.Hd.num,Tr.isText,Tr.own,hV,hS1,hS2,hxz,hr]
           have HANS := Lib.hid hans;clear hans;go_wp2_with fail;go_ret;exact ⟨by rw [HANS.out]; rfl,HB3.out.2⟩
theorem Rd.shape7 (N : Int) (s1 s2 : Bool) (t1 b1 t2 b2 : List Nat) (x raw : ByteArray) (n : Nat) (a3 a4 a6 a7 a9 a10 : Option Addr) (c3 c4 c6 c7 c9 c10 : Nat) (w : World) (hx : x.size ≤ 1048576)
 (i3 : Nt.In w (.slice a3 t1.length c3) t1) (i4 : Nt.In w (.slice a4 b1.length c4) b1) (i6 : Nt.In w (.slice a6 t2.length c6) t2) (i7 : Nt.In w (.slice a7 b2.length c7) b2) (ok1 : Rt.GOk t1 b1) (ok2 : Rt.GOk t2 b2) :
 Calls Tryz.prog 23 #[.agg #[.int .i64 7,.int .i64 N,.bool s1,.slice a3 t1.length c3,.slice a4 b1.length c4,.bool s2,.slice a6 t2.length c6,.slice a7 b2.length c7,.string x,.slice a9 raw.size c9,.slice a10 n c10]] w fun e w' => e = .returned (.bool (Tr.Hd.shape ⟨7,N,s1,t1,b1,s2,t2,b2,x,raw⟩ n)) ∧ Below w.heap.size w w' := by
 obtain ⟨R,hR⟩ : ∃ z,z = Tr.Hd.shape ⟨7,N,s1,t1,b1,s2,t2,b2,x,raw⟩ n := ⟨_,rfl⟩
 rw [← hR]
 have HR := Lib.hid hR
 have hb0 : Below w.heap.size w (w.alloc (.cells #[.int .i64 7,.int .i64 N,.bool s1,.slice a3 t1.length c3,.slice a4 b1.length c4,.bool s2,.slice a6 t2.length c6,.slice a7 b2.length c7,.string x,.slice a9 raw.size c9,.slice a10 n c10] 30)) := (Below.refl _ _).alloc (Nat.le_refl _) _
 have hq0 : (w.alloc (.cells #[.int .i64 7,.int .i64 N,.bool s1,.slice a3 t1.length c3,.slice a4 b1.length c4,.bool s2,.slice a6 t2.length c6,.slice a7 b2.length c7,.string x,.slice a9 raw.size c9,.slice a10 n c10] 30)).heap[w.heap.size]? = some (.cells #[.int .i64 7,.int .i64 N,.bool s1,.slice a3 t1.length c3,.slice a4 b1.length c4,.bool s2,.slice a6 t2.length c6,.slice a7 b2.length c7,.string x,.slice a9 raw.size c9,.slice a10 n c10] 30 (0,0)) := heap_alloc_new w _
 have hz0 : (w.alloc (.cells #[.int .i64 7,.int .i64 N,.bool s1,.slice a3 t1.length c3,.slice a4 b1.length c4,.bool s2,.slice a6 t2.length c6,.slice a7 b2.length c7,.string x,.slice a9 raw.size c9,.slice a10 n c10] 30)).heap.size = w.heap.size + 1 := by simp
 have HF : Hid (∀ w',Below (w.heap.size + 1) (w.alloc (.cells #[.int .i64 7,.int .i64 N,.bool s1,.slice a3 t1.length c3,.slice a4 b1.length c4,.bool s2,.slice a6 t2.length c6,.slice a7 b2.length c7,.string x,.slice a9 raw.size c9,.slice a10 n c10] 30)) w' → (∀ j,w'.cell? ⟨w.heap.size,j,none⟩ = (#[.int .i64 7,.int .i64 N,.bool s1,.slice a3 t1.length c3,.slice a4 b1.length c4,.bool s2,.slice a6 t2.length c6,.slice a7 b2.length c7,.string x,.slice a9 raw.size c9,.slice a10 n c10] : Array Value)[j]?) ∧ Below w.heap.size w w') := Lib.hid (fun w' hb => by
   have a0 := (hb.block w.heap.size (Nat.lt_succ_self _)).trans hq0
   exact ⟨fun j => by simp [World.cell?,a0],hb0.trans (hb.mono (Nat.le_succ _))⟩)
 have KV := Ru.valid_any x (w.alloc (.cells #[.int .i64 7,.int .i64 N,.bool s1,.slice a3 t1.length c3,.slice a4 b1.length c4,.bool s2,.slice a6 t2.length c6,.slice a7 b2.length c7,.string x,.slice a9 raw.size c9,.slice a10 n c10] 30)) (by omega)
 rw [hz0] at KV
 have HK1 := Lib.hid (fun w' (hb : Below w.heap.size w w') => Rn.noRat_any s1 t1 b1 _ _ w' (i3.below hb (Nat.le_refl _)) (i4.below hb (Nat.le_refl _)) ok1.l1 ok1.l2)
 have HK2 := Lib.hid (fun w' (hb : Below w.heap.size w w') => Rn.noRat_any s2 t2 b2 _ _ w' (i6.below hb (Nat.le_refl _)) (i7.below hb (Nat.le_refl _)) ok2.l1 ok2.l2)
 clear hb0 hq0 hz0 hR i3 i4 i6 i7 ok1 ok2 hx
 cases hV : Lib.validD x.data.toList
 all_goals
  rw [hV] at KV
  go_enter Tryz.func23,Tryz.ntmps23
  go_wp2_with fail
  refine KV.mono ?_
  rintro z w1 ⟨rfl,hb1⟩
  obtain ⟨d,hbw1⟩ := HF.out w1 hb1
  have d0 := d 0
  have d2 := d 2
  have d3 := d 3
  have d4 := d 4
  have d5 := d 5
  have d6 := d 6
  have d7 := d 7
  have HB1 := Lib.hid (And.intro hb1 hbw1)
  clear hb1 hbw1 d KV
 · have hans : R = false := by
    rw [HR.out];simp [Tr.Hd.shape,Tr.Hd.num,Tr.isText,Tr.own,hV]
   have HANS := Lib.hid hans;clear hans;go_wp2_with fail;go_ret;exact ⟨by rw [HANS.out]; rfl,HB1.out.2⟩
 · cases hS1 : Rt.noRat s1 t1 b1;all_goals
    have KN := HK1.out w1 HB1.out.2;rw [hS1] at KN;go_wp2_with fail;refine KN.mono ?_;rintro z w2 ⟨rfl,hb2⟩;have hb2' := HB1.out.1.trans (hb2.mono (by have := HB1.out.1.size; simp at this; omega));obtain ⟨d,hbw2⟩ := HF.out w2 hb2';clear d0 d2 d3 d4 d5 d6 d7;have d0 := d 0;have d2 := d 2;have d5 := d 5;have d6 := d 6;have d7 := d 7;have HB2 := Lib.hid (And.intro hb2' hbw2);clear hb2 hb2' hbw2 d;clear KN
   · have hans : R = false := by
      rw [HR.out];simp [Tr.Hd.shape,Tr.Hd.num,Tr.isText,Tr.own,hV,hS1]
     have HANS := Lib.hid hans;clear hans;go_wp2_with fail;go_ret;exact ⟨by rw [HANS.out]; rfl,HB2.out.2⟩
   · cases hS2 : Rt.noRat s2 t2 b2;all_goals
      have KN := HK2.out w2 HB2.out.2;rw [hS2] at KN;go_wp2_with fail;refine KN.mono ?_;rintro z w3 ⟨rfl,hb3⟩;have hb3' := HB2.out.1.trans (hb3.mono (by have := HB2.out.1.size; simp at this; omega));obtain ⟨d,hbw3⟩ := HF.out w3 hb3';clear d0 d2 d5 d6 d7;have d0 := d 0;have d1 := d 1;have d8 := d 8;have d9 := d 9;have d10 := d 10;have HB3 := Lib.hid (And.intro hb3' hbw3);clear hb3 hb3' hbw3 d;clear KN
     · have hans : R = false := by
        rw [HR.out];simp [Tr.Hd.shape,Tr.Hd.num,Tr.isText,Tr.own,hV,hS1,hS2]
       have HANS := Lib.hid hans;clear hans;go_wp2_with fail;go_ret;exact ⟨by rw [HANS.out]; rfl,HB3.out.2⟩
     · by_cases hxz : x.size = 0
       · have hxl : x.toList = [] := (Rd.empty x).2 hxz;by_cases hr : raw.size = 0
         · have hr0 : ¬ 0 < raw.size := by omega
           have hrI : ¬ (raw.size : Int) > 0 := by omega
           by_cases hN : N = 0
           · subst hN;by_cases hn : n = 0
             · have hnI : ((n : Int) == 0) = true := by subst hn; rfl
               have hans : R = true := by
                rw [HR.out];simp [Tr.Hd.shape,Tr.Hd.num,Tr.isText,Tr.own,hV,hS1,hS2,hxz,hr,hn]
               have HANS := Lib.hid hans;clear hans;go_wp2_with fail;go_ret;exact ⟨by rw [HANS.out]; rfl,HB3.out.2⟩
             · have hnI : ((n : Int) == 0) = false := beq_eq_false_iff_ne.2 (by omega);have hans : R = false := by
                rw [HR.out];simp [Tr.Hd.shape,Tr.Hd.num,Tr.isText,Tr.own,hV,hS1,hS2,hxz,hr,hn]
               have HANS := Lib.hid hans;clear hans;go_wp2_with fail;go_ret;exact ⟨by rw [HANS.out]; rfl,HB3.out.2⟩
           · have hNI : (N != 0) = true := by simpa using hN
             have hans : R = false := by
              rw [HR.out];simp [Tr.Hd.shape,Tr.Hd.num,Tr.isText,Tr.own,hV,hS1,hS2,hxz,hr,hN]
             have HANS := Lib.hid hans;clear hans;go_wp2_with fail;go_ret;exact ⟨by rw [HANS.out]; rfl,HB3.out.2⟩
         · have hr0 : 0 < raw.size := by omega
           have hrI : (raw.size : Int) > 0 := by omega
           by_cases hN : N = 0
           · subst hN;by_cases hn : n = 0
             · have hnI : ((n : Int) == 0) = true := by subst hn; rfl
               have hans : R = true := by
                rw [HR.out];simp [Tr.Hd.shape,Tr.Hd.num,Tr.isText,Tr.own,hV,hS1,hS2,hxz,hr,hn]
               have HANS := Lib.hid hans;clear hans;go_wp2_with fail;go_ret;exact ⟨by rw [HANS.out]; rfl,HB3.out.2⟩
             · have hnI : ((n : Int) == 0) = false := beq_eq_false_iff_ne.2 (by omega);have hans : R = false := by
                rw [HR.out];simp [Tr.Hd.shape,Tr.Hd.num,Tr.isText,Tr.own,hV,hS1,hS2,hxz,hr,hn]
               have HANS := Lib.hid hans;clear hans;go_wp2_with fail;go_ret;exact ⟨by rw [HANS.out]; rfl,HB3.out.2⟩
           · have hNI : (N != 0) = true := by simpa using hN
             have hans : R = false := by
              rw [HR.out];simp [Tr.Hd.shape,Tr.Hd.num,Tr.isText,Tr.own,hV,hS1,hS2,hxz,hr,hN]
             have HANS := Lib.hid hans;clear hans;go_wp2_with fail;go_ret;exact ⟨by rw [HANS.out]; rfl,HB3.out.2⟩
       · have hxl : ¬ x.toList = [] := fun e => hxz ((Rd.empty x).1 e);have hxe : x.toList.isEmpty = false := by cases hh : x.toList with | nil => exact absurd hh hxl | cons a r => rfl
         have hans : R = false := by
          rw [HR.out];simp [Tr.Hd.shape,Tr.Hd.num,Tr.isText,Tr.own,hV,hS1,hS2,hxz]
         have HANS := Lib.hid hans;clear hans;go_wp2_with fail;go_ret;exact ⟨by rw [HANS.out]; rfl,HB3.out.2⟩
end Go.Proofs.YteklhapffplohaaGreatDoor
