/-
  The reference's shape of a node of kind 8. The reference's shape of a node of kind 9. The reference's shape of a node of kind 10.
-/
import Derived.Deep.LoopGhost
import Derived.Test.YteklhapffplohaaGreatDoorProg
import Derived.WalkKit
import Derived.WalkSpells
import Derived.WalkLawsBesides
import Derived.Handy
import Derived.BigCall
import Derived.Lib.Hide
import Derived.Outline
import Derived.Test.YteklhapffplohaaGreatDoorVq
import Derived.Test.YteklhapffplohaaGreatDoorVr
import Derived.Test.YteklhapffplohaaGreatDoorVo
import Derived.Test.YteklhapffplohaaGreatDoorVn
import Derived.Test.YteklhapffplohaaGreatDoorVk
import Derived.Test.YteklhapffplohaaGreatDoorVa
set_option linter.unusedVariables false
set_option linter.unusedSimpArgs false
namespace Go.Proofs.YteklhapffplohaaGreatDoor
open Go.RowKit
set_option maxHeartbeats 1000000
set_option maxRecDepth 1000000
theorem Rd.shape8 (N : Int) (s1 s2 : Bool) (t1 b1 t2 b2 : List Nat) (x raw : ByteArray) (n : Nat) (a3 a4 a6 a7 a9 a10 : Option Addr) (c3 c4 c6 c7 c9 c10 : Nat) (w : World) (hx : x.size ≤ 1048576)
 (i3 : Nt.In w (.slice a3 t1.length c3) t1) (i4 : Nt.In w (.slice a4 b1.length c4) b1) (i6 : Nt.In w (.slice a6 t2.length c6) t2) (i7 : Nt.In w (.slice a7 b2.length c7) b2) (ok1 : Rt.GOk t1 b1) (ok2 : Rt.GOk t2 b2) :
 Calls Tryz.prog 23 #[.agg #[.int .i64 8,.int .i64 N,.bool s1,.slice a3 t1.length c3,.slice a4 b1.length c4,.bool s2,.slice a6 t2.length c6,.slice a7 b2.length c7,.string x,.slice a9 raw.size c9,.slice a10 n c10]] w fun e w' => e = .returned (.bool (Tr.Hd.shape ⟨8,N,s1,t1,b1,s2,t2,b2,x,raw⟩ n)) ∧ Below w.heap.size w w' := by
 obtain ⟨R,hR⟩ : ∃ z,z = Tr.Hd.shape ⟨8,N,s1,t1,b1,s2,t2,b2,x,raw⟩ n := ⟨_,rfl⟩
 rw [← hR]
 have HR := Lib.hid hR
 have hb0 : Below w.heap.size w (w.alloc (.cells #[.int .i64 8,.int .i64 N,.bool s1,.slice a3 t1.length c3,.slice a4 b1.length c4,.bool s2,.slice a6 t2.length c6,.slice a7 b2.length c7,.string x,.slice a9 raw.size c9,.slice a10 n c10] 30)) := (Below.refl _ _).alloc (Nat.le_refl _) _
 have hq0 : (w.alloc (.cells #[.int .i64 8,.int .i64 N,.bool s1,.slice a3 t1.length c3,.slice a4 b1.length c4,.bool s2,.slice a6 t2.length c6,.slice a7 b2.length c7,.string x,.slice a9 raw.size c9,.slice a10 n c10] 30)).heap[w.heap.size]? = some (.cells #[.int .i64 8,.int .i64 N,.bool s1,.slice a3 t1.length c3,.slice a4 b1.length c4,.bool s2,.slice a6 t2.length c6,.slice a7 b2.length c7,.string x,.slice a9 raw.size c9,.slice a10 n c10] 30 (0,0)) := heap_alloc_new w _
 have hz0 : (w.alloc (.cells #[.int .i64 8,.int .i64 N,.bool s1,.slice a3 t1.length c3,.slice a4 b1.length c4,.bool s2,.slice a6 t2.length c6,.slice a7 b2.length c7,.string x,.slice a9 raw.size c9,.slice a10 n c10] 30)).heap.size = w.heap.size + 1 := by simp
 have HF : Hid (∀ w',Below (w.heap.size + 1) (w.alloc (.cells #[.int .i64 8,.int .i64 N,.bool s1,.slice a3 t1.length c3,.slice a4 b1.length c4,.bool s2,.slice a6 t2.length c6,.slice a7 b2.length c7,.string x,.slice a9 raw.size c9,.slice a10 n c10] 30)) w' → (∀ j,w'.cell? ⟨w.heap.size,j,none⟩ = (#[.int .i64 8,.int .i64 N,.bool s1,.slice a3 t1.length c3,.slice a4 b1.length c4,.bool s2,.slice a6 t2.length c6,.slice a7 b2.length c7,.string x,.slice a9 raw.size c9,.slice a10 n c10] : Array Value)[j]?) ∧ Below w.heap.size w w') := Lib.hid (fun w' hb => by
   have a0 := (hb.block w.heap.size (Nat.lt_succ_self _)).trans hq0
   exact ⟨fun j => by simp [World.cell?,a0],hb0.trans (hb.mono (Nat.le_succ _))⟩)
 have KV := Ru.valid_any x (w.alloc (.cells #[.int .i64 8,.int .i64 N,.bool s1,.slice a3 t1.length c3,.slice a4 b1.length c4,.bool s2,.slice a6 t2.length c6,.slice a7 b2.length c7,.string x,.slice a9 raw.size c9,.slice a10 n c10] 30)) (by omega)
 rw [hz0] at KV
 have HK1 := Lib.hid (fun w' (hb : Below w.heap.size w w') => Rn.noRat_any s1 t1 b1 _ _ w' (i3.below hb (Nat.le_refl _)) (i4.below hb (Nat.le_refl _)) ok1.l1 ok1.l2)
 have HK2 := Lib.hid (fun w' (hb : Below w.heap.size w w') => Rn.noRat_any s2 t2 b2 _ _ w' (i6.below hb (Nat.le_refl _)) (i7.below hb (Nat.le_refl _)) ok2.l1 ok2.l2)
 clear hb0 hq0 hz0 hR i3 i4 i6 i7 ok1 ok2 hx
 cases hV : Lib.validD x.data.toList
 all_goals
  rw [hV] at KV
  go_enter Tryz.func23,Tryz.ntmps23
  go_wp2_with fail
  refine KV.mono ?_
  rintro z w1 ⟨rfl,hb1⟩
  obtain ⟨d,hbw1⟩ := HF.out w1 hb1
  have d0 := d 0
  have d2 := d 2
  have d3 := d 3
  have d4 := d 4
  have d5 := d 5
  have d6 := d 6
  have d7 := d 7
  have HB1 := Lib.hid (And.intro hb1 hbw1)
  clear hb1 hbw1 d KV
 · have hans : R = false := by
    rw [HR.out];simp [Tr.Hd.shape,Tr.Hd.num,Tr.isText,Tr.own,hV]
   have HANS := Lib.hid hans;clear hans;go_wp2_with fail;go_ret;exact ⟨by rw [HANS.out]; rfl,HB1.out.2⟩
 · cases hS1 : Rt.noRat s1 t1 b1;all_goals
    have KN := HK1.out w1 HB1.out.2;rw [hS1] at KN;go_wp2_with fail;refine KN.mono ?_;rintro z w2 ⟨rfl,hb2⟩;have hb2' := HB1.out.1.trans (hb2.mono (by have := HB1.out.1.size; simp at this; omega));obtain ⟨d,hbw2⟩ := HF.out w2 hb2';clear d0 d2 d3 d4 d5 d6 d7;have d0 := d 0;have d2 := d 2;have d5 := d 5;have d6 := d 6;have d7 := d 7;have HB2 := Lib.hid (And.intro hb2' hbw2);clear hb2 hb2' hbw2 d;clear KN
   · have hans : R = false := by
      rw [HR.out];simp [Tr.Hd.shape,Tr.Hd.num,Tr.isText,Tr.own,hV,hS1]
     have HANS := Lib.hid hans;clear hans;go_wp2_with fail;go_ret;exact ⟨by rw [HANS.out]; rfl,HB2.out.2⟩
   · cases hS2 : Rt.noRat s2 t2 b2;all_goals
      have KN := HK2.out w2 HB2.out.2;rw [hS2] at KN;go_wp2_with fail;refine KN.mono ?_;rintro z w3 ⟨rfl,hb3⟩;have hb3' := HB2.out.1.trans (hb3.mono (by have := HB2.out.1.size; simp at this; omega));obtain ⟨d,hbw3⟩ := HF.out w3 hb3';clear d0 d2 d5 d6 d7;have d0 := d 0;have d1 := d 1;have d8 := d 8;have d9 := d 9;have d10 := d 10;have HB3 := Lib.hid (And.intro hb3' hbw3);clear hb3 hb3' hbw3 d;clear KN
     · have hans : R = false := by
        rw [HR.out];simp [Tr.Hd.shape,Tr.Hd.num,Tr.isText,Tr.own,hV,hS1,hS2]
       have HANS := Lib.hid hans;clear hans;go_wp2_with fail;go_ret;exact ⟨by rw [HANS.out]; rfl,HB3.out.2⟩
     · by_cases hxz : x.size = 0
       · have hxl : x.toList = [] := (Rd.empty x).2 hxz;by_cases hr : raw.size = 0
         · have hr0 : ¬ 0 < raw.size := by omega
           have hrI : ¬ (raw.size : Int) > 0 := by omega
           by_cases hN : N = 0
           · subst hN;by_cases hn : n = 2
             · have hnI : ((n : Int) == 2) = true := by subst hn; rfl
               have hans : R = true := by
                rw [HR.out];simp [Tr.Hd.shape,Tr.Hd.num,Tr.isText,Tr.own,hV,hS1,hS2,hxz,hr,hn]
               have HANS := Lib.hid hans;clear hans;go_wp2_with fail;go_ret;exact ⟨by rw [HANS.out]; rfl,HB3.out.2⟩
             · have hnI : ((n : Int) == 2) = false := beq_eq_false_iff_ne.2 (by omega);have hans : R = false := by
                rw [HR.out];simp [Tr.Hd.shape,Tr.Hd.num,Tr.isText,Tr.own,hV,hS1,hS2,hxz,hr,hn]
               have HANS := Lib.hid hans;clear hans;go_wp2_with fail;go_ret;exact ⟨by rw [HANS.out]; rfl,HB3.out.2⟩
           · have hNI : (N != 0) = true := by simpa using hN
             have hans : R = false := by
              rw [HR.out];simp [Tr.Hd.shape,Tr.Hd.num,Tr.isText,Tr.own,hV,hS1,hS2,hxz,hr,hN]
             have HANS := Lib.hid hans;clear hans;go_wp2_with fail;go_ret;exact ⟨by rw [HANS.out]; rfl,HB3.out.2⟩
         · have hr0 : 0 < raw.size := by omega
           have hrI : (raw.size : Int) > 0 := by omega
           have hans : R = false := by
            rw [HR.out];simp [Tr.Hd.shape,Tr.Hd.num,Tr.isText,Tr.own,hV,hS1,hS2,hxz,hr]
           have HANS := Lib.hid hans;clear hans;go_wp2_with fail;go_ret;exact ⟨by rw [HANS.out]; rfl,HB3.out.2⟩
       · have hxl : ¬ x.toList = [] := fun e => hxz ((Rd.empty x).1 e);have hxe : x.toList.isEmpty = false := by cases hh : x.toList with | nil => exact absurd hh hxl | cons a r => rfl
         have hans : R = false := by
          rw [HR.out];simp [Tr.Hd.shape,Tr.Hd.num,Tr.isText,Tr.own,hV,hS1,hS2,hxz]
         have HANS := Lib.hid hans;clear hans;go_wp2_with fail;go_ret;exact ⟨by rw [HANS.out]; rfl,HB3.out.2⟩
theorem Rd.shape9 (N : Int) (s1 s2 : Bool) (t1 b1 t2 b2 : List Nat) (x raw : ByteArray) (n : Nat) (a3 a4 a6 a7 a9 a10 : Option Addr) (c3 c4 c6 c7 c9 c10 : Nat) (w : World) (hx : x.size ≤ 1048576)
 (i3 : Nt.In w (.slice a3 t1.length c3) t1) (i4 : Nt.In w (.slice a4 b1.length c4) b1) (i6 : Nt.In w (.slice a6 t2.length c6) t2) (i7 : Nt.In w (.slice a7 b2.length c7) b2) (ok1 : Rt.GOk t1 b1) (ok2 : Rt.GOk t2 b2) :
 Calls Tryz.prog 23 #[.agg #[.int .i64 9,.int .i64 N,.bool s1,.slice a3 t1.length c3,.slice a4 b1.length c4,.bool s2,.slice a6 t2.length c6,.slice a7 b2.length c7,.string x,.slice a9 raw.size c9,.slice a10 n c10]] w fun e w' => e = .returned (.bool (Tr.Hd.shape ⟨9,N,s1,t1,b1,s2,t2,b2,x,raw⟩ n)) ∧ Below w.heap.size w w' := by
 obtain ⟨R,hR⟩ : ∃ z,z = Tr.Hd.shape ⟨9,N,s1,t1,b1,s2,t2,b2,x,raw⟩ n := ⟨_,rfl⟩
 rw [← hR]
 have HR := Lib.hid hR
 have hb0 : Below w.heap.size w (w.alloc (.cells #[.int .i64 9,.int .i64 N,.bool s1,.slice a3 t1.length c3,.slice a4 b1.length c4,.bool s2,.slice a6 t2.length c6,.slice a7 b2.length c7,.string x,.slice a9 raw.size c9,.slice a10 n c10] 30)) := (Below.refl _ _).alloc (Nat.le_refl _) _
 have hq0 : (w.alloc (.cells #[.int .i64 9,.int .i64 N,.bool s1,.slice a3 t1.length c3,.slice a4 b1.length c4,.bool s2,.slice a6 t2.length c6,.slice a7 b2.length c7,.string x,.slice a9 raw.size c9,.slice a10 n c10] 30)).heap[w.heap.size]? = some (.cells #[.int .i64 9,.int .i64 N,.bool s1,.slice a3 t1.length c3,.slice a4 b1.length c4,.bool s2,.slice a6 t2.length c6,.slice a7 b2.length c7,.string x,.slice a9 raw.size c9,.slice a10 n c10] 30 (0,0)) := heap_alloc_new w _
 have hz0 : (w.alloc (.cells #[.int .i64 9,.int .i64 N,.bool s1,.slice a3 t1.length c3,.slice a4 b1.length c4,.bool s2,.slice a6 t2.length c6,.slice a7 b2.length c7,.string x,.slice a9 raw.size c9,.slice a10 n c10] 30)).heap.size = w.heap.size + 1 := by simp
 have HF : Hid (∀ w',Below (w.heap.size + 1) (w.alloc (.cells #[.int .i64 9,.int .i64 N,.bool s1,.slice a3 t1.length c3,.slice a4 b1.length c4,.bool s2,.slice a6 t2.length c6,.slice a7 b2.length c7,.string x,.slice a9 raw.size c9,.slice a10 n c10] 30)) w' → (∀ j,w'.cell? ⟨w.heap.size,j,none⟩ = (#[.int .i64 9,.int .i64 N,.bool s1,.slice a3 t1.length c3,.slice a4 b1.length c4,.bool s2,.slice a6 t2.length c6,.slice a7 b2.length c7,.string x,.slice a9 raw.size c9,.slice a10 n c10] : Array Value)[j]?) ∧ Below w.heap.size w w') := Lib.hid (fun w' hb => by
   have a0 := (hb.block w.heap.size (Nat.lt_succ_self _)).trans hq0
   exact ⟨fun j => by simp [World.cell?,a0],hb0.trans (hb.mono (Nat.le_succ _))⟩)
 have KV := Ru.valid_any x (w.alloc (.cells #[.int .i64 9,.int .i64 N,.bool s1,.slice a3 t1.length c3,.slice a4 b1.length c4,.bool s2,.slice a6 t2.length c6,.slice a7 b2.length c7,.string x,.slice a9 raw.size c9,.slice a10 n c10] 30)) (by omega)
 rw [hz0] at KV
 have HK1 := Lib.hid (fun w' (hb : Below w.heap.size w w') => Rn.noRat_any s1 t1 b1 _ _ w' (i3.below hb (Nat.le_refl _)) (i4.below hb (Nat.le_refl _)) ok1.l1 ok1.l2)
 have HK2 := Lib.hid (fun w' (hb : Below w.heap.size w w') => Rn.noRat_any s2 t2 b2 _ _ w' (i6.below hb (Nat.le_refl _)) (i7.below hb (Nat.le_refl _)) ok2.l1 ok2.l2)
 clear hb0 hq0 hz0 hR i3 i4 i6 i7 ok1 ok2 hx
 cases hV : Lib.validD x.data.toList
 all_goals
  rw [hV] at KV
  go_enter Tryz.func23,Tryz.ntmps23
  go_wp2_with fail
  refine KV.mono ?_
  rintro z w1 ⟨rfl,hb1⟩
  obtain ⟨d,hbw1⟩ := HF.out w1 hb1
  have d0 := d 0
  have d2 := d 2
  have d3 := d 3
  have d4 := d 4
  have d5 := d 5
  have d6 := d 6
  have d7 := d 7
  have HB1 := Lib.hid (And.intro hb1 hbw1)
  clear hb1 hbw1 d KV
 · have hans : R = false := by
    rw [HR.out];simp [Tr.Hd.shape,Tr.Hd.num,Tr.isText,Tr.own,hV]
   have HANS := Lib.hid hans;clear hans;go_wp2_with fail;go_ret;exact ⟨by rw [HANS.out]; rfl,HB1.out.2⟩
 · cases hS1 : Rt.noRat s1 t1 b1;all_goals
    have KN := HK1.out w1 HB1.out.2;rw [hS1] at KN;go_wp2_with fail;refine KN.mono ?_;rintro z w2 ⟨rfl,hb2⟩;have hb2' := HB1.out.1.trans (hb2.mono (by have := HB1.out.1.size; simp at this; omega));obtain ⟨d,hbw2⟩ := HF.out w2 hb2';clear d0 d2 d3 d4 d5 d6 d7;have d0 := d 0;have d2 := d 2;have d5 := d 5;have d6 := d 6;have d7 := d 7;have HB2 := Lib.hid (And.intro hb2' hbw2);clear hb2 hb2' hbw2 d;clear KN
   · have hans : R = false := by
      rw [HR.out];simp [Tr.Hd.shape,Tr.Hd.num,Tr.isText,Tr.own,hV,hS1]
     have HANS := Lib.hid hans;clear hans;go_wp2_with fail;go_ret;exact ⟨by rw [HANS.out]; rfl,HB2.out.2⟩
   · cases hS2 : Rt.noRat s2 t2 b2;all_goals
      have KN := HK2.out w2 HB2.out.2;rw [hS2] at KN;go_wp2_with fail;refine KN.mono ?_;rintro z w3 ⟨rfl,hb3⟩;have hb3' := HB2.out.1.trans (hb3.mono (by have := HB2.out.1.size; simp at this; omega));obtain ⟨d,hbw3⟩ := HF.out w3 hb3';clear d0 d2 d5 d6 d7;have d0 := d 0;have d1 := d 1;have d8 := d 8;have d9 := d 9;have d10 := d 10;have HB3 := Lib.hid (And.intro hb3' hbw3);clear hb3 hb3' hbw3 d;clear KN
     · have hans : R = false := by
        rw [HR.out];simp [Tr.Hd.shape,Tr.Hd.num,Tr.isText,Tr.own,hV,hS1,hS2]
       have HANS := Lib.hid hans;clear hans;go_wp2_with fail;go_ret;exact ⟨by rw [HANS.out]; rfl,HB3.out.2⟩
     · by_cases hxz : x.size = 0
       · have hxl : x.toList = [] := (Rd.empty x).2 hxz;by_cases hr : raw.size = 0
         · have hr0 : ¬ 0 < raw.size := by omega
           have hrI : ¬ (raw.size : Int) > 0 := by omega
           by_cases hN : N = 0
           · subst hN;have hans : R = true := by
              rw [HR.out];simp [Tr.Hd.shape,Tr.Hd.num,Tr.isText,Tr.own,hV,hS1,hS2,hxz,hr]
             have HANS := Lib.hid hans;clear hans;go_wp2_with fail;go_ret;exact ⟨by rw [HANS.out]; rfl,HB3.out.2⟩
           · have hNI : (N != 0) = true := by simpa using hN
             have hans : R = false := by
              rw [HR.out];simp [Tr.Hd.shape,Tr.Hd.num,Tr.isText,Tr.own,hV,hS1,hS2,hxz,hr,hN]
             have HANS := Lib.hid hans;clear hans;go_wp2_with fail;go_ret;exact ⟨by rw [HANS.out]; rfl,HB3.out.2⟩
         · have hr0 : 0 < raw.size := by omega
           have hrI : (raw.size : Int) > 0 := by omega
           have hans : R = false := by
            rw [HR.out];simp [Tr.Hd.shape,Tr.Hd.num,Tr.isText,Tr.own,hV,hS1,hS2,hxz,hr]
           have HANS := Lib.hid hans;clear hans;go_wp2_with fail;go_ret;exact ⟨by rw [HANS.out]; rfl,HB3.out.2⟩
       · have hxl : ¬ x.toList = [] := fun e => hxz ((Rd.empty x).1 e);have hxe : x.toList.isEmpty = false := by cases hh : x.toList with | nil => exact absurd hh hxl | cons a r => rfl
         have hans : R = false := by
          rw [HR.out];simp [Tr.Hd.shape,Tr.Hd.num,Tr.isText,Tr.own,hV,hS1,hS2,hxz]
         have HANS := Lib.hid hans;clear hans;go_wp2_with fail;go_ret;exact ⟨by rw [HANS.out]; rfl,HB3.out.2⟩
theorem Rd.shape10 (N : Int) (s1 s2 : Bool) (t1 b1 t2 b2 : List Nat) (x raw : ByteArray) (n : Nat) (a3 a4 a6 a7 a9 a10 : Option Addr) (c3 c4 c6 c7 c9 c10 : Nat) (w : World) (hx : x.size ≤ 1048576)
 (i3 : Nt.In w (.slice a3 t1.length c3) t1) (i4 : Nt.In w (.slice a4 b1.length c4) b1) (i6 : Nt.In w (.slice a6 t2.length c6) t2) (i7 : Nt.In w (.slice a7 b2.length c7) b2) (ok1 : Rt.GOk t1 b1) (ok2 : Rt.GOk t2 b2) :
 Calls Tryz.prog 23 #[.agg #[.int .i64 10,.int .i64 N,.bool s1,.slice a3 t1.length c3,.slice a4 b1.length c4,.bool s2,.slice a6 t2.length c6,.slice a7 b2.length c7,.string x,.slice a9 raw.size c9,.slice a10 n c10]] w fun e w' => e = .returned (.bool (Tr.Hd.shape ⟨10,N,s1,t1,b1,s2,t2,b2,x,raw⟩ n)) ∧ Below w.heap.size w w' := by
 obtain ⟨R,hR⟩ : ∃ z,z = Tr.Hd.shape ⟨10,N,s1,t1,b1,s2,t2,b2,x,raw⟩ n := ⟨_,rfl⟩
 rw [← hR]
 have HR := Lib.hid hR
 have hb0 : Below w.heap.size w (w.alloc (.cells #[.int .i64 10,.int .i64 N,.bool s1,.slice a3 t1.length c3,.slice a4 b1.length c4,.bool s2,.slice a6 t2.length c6,.slice a7 b2.length c7,.string x,.slice a9 raw.size c9,.slice a10 n c10] 30)) := (Below.refl _ _).alloc (Nat.le_refl _) _
 have hq0 : (w.alloc (.cells #[.int .i64 10,.int .i64 N,.bool s1,.slice a3 t1.length c3,.slice a4 b1.length c4,.bool s2,.slice a6 t2.length c6,.slice a7 b2.length c7,.string x,.slice a9 raw.size c9,.slice a10 n c10] 30)).heap[w.heap.size]? = some (.cells #[.int .i64 10,.int .i64 N,.bool s1,.slice a3 t1.length c3,.slice a4 b1.length c4,.bool s2,.slice a6 t2.length c6,.slice a7 b2.length c7,.string x,.slice a9 raw.size c9,.slice a10 n c10] 30 (0,0)) := heap_alloc_new w _
 have hz0 : (w.alloc (.cells #[.int .i64 10,.int .i64 N,.bool s1,.slice a3 t1.length c3,.slice a4 b1.length c4,.bool s2,.slice a6 t2.length c6,.slice a7 b2.length c7,.string x,.slice a9 raw.size c9,.slice a10 n c10] 30)).heap.size = w.heap.size + 1 := by simp
 have HF : Hid (∀ w',Below (w.heap.size + 1) (w.alloc (.cells #[.int .i64 10,.int .i64 N,.bool s1,.slice a3 t1.length c3,.slice a4 b1.length c4,.bool s2,.slice a6 t2.length c6,.slice a7 b2.length c7,.string x,.slice a9 raw.size c9,.slice a10 n c10] 30)) w' → (∀ j,w'.cell? ⟨w.heap.size,j,none⟩ = (#[.int .i64 10,.int .i64 N,.bool s1,.slice a3 t1.length c3,.slice a4 b1.length c4,.bool s2,.slice a6 t2.length c6,.slice a7 b2.length c7,.string x,.slice a9 raw.size c9,.slice a10 n c10] : Array Value)[j]?) ∧ Below w.heap.size w w') := Lib.hid (fun w' hb => by
   have a0 := (hb.block w.heap.size (Nat.lt_succ_self _)).trans hq0
   exact ⟨fun j => by simp [World.cell?,a0],hb0.trans (hb.mono (Nat.le_succ _))⟩)
 have KV := Ru.valid_any x (w.alloc (.cells #[.int .i64 10,.int .i64 N,.bool s1,.slice a3 t1.length c3,.slice a4 b1.length c4,.bool s2,.slice a6 t2.length c6,.slice a7 b2.length c7,.string x,.slice a9 raw.size c9,.slice a10 n c10] 30)) (by omega)
 rw [hz0] at KV
 have HK1 := Lib.hid (fun w' (hb : Below w.heap.size w w') => Rn.noRat_any s1 t1 b1 _ _ w' (i3.below hb (Nat.le_refl _)) (i4.below hb (Nat.le_refl _)) ok1.l1 ok1.l2)
 have HK2 := Lib.hid (fun w' (hb : Below w.heap.size w w') => Rn.noRat_any s2 t2 b2 _ _ w' (i6.below hb (Nat.le_refl _)) (i7.below hb (Nat.le_refl _)) ok2.l1 ok2.l2)
 clear hb0 hq0 hz0 hR i3 i4 i6 i7 ok1 ok2 hx
 cases hV : Lib.validD x.data.toList
 all_goals
  rw [hV] at KV
  go_enter Tryz.func23,Tryz.ntmps23
  go_wp2_with fail
  refine KV.mono ?_
  rintro z w1 ⟨rfl,hb1⟩
  obtain ⟨d,hbw1⟩ := HF.out w1 hb1
  have d0 := d 0
  have d2 := d 2
  have d3 := d 3
  have d4 := d 4
  have d5 := d 5
  have d6 := d 6
  have d7 := d 7
  have HB1 := Lib.hid (And.intro hb1 hbw1)
  clear hb1 hbw1 d KV
 · have hans : R = false := by
    rw [HR.out];simp [Tr.Hd.shape,Tr.Hd.num,Tr.isText,Tr.own,hV]
   have HANS := Lib.hid hans;clear hans;go_wp2_with fail;go_ret;exact ⟨by rw [HANS.out]; rfl,HB1.out.2⟩
 · cases hS1 : Rt.noRat s1 t1 b1;all_goals
    have KN := HK1.out w1 HB1.out.2;rw [hS1] at KN;go_wp2_with fail;refine KN.mono ?_;rintro z w2 ⟨rfl,hb2⟩;have hb2' := HB1.out.1.trans (hb2.mono (by have := HB1.out.1.size; simp at this; omega));obtain ⟨d,hbw2⟩ := HF.out w2 hb2';clear d0 d2 d3 d4 d5 d6 d7;have d0 := d 0;have d2 := d 2;have d5 := d 5;have d6 := d 6;have d7 := d 7;have HB2 := Lib.hid (And.intro hb2' hbw2);clear hb2 hb2' hbw2 d;clear KN
   · have hans : R = false := by
      rw [HR.out];simp [Tr.Hd.shape,Tr.Hd.num,Tr.isText,Tr.own,hV,hS1]
     have HANS := Lib.hid hans;clear hans;go_wp2_with fail;go_ret;exact ⟨by rw [HANS.out]; rfl,HB2.out.2⟩
   · cases hS2 : Rt.noRat s2 t2 b2;all_goals
      have KN := HK2.out w2 HB2.out.2;rw [hS2] at KN;go_wp2_with fail;refine KN.mono ?_;rintro z w3 ⟨rfl,hb3⟩;have hb3' := HB2.out.1.trans (hb3.mono (by have := HB2.out.1.size; simp at this; omega));obtain ⟨d,hbw3⟩ := HF.out w3 hb3';clear d0 d2 d5 d6 d7;have d0 := d 0;have d1 := d 1;have d8 := d 8;have d9 := d 9;have d10 := d 10;have HB3 := Lib.hid (And.intro hb3' hbw3);clear hb3 hb3' hbw3 d;clear KN
     · have hans : R = false := by
        rw [HR.out];simp [Tr.Hd.shape,Tr.Hd.num,Tr.isText,Tr.own,hV,hS1,hS2]
       have HANS := Lib.hid hans;clear hans;go_wp2_with fail;go_ret;exact ⟨by rw [HANS.out]; rfl,HB3.out.2⟩
     · by_cases hxz : x.size = 0
       · have hxl : x.toList = [] := (Rd.empty x).2 hxz;by_cases hr : raw.size = 0
         · have hr0 : ¬ 0 < raw.size := by omega
           have hrI : ¬ (raw.size : Int) > 0 := by omega
           by_cases hN : N = 0
           · subst hN;by_cases hn : n = 0
             · have hnI : ((n : Int) == 0) = true := by subst hn; rfl
               have hans : R = true := by
                rw [HR.out];simp [Tr.Hd.shape,Tr.Hd.num,Tr.isText,Tr.own,hV,hS1,hS2,hxz,hr,hn]
               have HANS := Lib.hid hans;clear hans;go_wp2_with fail;go_ret;exact ⟨by rw [HANS.out]; rfl,HB3.out.2⟩
             · have hnI : ((n : Int) == 0) = false := beq_eq_false_iff_ne.2 (by omega);have hans : R = false := by
                rw [HR.out];simp [Tr.Hd.shape,Tr.Hd.num,Tr.isText,Tr.own,hV,hS1,hS2,hxz,hr,hn]
               have HANS := Lib.hid hans;clear hans;go_wp2_with fail;go_ret;exact ⟨by rw [HANS.out]; rfl,HB3.out.2⟩
           · have hNI : (N != 0) = true := by simpa using hN
             have hans : R = false := by
              rw [HR.out];simp [Tr.Hd.shape,Tr.Hd.num,Tr.isText,Tr.own,hV,hS1,hS2,hxz,hr,hN]
             have HANS := Lib.hid hans;clear hans;go_wp2_with fail;go_ret;exact ⟨by rw [HANS.out]; rfl,HB3.out.2⟩
         · have hr0 : 0 < raw.size := by omega
           have hrI : (raw.size : Int) > 0 := by omega
           have hans : R = false := by
            rw [HR.out];simp [Tr.Hd.shape,Tr.Hd.num,Tr.isText,Tr.own,hV,hS1,hS2,hxz,hr]
           have HANS := Lib.hid hans;clear hans;go_wp2_with fail;go_ret;exact ⟨by rw [HANS.out]; rfl,HB3.out.2⟩
       · have hxl : ¬ x.toList = [] := fun e => hxz ((Rd.empty x).1 e);have hxe : x.toList.isEmpty = false := by cases hh : x.toList with | nil => exact absurd hh hxl | cons a r => rfl
         have hans : R = false := by
          rw [HR.out];simp [Tr.Hd.shape,Tr.Hd.num,Tr.isText,Tr.own,hV,hS1,hS2,hxz]
         have HANS := Lib.hid hans;clear hans;go_wp2_with fail;go_ret;exact ⟨by rw [HANS.out]; rfl,HB3.out.2⟩
theorem Rd.shape11 (N : Int) (s1 s2 : Bool) (t1 b1 t2 b2 : List Nat) (x raw : ByteArray) (n : Nat) (a3 a4 a6 a7 a9 a10 : Option Addr) (c3 c4 c6 c7 c9 c10 : Nat) (w : World) (hx : x.size ≤ 1048576)
 (i3 : Nt.In w (.slice a3 t1.length c3) t1) (i4 : Nt.In w (.slice a4 b1.length c4) b1) (i6 : Nt.In w (.slice a6 t2.length c6) t2) (i7 : Nt.In w (.slice a7 b2.length c7) b2) (ok1 : Rt.GOk t1 b1) (ok2 : Rt.GOk t2 b2) :
 Calls Tryz.prog 23 #[.agg #[.int .i64 11,.int .i64 N,.bool s1,.slice a3 t1.length c3,.slice a4 b1.length c4,.bool s2,.slice a6 t2.length c6,.slice a7 b2.length c7,.string x,.slice a9 raw.size c9,.slice a10 n c10]] w fun e w' => e = .returned (.bool (Tr.Hd.shape ⟨11,N,s1,t1,b1,s2,t2,b2,x,raw⟩ n)) ∧ Below w.heap.size w w' := by
 obtain ⟨R,hR⟩ : ∃ z,z = Tr.Hd.shape ⟨11,N,s1,t1,b1,s2,t2,b2,x,raw⟩ n := ⟨_,rfl⟩
 rw [← hR]
 have HR := Lib.hid hR
 have hb0 : Below w.heap.size w (w.alloc (.cells #[.int .i64 11,.int .i64 N,.bool s1,.slice a3 t1.length c3,.slice a4 b1.length c4,.bool s2,.slice a6 t2.length c6,.slice a7 b2.length c7,.string x,.slice a9 raw.size c9,.slice a10 n c10] 30)) := (Below.refl _ _).alloc (Nat.le_refl _) _
 have hq0 : (w.alloc (.cells #[.int .i64 11,.int .i64 N,.bool s1,.slice a3 t1.length c3,.slice a4 b1.length c4,.bool s2,.slice a6 t2.length c6,.slice a7 b2.length c7,.string x,.slice a9 raw.size c9,.slice a10 n c10] 30)).heap[w.heap.size]? = some (.cells #[.int .i64 11,.int .i64 N,.bool s1,.slice a3 t1.length c3,.slice a4 b1.length c4,.bool s2,.slice a6 t2.length c6,.slice a7 b2.length c7,.string x,.slice a9 raw.size c9,.slice a10 n c10] 30 (0,0)) := heap_alloc_new w _
 have hz0 : (w.alloc (.cells #[.int .i64 11,.int .i64 N,.bool s1,.slice a3 t1.length c3,.slice a4 b1.length c4,.bool s2,.slice a6 t2.length c6,.slice a7 b2.length c7,.string x,.slice a9 raw.size c9,.slice a10 n c10] 30)).heap.size = w.heap.size + 1 := by simp
 have HF : Hid (∀ w',Below (w.heap.size + 1) (w.alloc (.cells #[.int .i64 11,.int .i64 N,.bool s1,.slice a3 t1.length c3,.slice a4 b1.length c4,.bool s2,.slice a6 t2.length c6,.slice a7 b2.length c7,.string x,.slice a9 raw.size c9,.slice a10 n c10] 30)) w' → (∀ j,w'.cell? ⟨w.heap.size,j,none⟩ = (#[.int .i64 11,.int .i64 N,.bool s1,.slice a3 t1.length c3,.slice a4 b1.length c4,.bool s2,.slice a6 t2.length c6,.slice a7 b2.length c7,.string x,.slice a9 raw.size c9,.slice a10 n c10] : Array Value)[j]?) ∧ Below w.heap.size w w') := Lib.hid (fun w' hb => by
   have a0 := (hb.block w.heap.size (Nat.lt_succ_self _)).trans hq0
   exact ⟨fun j => by simp [World.cell?,a0],hb0.trans (hb.mono (Nat.le_succ _))⟩)
 have KV := Ru.valid_any x (w.alloc (.cells #[.int .i64 11,.int .i64 N,.bool s1,.slice a3 t1.length c3,.slice a4 b1.length c4,.bool s2,.slice a6 t2.length c6,.slice a7 b2.length c7,.string x,.slice a9 raw.size c9,.slice a10 n c10] 30)) (by omega)
 rw [hz0] at KV
 have HK1 := Lib.hid (fun w' (hb : Below w.heap.size w w') => Rn.noRat_any s1 t1 b1 _ _ w' (i3.below hb (Nat.le_refl _)) (i4.below hb (Nat.le_refl _)) ok1.l1 ok1.l2)
 have HK2 := Lib.hid (fun w' (hb : Below w.heap.size w w') => Rn.noRat_any s2 t2 b2 _ _ w' (i6.below hb (Nat.le_refl _)) (i7.below hb (Nat.le_refl _)) ok2.l1 ok2.l2)
 clear hb0 hq0 hz0 hR i3 i4 i6 i7 ok1 ok2 hx
 cases hV : Lib.validD x.data.toList
 all_goals
  rw [hV] at KV
  go_enter Tryz.func23,Tryz.ntmps23
  go_wp2_with fail
  refine KV.mono ?_
  rintro z w1 ⟨rfl,hb1⟩
  obtain ⟨d,hbw1⟩ := HF.out w1 hb1
  have d0 := d 0
  have d2 := d 2
  have d3 := d 3
  have d4 := d 4
  have d5 := d 5
  have d6 := d 6
  have d7 := d 7
  have HB1 := Lib.hid (And.intro hb1 hbw1)
  clear hb1 hbw1 d KV
 · have hans : R = false := by
    rw [HR.out];simp [Tr.Hd.shape,Tr.Hd.num,Tr.isText,Tr.own,hV]
   have HANS := Lib.hid hans;clear hans;go_wp2_with fail;go_ret;exact ⟨by rw [HANS.out]; rfl,HB1.out.2⟩
 · cases hS1 : Rt.noRat s1 t1 b1;all_goals
    have KN := HK1.out w1 HB1.out.2;rw [hS1] at KN;go_wp2_with fail;refine KN.mono ?_;rintro z w2 ⟨rfl,hb2⟩;have hb2' := HB1.out.1.trans (hb2.mono (by have := HB1.out.1.size; simp at this; omega));obtain ⟨d,hbw2⟩ := HF.out w2 hb2';clear d0 d2 d3 d4 d5 d6 d7;have d0 := d 0;have d2 := d 2;have d5 := d 5;have d6 := d 6;have d7 := d 7;have HB2 := Lib.hid (And.intro hb2' hbw2);clear hb2 hb2' hbw2 d;clear KN
   · have hans : R = false := by
      rw [HR.out];simp [Tr.Hd.shape,Tr.Hd.num,Tr.isText,Tr.own,hV,hS1]
     have HANS := Lib.hid hans;clear hans;go_wp2_with fail;go_ret;exact ⟨by rw [HANS.out]; rfl,HB2.out.2⟩
   · cases hS2 : Rt.noRat s2 t2 b2;all_goals
      have KN := HK2.out w2 HB2.out.2;rw [hS2] at KN;go_wp2_with fail;refine KN.mono ?_;rintro z w3 ⟨rfl,hb3⟩;have hb3' := HB2.out.1.trans (hb3.mono (by have := HB2.out.1.size; simp at this; omega));obtain ⟨d,hbw3⟩ := HF.out w3 hb3';clear d0 d2 d5 d6 d7;have d0 := d 0;have d1 := d 1;have d8 := d 8;have d9 := d 9;have d10 := d 10;have HB3 := Lib.hid (And.intro hb3' hbw3);clear hb3 hb3' hbw3 d;clear KN
     · have hans : R = false := by
        rw [HR.out];simp [Tr.Hd.shape,Tr.Hd.num,Tr.isText,Tr.own,hV,hS1,hS2]
       have HANS := Lib.hid hans;clear hans;go_wp2_with fail;go_ret;exact ⟨by rw [HANS.out]; rfl,HB3.out.2⟩
     · by_cases hxz : x.size = 0
       · have hxl : x.toList = [] := (Rd.empty x).2 hxz;by_cases hr : raw.size = 0
         · have hr0 : ¬ 0 < raw.size := by omega
           have hrI : ¬ (raw.size : Int) > 0 := by omega
           by_cases hN : N = 0
           · subst hN;by_cases hn : n = 0
             · have hnI : ((n : Int) == 0) = true := by subst hn; rfl
               have hans : R = true := by
                rw [HR.out];simp [Tr.Hd.shape,Tr.Hd.num,Tr.isText,Tr.own,hV,hS1,hS2,hxz,hr,hn]
               have HANS := Lib.hid hans;clear hans;go_wp2_with fail;go_ret;exact ⟨by rw [HANS.out]; rfl,HB3.out.2⟩
             · have hnI : ((n : Int) == 0) = false := beq_eq_false_iff_ne.2 (by omega);have hans : R = false := by
                rw [HR.out];simp [Tr.Hd.shape,Tr.Hd.num,Tr.isText,Tr.own,hV,hS1,hS2,hxz,hr,hn]
               have HANS := Lib.hid hans;clear hans;go_wp2_with fail;go_ret;exact ⟨by rw [HANS.out]; rfl,HB3.out.2⟩
           · have hNI : (N != 0) = true := by simpa using hN
             have hans : R = false := by
              rw [HR.out];simp [Tr.Hd.shape,Tr.Hd.num,Tr.isText,Tr.own,hV,hS1,hS2,hxz,hr,hN]
             have HANS := Lib.hid hans;clear hans;go_wp2_with fail;go_ret;exact ⟨by rw [HANS.out]; rfl,HB3.out.2⟩
         · have hr0 : 0 < raw.size := by omega
           have hrI : (raw.size : Int) > 0 := by omega
           have hans : R = false := by
            rw [HR.out];simp [Tr.Hd.shape,Tr.Hd.num,Tr.isText,Tr.own,hV,hS1,hS2,hxz,hr]
           have HANS := Lib.hid hans;clear hans;go_wp2_with fail;go_ret;exact ⟨by rw [HANS.out]; rfl,HB3.out.2⟩
       · have hxl : ¬ x.toList = [] := fun e => hxz ((Rd.empty x).1 e);have hxe : x.toList.isEmpty = false := by cases hh : x.toList with | nil => exact absurd hh hxl | cons a r => rfl
         by_cases hr : raw.size = 0
         · have hr0 : ¬ 0 < raw.size := by omega
           have hrI : ¬ (raw.size : Int) > 0 := by omega
           by_cases hN : N = 0
           · subst hN;by_cases hn : n = 0
             · have hnI : ((n : Int) == 0) = true := by subst hn; rfl
               have hans : R = true := by
                rw [HR.out];simp [Tr.Hd.shape,Tr.Hd.num,Tr.isText,Tr.own,hV,hS1,hS2,hxz,hr,hn]
               have HANS := Lib.hid hans;clear hans;go_wp2_with fail;go_ret;exact ⟨by rw [HANS.out]; rfl,HB3.out.2⟩
             · have hnI : ((n : Int) == 0) = false := beq_eq_false_iff_ne.2 (by omega);have hans : R = false := by
                rw [HR.out];simp [Tr.Hd.shape,Tr.Hd.num,Tr.isText,Tr.own,hV,hS1,hS2,hxz,hr,hn]
               have HANS := Lib.hid hans;clear hans;go_wp2_with fail;go_ret;exact ⟨by rw [HANS.out]; rfl,HB3.out.2⟩
           · have hNI : (N != 0) = true := by simpa using hN
             have hans : R = false := by
              rw [HR.out];simp [Tr.Hd.shape,Tr.Hd.num,Tr.isText,Tr.own,hV,hS1,hS2,hxz,hr,hN]
             have HANS := Lib.hid hans;clear hans;go_wp2_with fail;go_ret;exact ⟨by rw [HANS.out]; rfl,HB3.out.2⟩
         · have hr0 : 0 < raw.size := by omega
           have hrI : (raw.size : Int) > 0 := by omega
           have hans : R = false := by
            rw [HR.out];simp [Tr.Hd.shape,Tr.Hd.num,Tr.isText,Tr.own,hV,hS1,hS2,hxz,hr]
           have HANS := Lib.hid hans;clear hans;go_wp2_with fail;go_ret;exact ⟨by rw [HANS.out]; rfl,HB3.out.2⟩
theorem Rd.shape_out (k : Int) (hk : k < 1 ∨ k > 11) (N : Int) (s1 s2 : Bool) (v3 v4 v6 v7 v9 v10 : Value) (x : ByteArray) (w : World) :
 Calls Tryz.prog 23 #[.agg #[.int .i64 k,.int .i64 N,.bool s1,v3,v4,.bool s2,v6,v7,.string x,v9,v10]] w fun e w' => e = .returned (.bool false) ∧ Below w.heap.size w w' := by
 have HB : Hid (∀ o,Below w.heap.size w (w.alloc o)) := Lib.hid (fun o => (Below.refl _ _).alloc (Nat.le_refl _) _)
 rcases hk with hk | hk
 · go_enter Tryz.func23,Tryz.ntmps23;go_wp2_with fail;go_ret;exact ⟨rfl,HB.out _⟩
 · have hk1 : ¬ k < 1 := by omega
   go_enter Tryz.func23,Tryz.ntmps23;go_wp2_with fail;go_ret;exact ⟨rfl,HB.out _⟩
set_option maxHeartbeats 200000
set_option maxRecDepth 512
theorem Rd.shape_any (h : Tr.Hd) (n : Nat) (v3 v4 v6 v7 v9 : Value) (a10 : Option Addr) (c10 : Nat) (S : Nat → Prop) (w : World) (hI : Tr.Hd.In w S h v3 v4 v6 v7 v9) (hx : h.x.size ≤ 1048576) :
 Calls Tryz.prog 23 #[.agg (Tr.cells h v3 v4 v6 v7 v9 (.slice a10 n c10))] w fun e w' => e = .returned (.bool (h.shape n)) ∧ Below w.heap.size w w' := by
 obtain ⟨ok,i3,i4,i6,i7,i9,_,_,_,_,_⟩ := hI
 obtain ⟨a3,c3,rfl⟩ := i3.slice
 obtain ⟨a4,c4,rfl⟩ := i4.slice
 obtain ⟨a6,c6,rfl⟩ := i6.slice
 obtain ⟨a7,c7,rfl⟩ := i7.slice
 obtain ⟨a9,c9,rfl⟩ := i9.slice
 have ok1 : Rt.GOk h.t1 h.b1 := ⟨ok.w1,ok.w2,ok.l1,ok.l2⟩
 have ok2 : Rt.GOk h.t2 h.b2 := ⟨ok.w3,ok.w4,ok.l3,ok.l4⟩
 clear ok i9
 obtain ⟨k,N,s1,t1,b1,s2,t2,b2,x,raw⟩ := h
 unfold Tr.cells
 dsimp only at *
 by_cases hk : k < 1 ∨ k > 11
 · have hs : Tr.Hd.shape ⟨k,N,s1,t1,b1,s2,t2,b2,x,raw⟩ n = false := by
    have h1 : Tr.own k N n = false := by
     unfold Tr.own;rw [if_neg (by omega),if_neg (by omega),if_neg (by omega),if_neg (by omega)];rcases hk with hk | hk
     · rw [decide_eq_false (show ¬ 1 ≤ k by omega)]; rfl
     · rw [decide_eq_false (show ¬ k ≤ 11 by omega)]; simp
    unfold Tr.Hd.shape;dsimp only;rw [h1];simp
   rw [hs];exact Rd.shape_out k hk N s1 s2 _ _ _ _ _ _ x w
 · rcases (show k = 1 ∨ k = 2 ∨ k = 3 ∨ k = 4 ∨ k = 5 ∨ k = 6 ∨ k = 7 ∨ k = 8 ∨ k = 9 ∨ k = 10 ∨ k = 11 by omega) with rfl | rfl | rfl | rfl | rfl | rfl | rfl | rfl | rfl | rfl | rfl
   · exact Rd.shape1 N s1 s2 t1 b1 t2 b2 x raw n a3 a4 a6 a7 a9 a10 c3 c4 c6 c7 c9 c10 w hx i3 i4 i6 i7 ok1 ok2
   · exact Rd.shape2 N s1 s2 t1 b1 t2 b2 x raw n a3 a4 a6 a7 a9 a10 c3 c4 c6 c7 c9 c10 w hx i3 i4 i6 i7 ok1 ok2
   · exact Rd.shape3 N s1 s2 t1 b1 t2 b2 x raw n a3 a4 a6 a7 a9 a10 c3 c4 c6 c7 c9 c10 w hx i3 i4 i6 i7 ok1 ok2
   · exact Rd.shape4 N s1 s2 t1 b1 t2 b2 x raw n a3 a4 a6 a7 a9 a10 c3 c4 c6 c7 c9 c10 w hx i3 i4 i6 i7 ok1 ok2
   · exact Rd.shape5 N s1 s2 t1 b1 t2 b2 x raw n a3 a4 a6 a7 a9 a10 c3 c4 c6 c7 c9 c10 w hx i3 i4 i6 i7 ok1 ok2
   · exact Rd.shape6 N s1 s2 t1 b1 t2 b2 x raw n a3 a4 a6 a7 a9 a10 c3 c4 c6 c7 c9 c10 w hx i3 i4 i6 i7 ok1 ok2
   · exact Rd.shape7 N s1 s2 t1 b1 t2 b2 x raw n a3 a4 a6 a7 a9 a10 c3 c4 c6 c7 c9 c10 w hx i3 i4 i6 i7 ok1 ok2
   · exact Rd.shape8 N s1 s2 t1 b1 t2 b2 x raw n a3 a4 a6 a7 a9 a10 c3 c4 c6 c7 c9 c10 w hx i3 i4 i6 i7 ok1 ok2
   · exact Rd.shape9 N s1 s2 t1 b1 t2 b2 x raw n a3 a4 a6 a7 a9 a10 c3 c4 c6 c7 c9 c10 w hx i3 i4 i6 i7 ok1 ok2
   · exact Rd.shape10 N s1 s2 t1 b1 t2 b2 x raw n a3 a4 a6 a7 a9 a10 c3 c4 c6 c7 c9 c10 w hx i3 i4 i6 i7 ok1 ok2
   · exact Rd.shape11 N s1 s2 t1 b1 t2 b2 x raw n a3 a4 a6 a7 a9 a10 c3 c4 c6 c7 c9 c10 w hx i3 i4 i6 i7 ok1 ok2
end Go.Proofs.YteklhapffplohaaGreatDoor
namespace Go.Proofs.YteklhapffplohaaGreatDoor
open Go.RowKit
end Go.Proofs.YteklhapffplohaaGreatDoor
namespace Go.Proofs.YteklhapffplohaaGreatDoor
open Go.RowKit
end Go.Proofs.YteklhapffplohaaGreatDoor
namespace Go.Proofs.YteklhapffplohaaGreatDoor
open Go.RowKit
mutual
def Rd.cnt : Tr → Int → Int → Int
 | .mk h l,d,left => if d > 200 ∨ left ≤ 0 ∨ h.shape l.length = false then -1 else Rd.cntL (h.k == 8) d l 0 (left - 1)
def Rd.cntL (p : Bool) (d : Int) : List Tr → Nat → Int → Int
 | [],_,left => left
 | t :: ts,i,left => if left < 0 then left else Rd.cntL p d ts (i + 1) (Rd.cnt t (if p = true ∧ i = 1 then d else d + 1) left)
end
theorem Rd.cnt_bad {h : Tr.Hd} {l : List Tr} {d left : Int} (hb : d > 200 ∨ left ≤ 0 ∨ h.shape l.length = false) : Rd.cnt (.mk h l) d left = -1 := by rw [Rd.cnt,if_pos hb]
theorem Rd.cnt_good {h : Tr.Hd} {l : List Tr} {d left : Int} (hb : ¬ (d > 200 ∨ left ≤ 0 ∨ h.shape l.length = false)) : Rd.cnt (.mk h l) d left = Rd.cntL (h.k == 8) d l 0 (left - 1) := by rw [Rd.cnt,if_neg hb]
theorem Rd.cntL_nil {p : Bool} {d : Int} {i : Nat} {left : Int} : Rd.cntL p d [] i left = left := by rw [Rd.cntL]
theorem Rd.cntL_cons {p : Bool} {d : Int} {t : Tr} {ts : List Tr} {i : Nat} {left : Int} : Rd.cntL p d (t :: ts) i left = if left < 0 then left else Rd.cntL p d ts (i + 1) (Rd.cnt t (if p = true ∧ i = 1 then d else d + 1) left) := by rw [Rd.cntL]
theorem Rd.cntL_neg {p : Bool} {d : Int} {l : List Tr} {i : Nat} {left : Int} (h : left < 0) : Rd.cntL p d l i left = left := by
 cases l with
 | nil => exact Rd.cntL_nil
 | cons t ts => rw [Rd.cntL_cons,if_pos h]
mutual
theorem Rd.cnt_rng : ∀ (t : Tr) (d left : Int),left ≤ 20000 → -1 ≤ Rd.cnt t d left ∧ Rd.cnt t d left ≤ 20000
 | .mk h l,d,left,hl => by
   by_cases hb : d > 200 ∨ left ≤ 0 ∨ h.shape l.length = false
   · rw [Rd.cnt_bad hb]; omega
   · rw [Rd.cnt_good hb];exact Rd.cntL_rng (h.k == 8) d l 0 (left - 1) (by omega) (by omega)
theorem Rd.cntL_rng : ∀ (p : Bool) (d : Int) (l : List Tr) (i : Nat) (left : Int),-1 ≤ left → left ≤ 20000 → -1 ≤ Rd.cntL p d l i left ∧ Rd.cntL p d l i left ≤ 20000
 | p,d,[],i,left,h1,h2 => by rw [Rd.cntL_nil]; exact ⟨h1,h2⟩
 | p,d,t :: ts,i,left,h1,h2 => by
   rw [Rd.cntL_cons];split
   · exact ⟨h1,h2⟩
   · have h3 := Rd.cnt_rng t (if p = true ∧ i = 1 then d else d + 1) left h2;exact Rd.cntL_rng p d ts (i + 1) _ h3.1 h3.2
end
def Rd.CountSays (t : Tr) : Prop := ∀ (S : Nat → Prop) (C : Array Value) (w : World) (d left : Int),Tr.In w S t (.agg C) → Tr.Tabs w → Tr.txt t → 0 ≤ d → d ≤ 1000 → -1 ≤ left → left ≤ 20000 →
 Calls Tryz.prog 15 #[.agg C,.int .i64 d,.int .i64 left] w fun e w' => e = .returned (.int .i64 (Rd.cnt t d left)) ∧ Below w.heap.size w w'
set_option maxHeartbeats 600000
set_option maxRecDepth 1000000
theorem Rd.count_step (t : Tr) (IH : ∀ u,Tr.size u < Tr.size t → Rd.CountSays u) : Rd.CountSays t := by
 intro S C w d left hI hT htx hd0 hd1 hl0 hl1;obtain ⟨h,l⟩ := t;rw [Tr.In_mk] at hI;obtain ⟨v3,v4,v6,v7,v9,v10,e,hH,hL⟩ := hI;cases e;obtain ⟨p3,d3,rfl⟩ := hH.i3.slice;obtain ⟨p4,d4,rfl⟩ := hH.i4.slice;obtain ⟨p6,d6,rfl⟩ := hH.i6.slice;obtain ⟨p7,d7,rfl⟩ := hH.i7.slice;obtain ⟨p9,d9,rfl⟩ := hH.i9.slice;obtain ⟨p10,d10,rfl,hcap10,hmax10⟩ := Tr.Sl.slice hL;have hlen : l.length ≤ 9223372036854775807 := by
  rcases hmax10 with h0 | h0 <;> omega
 obtain ⟨W0,hW0⟩ : ∃ z,w.alloc (.cells #[.int .i64 h.k,.int .i64 h.n,.bool h.s1,.slice p3 h.t1.length d3,.slice p4 h.b1.length d4,.bool h.s2,.slice p6 h.t2.length d6,.slice p7 h.b2.length d7,.string h.x,.slice p9 h.raw.size d9,.slice p10 l.length d10] 30) = z := ⟨_,rfl⟩;have hb0 : Below w.heap.size w W0 := by rw [← hW0]; exact (Below.refl _ _).alloc (Nat.le_refl _) _
 have hq0 : W0.heap[w.heap.size]? = some (.cells #[.int .i64 h.k,.int .i64 h.n,.bool h.s1,.slice p3 h.t1.length d3,.slice p4 h.b1.length d4,.bool h.s2,.slice p6 h.t2.length d6,.slice p7 h.b2.length d7,.string h.x,.slice p9 h.raw.size d9,.slice p10 l.length d10] 30 (0,0)) := by rw [← hW0]; exact heap_alloc_new w _
 have hz0 : W0.heap.size = w.heap.size + 1 := by rw [← hW0]; simp
 have HF : Hid (∀ w',Below (w.heap.size + 1) W0 w' → (∀ j,w'.cell? ⟨w.heap.size,j,none⟩ = (#[.int .i64 h.k,.int .i64 h.n,.bool h.s1,.slice p3 h.t1.length d3,.slice p4 h.b1.length d4,.bool h.s2,.slice p6 h.t2.length d6,.slice p7 h.b2.length d7,.string h.x,.slice p9 h.raw.size d9,.slice p10 l.length d10] : Array Value)[j]?) ∧ Below w.heap.size w w') := Lib.hid (fun w' hb => by
   have a0 := (hb.block w.heap.size (Nat.lt_succ_self _)).trans hq0
   exact ⟨fun j => by simp [World.cell?,a0],hb0.trans (hb.mono (Nat.le_succ _))⟩)
 have KS := Rd.shape_any h l.length _ _ _ _ _ p10 d10 S W0 (hH.kept (Tr.Kept.all hb0 (Nat.le_refl _))) (Tr.txt_mk.1 htx).1;unfold Tr.cells at KS;rw [hz0] at KS;obtain ⟨R,hR⟩ : ∃ z,z = Rd.cnt (.mk h l) d left := ⟨_,rfl⟩;rw [← hR];have HR := Lib.hid hR;have HLL := Lib.hid hL;have HIH := Lib.hid IH;have HTX := Lib.hid (Tr.txt_mk.1 htx).2;have HB0 := Lib.hid (Below.refl (w.heap.size + 1) W0);have HTA := Lib.hid hT;obtain ⟨dd,hdd⟩ := (HF.out W0 HB0.out);have q0 := dd 0;have q1 := dd 1;have q2 := dd 2;have q3 := dd 3;have q4 := dd 4;have q5 := dd 5;have q6 := dd 6;have q7 := dd 7;have q8 := dd 8;have q9 := dd 9;have q10 := dd 10;have HDD := Lib.hid hdd;clear hb0 hq0 hR hH hL IH htx hcap10 hmax10 hT dd hdd;unfold Tr.cells;by_cases h1 : d > 200
 · have hans : R = -1 := by rw [HR.out]; exact Rd.cnt_bad (.inl h1)
   subst hans;go_enter Tryz.func15,Tryz.ntmps15;go_wp2_with fail;go_ret;exact ⟨rfl,HDD.out⟩
 by_cases h2 : left ≤ 0
 · have hans : R = -1 := by rw [HR.out]; exact Rd.cnt_bad (.inr (.inl h2))
   subst hans;go_enter Tryz.func15,Tryz.ntmps15;go_wp2_with fail;go_ret;exact ⟨rfl,HDD.out⟩
 go_enter Tryz.func15,Tryz.ntmps15;go_wp2_with fail;refine KS.mono ?_;rintro z w1 ⟨rfl,hb1⟩;clear q0 q1 q2 q3 q4 q5 q6 q7 q8 q9 q10 KS;have HB1 := Lib.hid hb1;obtain ⟨dd,hbw1⟩ := HF.out w1 hb1;have HBW1 := Lib.hid hbw1;have q0 := dd 0;have q10 := dd 10;clear hb1 dd hbw1;cases hsh : h.shape l.length
 · have hans : R = -1 := by rw [HR.out]; exact Rd.cnt_bad (.inr (.inr hsh))
   subst hans;go_wp2_with fail;go_ret;exact ⟨rfl,HBW1.out⟩
 have HR2 : Hid (R = Rd.cntL (h.k == 8) d l 0 (left - 1)) := Lib.hid (by
   rw [HR.out];refine Rd.cnt_good ?_;rintro (h3 | h3 | h3)
   · omega
   · omega
   · rw [hsh] at h3; cases h3)
 clear hsh;go_wp2_with fail;go_loopg [2,7] l.length (fun g lv i wr => ∃ (k : Nat) (lf : Int),k + g = l.length ∧ i = .int .i64 k ∧ lv = .int .i64 lf ∧ -1 ≤ lf ∧ lf ≤ 20000 ∧ R = Rd.cntL (h.k == 8) d (l.drop k) k lf ∧ Below (w.heap.size + 1) W0 wr);case atStart => exact ⟨0,left - 1,by omega,rfl,rfl,by omega,by omega,HR2.out,HB1.out⟩
 case round =>
  obtain ⟨k,lf,hkg,rfl,rfl,hf0,hf1,hans,hb⟩ := hrel;obtain ⟨wo,hwo⟩ : ∃ z,z = wr := ⟨_,rfl⟩;subst hwo;have HB := Lib.hid hb;have HANS := Lib.hid hans;clear q0 q10;obtain ⟨dd,hbw⟩ := HF.out wo hb;have HBW := Lib.hid hbw;have q0 := dd 0;have q10 := dd 10;clear hb hans dd;by_cases hlt : k < l.length
  · by_cases hlf : lf ≥ 0
    · obtain ⟨tk,htk⟩ : ∃ t,l[k]? = some t := ⟨_,List.getElem?_eq_getElem hlt⟩;obtain ⟨b,off,rfl,_,_,_,hblt,hSb,hall⟩ := Tr.Sl.at HLL.out (by omega);obtain ⟨Ck,hIk,hMk⟩ := Tr.All.at _ _ _ hall k tk htk;rw [Nat.mul_comm 11 k] at hMk;have hM4 := hMk.kept (Tr.Kept.all hbw (Nat.le_refl _)) hSb hblt;have KT := fun d' h3 h4 => HIH.out tk (Tr.size_lt (t := .mk h l) (k := k) htk) S Ck wo d' lf (Tr.In.below hIk hbw (Nat.le_refl _)) (HTA.out.below hbw) (Tr.txtL_at HTX.out htk) h3 h4 hf0 hf1;have HDR : Hid (l.drop k = tk :: l.drop (k + 1)) := Lib.hid (by
        obtain ⟨h1,h2⟩ := List.getElem?_eq_some_iff.1 htk
        rw [List.drop_eq_getElem_cons h1,h2])
      obtain ⟨he,le,ab3,ab4,ab6,ab7,ab9,ab10,nb3,nb4,nb6,nb7,nb9,nb10,cb3,cb4,cb6,cb7,cb9,cb10,eCb,ebt,hbH,hbL⟩ := Tr.In.form2 hIk;subst eCb;clear ebt hbH hbL;unfold Tr.cells at KT hM4;obtain ⟨e0,e1,e2,e3,e4,e5,e6,e7,e8,e9,e10⟩ := Tr.Mem.cells hM4;have HRG := Lib.hid (fun d' => Rd.cnt_rng tk d' lf hf1);have HKT := Lib.hid KT;clear hIk hMk hall htk hblt hSb hM4 KT hbw;cases hB : (h.k == 8)
      · have HPN : Hid (¬ ((h.k == 8) = true ∧ k = 1)) := Lib.hid (fun e => by rw [hB] at e; cases e.1);go_wp2_with fail;refine (HKT.out (d + 1) (by omega) (by omega)).mono ?_;rintro z w5 ⟨rfl,hb5⟩;have HB5 := Lib.hid (HB.out.trans (hb5.mono (by have := HB.out.size; omega)));clear hb5;go_wp2_with fail;go_roundg (gk - 1);case measure => omega
        case rel =>
         refine ⟨k + 1,_,by omega,by first | rfl | go_num | (simp; try omega),rfl,(HRG.out (d + 1)).1,(HRG.out (d + 1)).2,?_,HB5.out⟩;rw [HANS.out,HDR.out,Rd.cntL_cons,if_neg (by omega),if_neg HPN.out]
      · have HPB : Hid ((h.k == 8) = true) := Lib.hid hB;by_cases hk1 : k = 1
        · subst hk1;go_wp2_with fail;refine (HKT.out d (by omega) (by omega)).mono ?_;rintro z w5 ⟨rfl,hb5⟩;have HB5 := Lib.hid (HB.out.trans (hb5.mono (by have := HB.out.size; omega)));clear hb5;go_wp2_with fail;go_roundg (gk - 1);case measure => omega
          case rel =>
           refine ⟨2,_,by omega,by first | rfl | go_num | (simp; try omega),rfl,(HRG.out d).1,(HRG.out d).2,?_,HB5.out⟩;rw [HANS.out,HDR.out,Rd.cntL_cons,if_neg (by omega),if_pos ⟨HPB.out,rfl⟩]
        · have hk1I : ((k : Int) == 1) = false := beq_eq_false_iff_ne.2 (by omega);have HPN : Hid (¬ ((h.k == 8) = true ∧ k = 1)) := Lib.hid (fun e => hk1 e.2);clear hk1;go_wp2_with fail;refine (HKT.out (d + 1) (by omega) (by omega)).mono ?_;rintro z w5 ⟨rfl,hb5⟩;have HB5 := Lib.hid (HB.out.trans (hb5.mono (by have := HB.out.size; omega)));clear hb5;go_wp2_with fail;go_roundg (gk - 1);case measure => omega
          case rel =>
           refine ⟨k + 1,_,by omega,by first | rfl | go_num | (simp; try omega),rfl,(HRG.out (d + 1)).1,(HRG.out (d + 1)).2,?_,HB5.out⟩;rw [HANS.out,HDR.out,Rd.cntL_cons,if_neg (by omega),if_neg HPN.out]
    · have hans : R = lf := by rw [HANS.out]; exact Rd.cntL_neg (by omega)
      subst hans;go_wp2_with fail;go_ret;exact ⟨rfl,HBW.out⟩
  · have hans : R = lf := by rw [HANS.out,show k = l.length by omega,List.drop_length]; exact Rd.cntL_nil
    subst hans;go_wp2_with fail;go_ret;exact ⟨rfl,HBW.out⟩
set_option maxHeartbeats 200000
set_option maxRecDepth 512
theorem Rd.count_says (t : Tr) : Rd.CountSays t := Rd.count_step t (fun u _ => Rd.count_says u)
termination_by Tr.size t
decreasing_by assumption
mutual
theorem Rd.cnt_snd : ∀ (t : Tr) (d : Nat) (left : Int),-1 ≤ left → Rd.cnt t d left = if (Tr.snd t d left).1 = true then (Tr.snd t d left).2 else -1
 | .mk h l,d,left,h0 => by
   by_cases hb : left - 1 < 0 ∨ 200 < d ∨ h.shape l.length = false
   · rw [Tr.snd_bad hb,Rd.cnt_bad (by rcases hb with h1 | h1 | h1; exact .inr (.inl (by omega)); exact .inl (by omega); exact .inr (.inr h1))];rfl
   · have hb2 : ¬ ((d : Int) > 200 ∨ left ≤ 0 ∨ h.shape l.length = false) := fun e => hb (by rcases e with h1 | h1 | h1; exact .inr (.inl (by omega)); exact .inl (by omega); exact .inr (.inr h1));have hl1 : 0 ≤ left - 1 := by
      rcases Int.lt_or_le (left - 1) 0 with h | h
      · exact absurd (Or.inl h) hb
      · exact h
     rw [Rd.cnt_good hb2];by_cases hk : h.k = 8
     · have hs : h.shape l.length = true := by
        cases e : h.shape l.length with
        | true => rfl
        | false => exact absurd (Or.inr (Or.inr e)) hb
       have hl := Tr.Hd.shape_pair hs hk;have hk2 : (h.k == 8) = true := by rw [hk]; rfl
       match l,hl with
       | [a,b],_ =>
         have ha := Rd.cnt_snd a (d + 1) (left - 1) (by omega);have hle := Tr.snd_le a (d + 1) (left - 1) (by omega);rw [Tr.snd_pair hb hk,hk2,Rd.cntL_cons,if_neg (by omega),if_neg (by rintro ⟨_,e⟩; omega)];rw [show (d : Int) + 1 = ((d + 1 : Nat) : Int) by omega,ha];by_cases h1 : (Tr.snd a (d + 1) (left - 1)).1 = true
         · have h2 := hle.2 h1;have hb' := Rd.cnt_snd b d (Tr.snd a (d + 1) (left - 1)).2 (by omega);rw [if_pos h1,if_pos h1,Rd.cntL_cons,if_neg (by omega),if_pos ⟨rfl,rfl⟩,Rd.cntL_nil,hb']
         · rw [if_neg h1,if_neg h1,Rd.cntL_neg (by omega)];rfl
     · have hk2 : (h.k == 8) = false := beq_eq_false_iff_ne.2 hk;rw [Tr.snd_list hb hk,hk2];exact Rd.cntL_snd l d 0 (left - 1) hl1
theorem Rd.cntL_snd : ∀ (l : List Tr) (d i : Nat) (left : Int),0 ≤ left → Rd.cntL false d l i left = if (Tr.sndL l (d + 1) left).1 = true then (Tr.sndL l (d + 1) left).2 else -1
 | [],d,i,left,h0 => by rw [Rd.cntL_nil,Tr.sndL_nil]; rfl
 | t :: ts,d,i,left,h0 => by
   have ht := Rd.cnt_snd t (d + 1) left (by omega);have hle := Tr.snd_le t (d + 1) left (by omega);rw [Rd.cntL_cons,if_neg (by omega),if_neg (by rintro ⟨e,_⟩; cases e),Tr.sndL_cons];rw [show (d : Int) + 1 = ((d + 1 : Nat) : Int) by omega,ht];by_cases h1 : (Tr.snd t (d + 1) left).1 = true
   · rw [if_pos h1,if_pos h1];exact Rd.cntL_snd ts d (i + 1) _ (hle.2 h1)
   · rw [if_neg h1,if_neg h1,Rd.cntL_neg (by omega)];rfl
end
theorem Rd.sound_eq (t : Tr) : decide (0 ≤ Rd.cnt t 1 20000) = Tr.sound t := by
 have h := Rd.cnt_snd t 1 20000 (by decide);have hle := Tr.snd_le t 1 20000 (by decide);rw [show ((1 : Nat) : Int) = 1 from rfl] at h;unfold Tr.sound;rw [h];cases h1 : (Tr.snd t 1 20000).1
 · rfl
 · have := hle.2 h1;rw [if_pos rfl];exact decide_eq_true this
set_option maxHeartbeats 1000000
set_option maxRecDepth 1000000
theorem Rd.Sound_any (t : Tr) (S : Nat → Prop) (v : Value) (w : World) (hI : Tr.In w S t v) (hT : Tr.Tabs w) (htx : Tr.txt t) :
 Calls Tryz.prog 8 #[v] w fun e w' => e = .returned (.bool (Tr.sound t)) ∧ Below w.heap.size w w' := by
 obtain ⟨C,rfl⟩ := hI.agg
 have KC := fun w' (hb : Below w.heap.size w w') => Rd.count_says t S C w' 1 20000 (hI.below hb (Nat.le_refl _)) (hT.below hb) htx (by decide) (by decide) (by decide) (by decide)
 have HB0 : Hid (∀ o,Below w.heap.size w (w.alloc o)) := Lib.hid (fun o => (Below.refl _ _).alloc (Nat.le_refl _) _)
 have HS := Lib.hid (Rd.sound_eq t)
 obtain ⟨hb,lb,a3,a4,a6,a7,a9,a10,n3,n4,n6,n7,n9,n10,c3,c4,c6,c7,c9,c10,eC,ebt,hbH,hbL⟩ := Tr.In.form2 hI
 subst eC
 unfold Tr.cells at KC ⊢
 have HKC := Lib.hid KC
 clear KC hI hT htx ebt hbH hbL
 obtain ⟨N,hN⟩ : ∃ z,z = Rd.cnt t 1 20000 := ⟨_,rfl⟩
 rw [← hN] at HS HKC
 clear hN
 go_enter Tryz.func8,Tryz.ntmps8
 go_wp2_with fail
 refine (HKC.out _ (HB0.out _)).mono ?_
 rintro z w1 ⟨rfl,hb1⟩
 have HB1 := Lib.hid ((HB0.out _).trans (hb1.mono (HB0.out _).size))
 clear hb1
 go_wp2_with fail
 go_ret
 exact ⟨by rw [← HS.out]; rfl,HB1.out⟩
end Go.Proofs.YteklhapffplohaaGreatDoor
namespace Go.Proofs.YteklhapffplohaaGreatDoor
open Go.RowKit
end Go.Proofs.YteklhapffplohaaGreatDoor
namespace Go.Proofs.YteklhapffplohaaGreatDoor
open Go.RowKit
end Go.Proofs.YteklhapffplohaaGreatDoor
namespace Go.Proofs.YteklhapffplohaaGreatDoor
open Go.RowKit
end Go.Proofs.YteklhapffplohaaGreatDoor
namespace Go.Proofs.YteklhapffplohaaGreatDoor
open Go.RowKit
end Go.Proofs.YteklhapffplohaaGreatDoor
