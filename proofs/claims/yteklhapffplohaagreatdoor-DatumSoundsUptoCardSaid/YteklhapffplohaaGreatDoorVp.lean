/-
  The walk of sextantref06.utf8.
-/
import Derived.Test.YteklhapffplohaaGreatDoorProg
import Derived.WalkKit
import Derived.WalkSpells
import Derived.WalkLawsBesides
import Derived.Handy
import Derived.BigCall
import Derived.Lib.Hide
import Derived.Test.YteklhapffplohaaGreatDoorVo
import Derived.Test.YteklhapffplohaaGreatDoorVa

namespace Go.Proofs.YteklhapffplohaaGreatDoor
open Go.RowKit
theorem Cd.own_empty3 (w : World) (t : TypeId) : (w.alloc (.cells #[] t)).ownsRow w.heap.size t 3 (.slice (some ⟨w.heap.size,0,none⟩) 0 0) 0 [] :=
 ⟨by simp,.inr ⟨w.heap.size,0,#[],rfl,Nat.le_refl _,heap_alloc_new w _,Nat.le_refl _,Nat.zero_le _,by simp,by simp⟩⟩
theorem Cd.three_new (w : World) (a b c : Value) (t : TypeId) : ∀ (j : Nat) (u : Value),([a,b,c] : List Value)[j]? = some u → (w.alloc (.cells #[a,b,c] t)).cell? ((⟨w.heap.size,0,none⟩ : Addr).add j) = some u := by
 intro j u hj;match j,hj with
 | 0,hj => simp at hj; subst hj; simp [Addr.add]
 | 1,hj => simp at hj; subst hj; simp [Addr.add]
 | 2,hj => simp at hj; subst hj; simp [Addr.add]
theorem Cd.three_newL (w : World) (o : Obj) (a b c : Value) (t : TypeId) : ∀ (j : Nat) (u : Value),([a,b,c] : List Value)[j]? = some u → ((w.alloc o).alloc (.cells #[a,b,c] t)).cell? ((⟨w.heap.size + 1,0,none⟩ : Addr).add j) = some u := by
 have := Cd.three_new (w.alloc o) a b c t;simpa using this
theorem Cd.below_own3 {B B2 k : Nat} {w wr w' : World} {t : TypeId} {v : Value} {n : Nat} {xs : List Value} (hb : Below B w wr) (ho : wr.ownsRow B2 t k v n xs) (hg : wr.grownBy w' v.ownBlock) (h2 : B ≤ B2) (h3 : B2 ≤ wr.heap.size) : Below B w w' :=
 hb.grown hg (by omega) (fun k hk => by have := (ho.lt k hk).1; omega)
theorem Cd.infoUnit : (Tryz.prog.info? 109).map (fun i => (i.zero,i.size,i.bytes)) = some (some (.agg #[.int .i32 0,.bool false,.int .i64 0]),3,16) := by kernel_rfl
set_option maxHeartbeats 16000000
set_option maxRecDepth 1000000
theorem Cd.refUtf8_some (s : ByteArray) (w : World) (b off cap : Nat) (hs : s.size ≤ 1099511627000) (hb : b < w.heap.size) (hc : ∀ j,j < s.size → w.cell? ⟨b,off + j,none⟩ = some (.int .u8 (Cd.byt s j))) :
 Calls Tryz.prog 106 #[.slice (some ⟨b,off,none⟩) s.size cap] w fun x w' => ∃ v,x = .returned v ∧ w'.ownsRow w.heap.size 109 3 v ((Cd.utf8U s 0).map Cd.refU).length (Cd.cellsU ((Cd.utf8U s 0).map Cd.refU)) ∧ Below w.heap.size w w' := by
 obtain ⟨i0,hi,hz0,hz1,hz2⟩ := info_parts Cd.infoUnit
 have HC := Lib.hid hc; clear hc
 go_enter Tryz.func106,Tryz.ntmps106
 go_wp2
 go_loopw [3,4] (fun v i wr => ∃ (k : Nat) (us : List (Int × Bool × Int)),k ≤ s.size ∧ i = .int .i64 k ∧ wr.ownsRow w.heap.size 109 3 v us.length (Cd.cellsU us) ∧ Below w.heap.size w wr ∧ us ++ (Cd.utf8U s k).map Cd.refU = (Cd.utf8U s 0).map Cd.refU ∧ us.length ≤ k) (fun _ i _ => s.size - (intOf i).toNat)
 case atStart => exact ⟨0,[],Nat.zero_le _,rfl,Cd.own_empty3 w 109,(Below.refl _ _).alloc (Nat.le_refl _) _,by simp,by simp⟩
 case round =>
  obtain ⟨k,us,hk,rfl,hown,hbw,hacc,hal⟩ := hrel
  have HACC := Lib.hid hacc; clear hacc
  have hsw := hbw.size
  by_cases hlt : k < s.size
  · have HCW : Hid (∀ j,j < s.size → wr.cell? ⟨b,off + j,none⟩ = some (.int .u8 (Cd.byt s j))) := Lib.hid (fun j hj => (hbw.cell (p := ⟨b,off + j,none⟩) hb).trans (HC.out j hj));have HU := Lib.hid (Cd.utf8U_at s k hlt);have c0 := HCW.out k hlt;have c1 := HCW.out (k + 1);have c2 := HCW.out (k + 2);have c3 := HCW.out (k + 3);have b0 := (s.get! k).toNat_lt;have b1 := (s.get! (k + 1)).toNat_lt;have b2 := (s.get! (k + 2)).toNat_lt;have b3 := (s.get! (k + 3)).toNat_lt;unfold Cd.byt at c0 c1 c2 c3;generalize (s.get! k).toNat = x at *;generalize (s.get! (k + 1)).toNat = y1 at *;generalize (s.get! (k + 2)).toNat = y2 at *;generalize (s.get! (k + 3)).toNat = y3 at *;have m31 := Cd.and31 (x : Int) (by omega) (by omega);have m15 := Cd.and15 (x : Int) (by omega) (by omega);have m7 := Cd.and7 (x : Int) (by omega) (by omega);have n1 := Cd.and63 (y1 : Int) (by omega) (by omega);have n2 := Cd.and63 (y2 : Int) (by omega) (by omega);have n3 := Cd.and63 (y3 : Int) (by omega) (by omega);have C1 := Lib.hid c1; clear c1;have C2 := Lib.hid c2; clear c2;have C3 := Lib.hid c3; clear c3;rcases (show (x < 128) ∨ ((128 ≤ x ∧ x < 192) ∨ 248 ≤ x) ∨ (192 ≤ x ∧ x < 224) ∨ (224 ≤ x ∧ x < 240) ∨ (240 ≤ x ∧ x < 248) by omega) with hx | hx | hx | hx | hx
    · clear m31 m15 m7 n1 n2 n3 b1 b2 b3 C1 C2 C3 HCW;have hd : Lib.decodeN (s.size - k) x y1 y2 y3 = (x,1) := by
       unfold Lib.decodeN;repeat' split
       all_goals first | rfl | (exfalso; omega)
      have hu := HU.out _ _ hd false (by rw [decide_eq_true (Or.inl (by omega))]; rfl);rw [if_neg (by decide)] at hu;have HUU := Lib.hid hu; clear hu hd HU;go_wp2;refine wp_loop_rounds 2 ?_;rw [rounds_succ];go_wp2_with (at_builtin; refine wpList_append_own _ rfl _ _ 106 rfl w.heap.size 109 i0 (.agg #[.int .i32 0,.bool false,.int .i64 0]) 3 16 Tryz.underlying106 hi hz0 hz1 hz2 rfl (by decide) _ _ _ rfl (hown.alloc _) ⟨wr.heap.size,0,none⟩ 1 1 [_,_,_] rfl rfl (Cd.three_new _ _ _ _ _) ?c2 ?c3 ?c4 ?c5 ?_);case c2 => first | rfl | exact ⟨rfl,rfl,rfl⟩ | (intro u hu; simp at hu; rcases hu with rfl | rfl | rfl <;> rfl)
      case c3 => unfold maxLen; omega
      case c4 => omega
      case c5 => first | omega | (simp; omega)
      intro v' w1 hown' hgrow _;have hbw3 := Cd.below_own3 (hbw.alloc (by omega) _) (hown.alloc _) hgrow (Nat.le_refl _) (by simp; omega);clear hown hgrow hbw;go_wp2;go_roundw;case rel =>
       refine ⟨k + 1,us ++ [((x : Int),false,(k : Int))],by omega,by first | rfl | go_num | (simp; try omega),by rw [Cd.cellsU_append,List.length_append]; exact hown',hbw3,?_,by rw [List.length_append]; show us.length + 1 ≤ _; omega⟩;rw [← HACC.out,HUU.out,List.append_assoc];rfl
      case measure => simp [intOf]; omega
    · clear m31 m15 m7 n1 n2 n3 b1 b2 b3 C1 C2 C3 HCW;have hd : Lib.decodeN (s.size - k) x y1 y2 y3 = (65533,1) := by
       unfold Lib.decodeN;repeat' split
       all_goals first | rfl | (exfalso; omega)
      have hu := HU.out _ _ hd true (by rw [decide_eq_false (by decide)]; rfl);rw [if_pos (by decide)] at hu;have HUU := Lib.hid hu; clear hu hd HU;go_wp2;refine wp_loop_rounds 2 ?_;rw [rounds_succ];go_wp2_with (at_builtin; refine wpList_append_own _ rfl _ _ 106 rfl w.heap.size 109 i0 (.agg #[.int .i32 0,.bool false,.int .i64 0]) 3 16 Tryz.underlying106 hi hz0 hz1 hz2 rfl (by decide) _ _ _ rfl (hown.alloc _) ⟨wr.heap.size,0,none⟩ 1 1 [_,_,_] rfl rfl (Cd.three_new _ _ _ _ _) ?c2 ?c3 ?c4 ?c5 ?_);case c2 => first | rfl | exact ⟨rfl,rfl,rfl⟩ | (intro u hu; simp at hu; rcases hu with rfl | rfl | rfl <;> rfl)
      case c3 => unfold maxLen; omega
      case c4 => omega
      case c5 => first | omega | (simp; omega)
      intro v' w1 hown' hgrow _;have hbw3 := Cd.below_own3 (hbw.alloc (by omega) _) (hown.alloc _) hgrow (Nat.le_refl _) (by simp; omega);clear hown hgrow hbw;go_wp2;go_roundw;case rel =>
       refine ⟨k + 1,us ++ [((0 : Int),true,(k : Int))],by omega,by first | rfl | go_num | (simp; try omega),by rw [Cd.cellsU_append,List.length_append]; exact hown',hbw3,?_,by rw [List.length_append]; show us.length + 1 ≤ _; omega⟩;rw [← HACC.out,HUU.out,List.append_assoc];rfl
      case measure => simp [intOf]; omega
    · rcases (show (s.size < k + 2) ∨ (k + 2 ≤ s.size ∧ ¬ y1 / 64 = 2) ∨ (k + 2 ≤ s.size ∧ y1 / 64 = 2 ∧ 194 ≤ x) ∨ (k + 2 ≤ s.size ∧ y1 / 64 = 2 ∧ x < 194) by omega) with hy | hy | hy | hy
      · clear m15 m7 n2 n3 b2 b3 C2 C3 HCW;have hd : Lib.decodeN (s.size - k) x y1 y2 y3 = (65533,1) := by
         unfold Lib.decodeN;repeat' split
         all_goals first | rfl | (exfalso; omega)
        have hu := HU.out _ _ hd true (by rw [decide_eq_false (by decide)]; rfl);rw [if_pos (by decide)] at hu;have HUU := Lib.hid hu; clear hu hd HU;go_wp2;refine wp_loop_rounds 2 ?_;rw [rounds_succ];go_wp2_with (at_builtin; refine wpList_append_own _ rfl _ _ 106 rfl w.heap.size 109 i0 (.agg #[.int .i32 0,.bool false,.int .i64 0]) 3 16 Tryz.underlying106 hi hz0 hz1 hz2 rfl (by decide) _ _ _ rfl (hown.alloc _) ⟨wr.heap.size,0,none⟩ 1 1 [_,_,_] rfl rfl (Cd.three_new _ _ _ _ _) ?c2 ?c3 ?c4 ?c5 ?_);case c2 => first | rfl | exact ⟨rfl,rfl,rfl⟩ | (intro u hu; simp at hu; rcases hu with rfl | rfl | rfl <;> rfl)
        case c3 => unfold maxLen; omega
        case c4 => omega
        case c5 => first | omega | (simp; omega)
        intro v' w1 hown' hgrow _;have hbw3 := Cd.below_own3 (hbw.alloc (by omega) _) (hown.alloc _) hgrow (Nat.le_refl _) (by simp; omega);clear hown hgrow hbw;go_wp2;go_roundw;case rel =>
         refine ⟨k + 1,us ++ [((0 : Int),true,(k : Int))],by omega,by first | rfl | go_num | (simp; try omega),by rw [Cd.cellsU_append,List.length_append]; exact hown',hbw3,?_,by rw [List.length_append]; show us.length + 1 ≤ _; omega⟩;rw [← HACC.out,HUU.out,List.append_assoc];rfl
        case measure => simp [intOf]; omega
      · obtain ⟨p0,p1⟩ := hy;clear m15 m7 n2 n3 b2 b3 C2 C3 HCW;have c1 := C1.out (by omega);have o1 := i32_or6 (x := (x : Int) % 32 * 64) (y := (y1 : Int) % 64) (by omega) (by omega) (by omega) (by omega) (by omega);have hd : Lib.decodeN (s.size - k) x y1 y2 y3 = (65533,1) := by
         unfold Lib.decodeN;repeat' split
         all_goals first | rfl | (exfalso; omega)
        have hu := HU.out _ _ hd true (by rw [decide_eq_false (by decide)]; rfl);rw [if_pos (by decide)] at hu;have HUU := Lib.hid hu; clear hu hd HU;go_wp2;refine wp_loop_rounds 3 ?_;rw [rounds_succ];go_wp2;rw [rounds_succ];go_wp2_with (at_builtin; refine wpList_append_own _ rfl _ _ 106 rfl w.heap.size 109 i0 (.agg #[.int .i32 0,.bool false,.int .i64 0]) 3 16 Tryz.underlying106 hi hz0 hz1 hz2 rfl (by decide) _ _ _ rfl (hown.alloc _) ⟨wr.heap.size,0,none⟩ 1 1 [_,_,_] rfl rfl (Cd.three_new _ _ _ _ _) ?c2 ?c3 ?c4 ?c5 ?_);case c2 => first | rfl | exact ⟨rfl,rfl,rfl⟩ | (intro u hu; simp at hu; rcases hu with rfl | rfl | rfl <;> rfl)
        case c3 => unfold maxLen; omega
        case c4 => omega
        case c5 => first | omega | (simp; omega)
        intro v' w1 hown' hgrow _;have hbw3 := Cd.below_own3 (hbw.alloc (by omega) _) (hown.alloc _) hgrow (Nat.le_refl _) (by simp; omega);clear hown hgrow hbw;go_wp2;go_roundw;case rel =>
         refine ⟨k + 1,us ++ [((0 : Int),true,(k : Int))],by omega,by first | rfl | go_num | (simp; try omega),by rw [Cd.cellsU_append,List.length_append]; exact hown',hbw3,?_,by rw [List.length_append]; show us.length + 1 ≤ _; omega⟩;rw [← HACC.out,HUU.out,List.append_assoc];rfl
        case measure => simp [intOf]; omega
      · obtain ⟨p0,p1,p2⟩ := hy;clear m15 m7 n2 n3 b2 b3 C2 C3 HCW;have c1 := C1.out (by omega);have o1 := i32_or6 (x := (x : Int) % 32 * 64) (y := (y1 : Int) % 64) (by omega) (by omega) (by omega) (by omega) (by omega);have hd : Lib.decodeN (s.size - k) x y1 y2 y3 = (x % 32 * 64 + y1 % 64,2) := by
         unfold Lib.decodeN;repeat' split
         all_goals first | rfl | (exfalso; omega)
        have hu := HU.out _ _ hd false (by rw [decide_eq_true (Or.inr (by decide))]; rfl);rw [if_neg (by decide)] at hu;have HUU := Lib.hid hu; clear hu hd HU;go_wp2;refine wp_loop_rounds 3 ?_;rw [rounds_succ];go_wp2;rw [rounds_succ];go_wp2_with (at_builtin; refine wpList_append_own _ rfl _ _ 106 rfl w.heap.size 109 i0 (.agg #[.int .i32 0,.bool false,.int .i64 0]) 3 16 Tryz.underlying106 hi hz0 hz1 hz2 rfl (by decide) _ _ _ rfl ((hown.alloc _).alloc _) ⟨wr.heap.size + 1,0,none⟩ 1 1 [_,_,_] rfl rfl (Cd.three_newL _ _ _ _ _ _) ?c2 ?c3 ?c4 ?c5 ?_);case c2 => first | rfl | exact ⟨rfl,rfl,rfl⟩ | (intro u hu; simp at hu; rcases hu with rfl | rfl | rfl <;> rfl)
        case c3 => unfold maxLen; omega
        case c4 => omega
        case c5 => first | omega | (simp; omega)
        intro v' w1 hown' hgrow _;have hbw3 := Cd.below_own3 ((hbw.alloc (by omega) _).alloc (by simp; omega) _) ((hown.alloc _).alloc _) hgrow (Nat.le_refl _) (by simp; omega);clear hown hgrow hbw;go_wp2;go_roundw;case rel =>
         refine ⟨k + 2,us ++ [(((x : Int) % 32 * 64 + (y1 : Int) % 64),false,(k : Int))],by omega,by first | rfl | go_num | (simp; try omega),by rw [Cd.cellsU_append,List.length_append]; exact hown',hbw3,?_,by rw [List.length_append]; show us.length + 1 ≤ _; omega⟩;rw [← HACC.out,HUU.out,List.append_assoc];rw [show ((x : Int) % 32 * 64 + (y1 : Int) % 64) = ((x % 32 * 64 + y1 % 64 : Nat) : Int) by omega];rfl
        case measure => simp [intOf]; omega
      · obtain ⟨p0,p1,p2⟩ := hy;clear m15 m7 n2 n3 b2 b3 C2 C3 HCW;have c1 := C1.out (by omega);have o1 := i32_or6 (x := (x : Int) % 32 * 64) (y := (y1 : Int) % 64) (by omega) (by omega) (by omega) (by omega) (by omega);have hd : Lib.decodeN (s.size - k) x y1 y2 y3 = (65533,1) := by
         unfold Lib.decodeN;repeat' split
         all_goals first | rfl | (exfalso; omega)
        have hu := HU.out _ _ hd true (by rw [decide_eq_false (by decide)]; rfl);rw [if_pos (by decide)] at hu;have HUU := Lib.hid hu; clear hu hd HU;go_wp2;refine wp_loop_rounds 3 ?_;rw [rounds_succ];go_wp2;rw [rounds_succ];go_wp2_with (at_builtin; refine wpList_append_own _ rfl _ _ 106 rfl w.heap.size 109 i0 (.agg #[.int .i32 0,.bool false,.int .i64 0]) 3 16 Tryz.underlying106 hi hz0 hz1 hz2 rfl (by decide) _ _ _ rfl ((hown.alloc _).alloc _) ⟨wr.heap.size + 1,0,none⟩ 1 1 [_,_,_] rfl rfl (Cd.three_newL _ _ _ _ _ _) ?c2 ?c3 ?c4 ?c5 ?_);case c2 => first | rfl | exact ⟨rfl,rfl,rfl⟩ | (intro u hu; simp at hu; rcases hu with rfl | rfl | rfl <;> rfl)
        case c3 => unfold maxLen; omega
        case c4 => omega
        case c5 => first | omega | (simp; omega)
        intro v' w1 hown' hgrow _;have hbw3 := Cd.below_own3 ((hbw.alloc (by omega) _).alloc (by simp; omega) _) ((hown.alloc _).alloc _) hgrow (Nat.le_refl _) (by simp; omega);clear hown hgrow hbw;go_wp2;go_roundw;case rel =>
         refine ⟨k + 1,us ++ [((0 : Int),true,(k : Int))],by omega,by first | rfl | go_num | (simp; try omega),by rw [Cd.cellsU_append,List.length_append]; exact hown',hbw3,?_,by rw [List.length_append]; show us.length + 1 ≤ _; omega⟩;rw [← HACC.out,HUU.out,List.append_assoc];rfl
        case measure => simp [intOf]; omega
    · rcases (show (s.size < k + 3) ∨ (k + 3 ≤ s.size ∧ ¬ y1 / 64 = 2) ∨ (k + 3 ≤ s.size ∧ y1 / 64 = 2 ∧ ¬ y2 / 64 = 2) ∨ (k + 3 ≤ s.size ∧ y1 / 64 = 2 ∧ y2 / 64 = 2 ∧ 2048 ≤ x % 16 * 4096 + y1 % 64 * 64 + y2 % 64 ∧ x % 16 * 4096 + y1 % 64 * 64 + y2 % 64 < 55296) ∨ (k + 3 ≤ s.size ∧ y1 / 64 = 2 ∧ y2 / 64 = 2 ∧ 57344 ≤ x % 16 * 4096 + y1 % 64 * 64 + y2 % 64) ∨ (k + 3 ≤ s.size ∧ y1 / 64 = 2 ∧ y2 / 64 = 2 ∧ x % 16 * 4096 + y1 % 64 * 64 + y2 % 64 < 2048) ∨ (k + 3 ≤ s.size ∧ y1 / 64 = 2 ∧ y2 / 64 = 2 ∧ 55296 ≤ x % 16 * 4096 + y1 % 64 * 64 + y2 % 64 ∧ x % 16 * 4096 + y1 % 64 * 64 + y2 % 64 < 57344) by omega) with hy | hy | hy | hy | hy | hy | hy
      · clear m31 m7 n3 b3 C3 HCW;have hd : Lib.decodeN (s.size - k) x y1 y2 y3 = (65533,1) := by
         unfold Lib.decodeN;repeat' split
         all_goals first | rfl | (exfalso; omega)
        have hu := HU.out _ _ hd true (by rw [decide_eq_false (by decide)]; rfl);rw [if_pos (by decide)] at hu;have HUU := Lib.hid hu; clear hu hd HU;go_wp2;refine wp_loop_rounds 2 ?_;rw [rounds_succ];go_wp2_with (at_builtin; refine wpList_append_own _ rfl _ _ 106 rfl w.heap.size 109 i0 (.agg #[.int .i32 0,.bool false,.int .i64 0]) 3 16 Tryz.underlying106 hi hz0 hz1 hz2 rfl (by decide) _ _ _ rfl (hown.alloc _) ⟨wr.heap.size,0,none⟩ 1 1 [_,_,_] rfl rfl (Cd.three_new _ _ _ _ _) ?c2 ?c3 ?c4 ?c5 ?_);case c2 => first | rfl | exact ⟨rfl,rfl,rfl⟩ | (intro u hu; simp at hu; rcases hu with rfl | rfl | rfl <;> rfl)
        case c3 => unfold maxLen; omega
        case c4 => omega
        case c5 => first | omega | (simp; omega)
        intro v' w1 hown' hgrow _;have hbw3 := Cd.below_own3 (hbw.alloc (by omega) _) (hown.alloc _) hgrow (Nat.le_refl _) (by simp; omega);clear hown hgrow hbw;go_wp2;go_roundw;case rel =>
         refine ⟨k + 1,us ++ [((0 : Int),true,(k : Int))],by omega,by first | rfl | go_num | (simp; try omega),by rw [Cd.cellsU_append,List.length_append]; exact hown',hbw3,?_,by rw [List.length_append]; show us.length + 1 ≤ _; omega⟩;rw [← HACC.out,HUU.out,List.append_assoc];rfl
        case measure => simp [intOf]; omega
      · obtain ⟨p0,p1⟩ := hy;clear m31 m7 n3 b3 C3 HCW;have c1 := C1.out (by omega);have c2 := C2.out (by omega);have o1 := i32_or6 (x := (x : Int) % 16 * 64) (y := (y1 : Int) % 64) (by omega) (by omega) (by omega) (by omega) (by omega);have o2 := i32_or6 (x := ((x : Int) % 16 * 64 + (y1 : Int) % 64) * 64) (y := (y2 : Int) % 64) (by omega) (by omega) (by omega) (by omega) (by omega);have hd : Lib.decodeN (s.size - k) x y1 y2 y3 = (65533,1) := by
         unfold Lib.decodeN;repeat' split
         all_goals first | rfl | (exfalso; omega)
        have hu := HU.out _ _ hd true (by rw [decide_eq_false (by decide)]; rfl);rw [if_pos (by decide)] at hu;have HUU := Lib.hid hu; clear hu hd HU;go_wp2;refine wp_loop_rounds 3 ?_;rw [rounds_succ];go_wp2;rw [rounds_succ];go_wp2_with (at_builtin; refine wpList_append_own _ rfl _ _ 106 rfl w.heap.size 109 i0 (.agg #[.int .i32 0,.bool false,.int .i64 0]) 3 16 Tryz.underlying106 hi hz0 hz1 hz2 rfl (by decide) _ _ _ rfl (hown.alloc _) ⟨wr.heap.size,0,none⟩ 1 1 [_,_,_] rfl rfl (Cd.three_new _ _ _ _ _) ?c2 ?c3 ?c4 ?c5 ?_);case c2 => first | rfl | exact ⟨rfl,rfl,rfl⟩ | (intro u hu; simp at hu; rcases hu with rfl | rfl | rfl <;> rfl)
        case c3 => unfold maxLen; omega
        case c4 => omega
        case c5 => first | omega | (simp; omega)
        intro v' w1 hown' hgrow _;have hbw3 := Cd.below_own3 (hbw.alloc (by omega) _) (hown.alloc _) hgrow (Nat.le_refl _) (by simp; omega);clear hown hgrow hbw;go_wp2;go_roundw;case rel =>
         refine ⟨k + 1,us ++ [((0 : Int),true,(k : Int))],by omega,by first | rfl | go_num | (simp; try omega),by rw [Cd.cellsU_append,List.length_append]; exact hown',hbw3,?_,by rw [List.length_append]; show us.length + 1 ≤ _; omega⟩;rw [← HACC.out,HUU.out,List.append_assoc];rfl
        case measure => simp [intOf]; omega
      · obtain ⟨p0,p1,p2⟩ := hy;clear m31 m7 n3 b3 C3 HCW;have c1 := C1.out (by omega);have c2 := C2.out (by omega);have o1 := i32_or6 (x := (x : Int) % 16 * 64) (y := (y1 : Int) % 64) (by omega) (by omega) (by omega) (by omega) (by omega);have o2 := i32_or6 (x := ((x : Int) % 16 * 64 + (y1 : Int) % 64) * 64) (y := (y2 : Int) % 64) (by omega) (by omega) (by omega) (by omega) (by omega);have hd : Lib.decodeN (s.size - k) x y1 y2 y3 = (65533,1) := by
         unfold Lib.decodeN;repeat' split
         all_goals first | rfl | (exfalso; omega)
        have hu := HU.out _ _ hd true (by rw [decide_eq_false (by decide)]; rfl);rw [if_pos (by decide)] at hu;have HUU := Lib.hid hu; clear hu hd HU;go_wp2;refine wp_loop_rounds 4 ?_;rw [rounds_succ];go_wp2;rw [rounds_succ];go_wp2;rw [rounds_succ];go_wp2_with (at_builtin; refine wpList_append_own _ rfl _ _ 106 rfl w.heap.size 109 i0 (.agg #[.int .i32 0,.bool false,.int .i64 0]) 3 16 Tryz.underlying106 hi hz0 hz1 hz2 rfl (by decide) _ _ _ rfl (hown.alloc _) ⟨wr.heap.size,0,none⟩ 1 1 [_,_,_] rfl rfl (Cd.three_new _ _ _ _ _) ?c2 ?c3 ?c4 ?c5 ?_);case c2 => first | rfl | exact ⟨rfl,rfl,rfl⟩ | (intro u hu; simp at hu; rcases hu with rfl | rfl | rfl <;> rfl)
        case c3 => unfold maxLen; omega
        case c4 => omega
        case c5 => first | omega | (simp; omega)
        intro v' w1 hown' hgrow _;have hbw3 := Cd.below_own3 (hbw.alloc (by omega) _) (hown.alloc _) hgrow (Nat.le_refl _) (by simp; omega);clear hown hgrow hbw;go_wp2;go_roundw;case rel =>
         refine ⟨k + 1,us ++ [((0 : Int),true,(k : Int))],by omega,by first | rfl | go_num | (simp; try omega),by rw [Cd.cellsU_append,List.length_append]; exact hown',hbw3,?_,by rw [List.length_append]; show us.length + 1 ≤ _; omega⟩;rw [← HACC.out,HUU.out,List.append_assoc];rfl
        case measure => simp [intOf]; omega
      · obtain ⟨p0,p1,p2,p3,p4⟩ := hy;clear m31 m7 n3 b3 C3 HCW;have c1 := C1.out (by omega);have c2 := C2.out (by omega);have o1 := i32_or6 (x := (x : Int) % 16 * 64) (y := (y1 : Int) % 64) (by omega) (by omega) (by omega) (by omega) (by omega);have o2 := i32_or6 (x := ((x : Int) % 16 * 64 + (y1 : Int) % 64) * 64) (y := (y2 : Int) % 64) (by omega) (by omega) (by omega) (by omega) (by omega);have hd : Lib.decodeN (s.size - k) x y1 y2 y3 = (x % 16 * 4096 + y1 % 64 * 64 + y2 % 64,3) := by
         unfold Lib.decodeN;repeat' split
         all_goals first | rfl | (exfalso; omega)
        have hu := HU.out _ _ hd false (by rw [decide_eq_true (Or.inr (by decide))]; rfl);rw [if_neg (by decide)] at hu;have HUU := Lib.hid hu; clear hu hd HU;go_wp2;refine wp_loop_rounds 4 ?_;rw [rounds_succ];go_wp2;rw [rounds_succ];go_wp2;rw [rounds_succ];go_wp2_with (at_builtin; refine wpList_append_own _ rfl _ _ 106 rfl w.heap.size 109 i0 (.agg #[.int .i32 0,.bool false,.int .i64 0]) 3 16 Tryz.underlying106 hi hz0 hz1 hz2 rfl (by decide) _ _ _ rfl ((hown.alloc _).alloc _) ⟨wr.heap.size + 1,0,none⟩ 1 1 [_,_,_] rfl rfl (Cd.three_newL _ _ _ _ _ _) ?c2 ?c3 ?c4 ?c5 ?_);case c2 => first | rfl | exact ⟨rfl,rfl,rfl⟩ | (intro u hu; simp at hu; rcases hu with rfl | rfl | rfl <;> rfl)
        case c3 => unfold maxLen; omega
        case c4 => omega
        case c5 => first | omega | (simp; omega)
        intro v' w1 hown' hgrow _;have hbw3 := Cd.below_own3 ((hbw.alloc (by omega) _).alloc (by simp; omega) _) ((hown.alloc _).alloc _) hgrow (Nat.le_refl _) (by simp; omega);clear hown hgrow hbw;go_wp2;go_roundw;case rel =>
         refine ⟨k + 3,us ++ [((((x : Int) % 16 * 64 + (y1 : Int) % 64) * 64 + (y2 : Int) % 64),false,(k : Int))],by omega,by first | rfl | go_num | (simp; try omega),by rw [Cd.cellsU_append,List.length_append]; exact hown',hbw3,?_,by rw [List.length_append]; show us.length + 1 ≤ _; omega⟩;rw [← HACC.out,HUU.out,List.append_assoc];rw [show (((x : Int) % 16 * 64 + (y1 : Int) % 64) * 64 + (y2 : Int) % 64) = ((x % 16 * 4096 + y1 % 64 * 64 + y2 % 64 : Nat) : Int) by omega];rfl
        case measure => simp [intOf]; omega
      · obtain ⟨p0,p1,p2,p3⟩ := hy;clear m31 m7 n3 b3 C3 HCW;have c1 := C1.out (by omega);have c2 := C2.out (by omega);have o1 := i32_or6 (x := (x : Int) % 16 * 64) (y := (y1 : Int) % 64) (by omega) (by omega) (by omega) (by omega) (by omega);have o2 := i32_or6 (x := ((x : Int) % 16 * 64 + (y1 : Int) % 64) * 64) (y := (y2 : Int) % 64) (by omega) (by omega) (by omega) (by omega) (by omega);have hd : Lib.decodeN (s.size - k) x y1 y2 y3 = (x % 16 * 4096 + y1 % 64 * 64 + y2 % 64,3) := by
         unfold Lib.decodeN;repeat' split
         all_goals first | rfl | (exfalso; omega)
        have hu := HU.out _ _ hd false (by rw [decide_eq_true (Or.inr (by decide))]; rfl);rw [if_neg (by decide)] at hu;have HUU := Lib.hid hu; clear hu hd HU;go_wp2;refine wp_loop_rounds 4 ?_;rw [rounds_succ];go_wp2;rw [rounds_succ];go_wp2;rw [rounds_succ];go_wp2_with (at_builtin; refine wpList_append_own _ rfl _ _ 106 rfl w.heap.size 109 i0 (.agg #[.int .i32 0,.bool false,.int .i64 0]) 3 16 Tryz.underlying106 hi hz0 hz1 hz2 rfl (by decide) _ _ _ rfl ((hown.alloc _).alloc _) ⟨wr.heap.size + 1,0,none⟩ 1 1 [_,_,_] rfl rfl (Cd.three_newL _ _ _ _ _ _) ?c2 ?c3 ?c4 ?c5 ?_);case c2 => first | rfl | exact ⟨rfl,rfl,rfl⟩ | (intro u hu; simp at hu; rcases hu with rfl | rfl | rfl <;> rfl)
        case c3 => unfold maxLen; omega
        case c4 => omega
        case c5 => first | omega | (simp; omega)
        intro v' w1 hown' hgrow _;have hbw3 := Cd.below_own3 ((hbw.alloc (by omega) _).alloc (by simp; omega) _) ((hown.alloc _).alloc _) hgrow (Nat.le_refl _) (by simp; omega);clear hown hgrow hbw;go_wp2;go_roundw;case rel =>
         refine ⟨k + 3,us ++ [((((x : Int) % 16 * 64 + (y1 : Int) % 64) * 64 + (y2 : Int) % 64),false,(k : Int))],by omega,by first | rfl | go_num | (simp; try omega),by rw [Cd.cellsU_append,List.length_append]; exact hown',hbw3,?_,by rw [List.length_append]; show us.length + 1 ≤ _; omega⟩;rw [← HACC.out,HUU.out,List.append_assoc];rw [show (((x : Int) % 16 * 64 + (y1 : Int) % 64) * 64 + (y2 : Int) % 64) = ((x % 16 * 4096 + y1 % 64 * 64 + y2 % 64 : Nat) : Int) by omega];rfl
        case measure => simp [intOf]; omega
      · obtain ⟨p0,p1,p2,p3⟩ := hy;clear m31 m7 n3 b3 C3 HCW;have c1 := C1.out (by omega);have c2 := C2.out (by omega);have o1 := i32_or6 (x := (x : Int) % 16 * 64) (y := (y1 : Int) % 64) (by omega) (by omega) (by omega) (by omega) (by omega);have o2 := i32_or6 (x := ((x : Int) % 16 * 64 + (y1 : Int) % 64) * 64) (y := (y2 : Int) % 64) (by omega) (by omega) (by omega) (by omega) (by omega);have hd : Lib.decodeN (s.size - k) x y1 y2 y3 = (65533,1) := by
         unfold Lib.decodeN;repeat' split
         all_goals first | rfl | (exfalso; omega)
        have hu := HU.out _ _ hd true (by rw [decide_eq_false (by decide)]; rfl);rw [if_pos (by decide)] at hu;have HUU := Lib.hid hu; clear hu hd HU;go_wp2;refine wp_loop_rounds 4 ?_;rw [rounds_succ];go_wp2;rw [rounds_succ];go_wp2;rw [rounds_succ];go_wp2_with (at_builtin; refine wpList_append_own _ rfl _ _ 106 rfl w.heap.size 109 i0 (.agg #[.int .i32 0,.bool false,.int .i64 0]) 3 16 Tryz.underlying106 hi hz0 hz1 hz2 rfl (by decide) _ _ _ rfl ((hown.alloc _).alloc _) ⟨wr.heap.size + 1,0,none⟩ 1 1 [_,_,_] rfl rfl (Cd.three_newL _ _ _ _ _ _) ?c2 ?c3 ?c4 ?c5 ?_);case c2 => first | rfl | exact ⟨rfl,rfl,rfl⟩ | (intro u hu; simp at hu; rcases hu with rfl | rfl | rfl <;> rfl)
        case c3 => unfold maxLen; omega
        case c4 => omega
        case c5 => first | omega | (simp; omega)
        intro v' w1 hown' hgrow _;have hbw3 := Cd.below_own3 ((hbw.alloc (by omega) _).alloc (by simp; omega) _) ((hown.alloc _).alloc _) hgrow (Nat.le_refl _) (by simp; omega);clear hown hgrow hbw;go_wp2;go_roundw;case rel =>
         refine ⟨k + 1,us ++ [((0 : Int),true,(k : Int))],by omega,by first | rfl | go_num | (simp; try omega),by rw [Cd.cellsU_append,List.length_append]; exact hown',hbw3,?_,by rw [List.length_append]; show us.length + 1 ≤ _; omega⟩;rw [← HACC.out,HUU.out,List.append_assoc];rfl
        case measure => simp [intOf]; omega
      · obtain ⟨p0,p1,p2,p3,p4⟩ := hy;clear m31 m7 n3 b3 C3 HCW;have c1 := C1.out (by omega);have c2 := C2.out (by omega);have o1 := i32_or6 (x := (x : Int) % 16 * 64) (y := (y1 : Int) % 64) (by omega) (by omega) (by omega) (by omega) (by omega);have o2 := i32_or6 (x := ((x : Int) % 16 * 64 + (y1 : Int) % 64) * 64) (y := (y2 : Int) % 64) (by omega) (by omega) (by omega) (by omega) (by omega);have hd : Lib.decodeN (s.size - k) x y1 y2 y3 = (65533,1) := by
         unfold Lib.decodeN;repeat' split
         all_goals first | rfl | (exfalso; omega)
        have hu := HU.out _ _ hd true (by rw [decide_eq_false (by decide)]; rfl);rw [if_pos (by decide)] at hu;have HUU := Lib.hid hu; clear hu hd HU;go_wp2;refine wp_loop_rounds 4 ?_;rw [rounds_succ];go_wp2;rw [rounds_succ];go_wp2;rw [rounds_succ];go_wp2_with (at_builtin; refine wpList_append_own _ rfl _ _ 106 rfl w.heap.size 109 i0 (.agg #[.int .i32 0,.bool false,.int .i64 0]) 3 16 Tryz.underlying106 hi hz0 hz1 hz2 rfl (by decide) _ _ _ rfl ((hown.alloc _).alloc _) ⟨wr.heap.size + 1,0,none⟩ 1 1 [_,_,_] rfl rfl (Cd.three_newL _ _ _ _ _ _) ?c2 ?c3 ?c4 ?c5 ?_);case c2 => first | rfl | exact ⟨rfl,rfl,rfl⟩ | (intro u hu; simp at hu; rcases hu with rfl | rfl | rfl <;> rfl)
        case c3 => unfold maxLen; omega
        case c4 => omega
        case c5 => first | omega | (simp; omega)
        intro v' w1 hown' hgrow _;have hbw3 := Cd.below_own3 ((hbw.alloc (by omega) _).alloc (by simp; omega) _) ((hown.alloc _).alloc _) hgrow (Nat.le_refl _) (by simp; omega);clear hown hgrow hbw;go_wp2;go_roundw;case rel =>
         refine ⟨k + 1,us ++ [((0 : Int),true,(k : Int))],by omega,by first | rfl | go_num | (simp; try omega),by rw [Cd.cellsU_append,List.length_append]; exact hown',hbw3,?_,by rw [List.length_append]; show us.length + 1 ≤ _; omega⟩;rw [← HACC.out,HUU.out,List.append_assoc];rfl
        case measure => simp [intOf]; omega
    · rcases (show (s.size < k + 4) ∨ (k + 4 ≤ s.size ∧ ¬ y1 / 64 = 2) ∨ (k + 4 ≤ s.size ∧ y1 / 64 = 2 ∧ ¬ y2 / 64 = 2) ∨ (k + 4 ≤ s.size ∧ y1 / 64 = 2 ∧ y2 / 64 = 2 ∧ ¬ y3 / 64 = 2) ∨ (k + 4 ≤ s.size ∧ y1 / 64 = 2 ∧ y2 / 64 = 2 ∧ y3 / 64 = 2 ∧ 65536 ≤ x % 8 * 262144 + y1 % 64 * 4096 + y2 % 64 * 64 + y3 % 64 ∧ x % 8 * 262144 + y1 % 64 * 4096 + y2 % 64 * 64 + y3 % 64 ≤ 1114111) ∨ (k + 4 ≤ s.size ∧ y1 / 64 = 2 ∧ y2 / 64 = 2 ∧ y3 / 64 = 2 ∧ x % 8 * 262144 + y1 % 64 * 4096 + y2 % 64 * 64 + y3 % 64 < 65536) ∨ (k + 4 ≤ s.size ∧ y1 / 64 = 2 ∧ y2 / 64 = 2 ∧ y3 / 64 = 2 ∧ 1114111 < x % 8 * 262144 + y1 % 64 * 4096 + y2 % 64 * 64 + y3 % 64) by omega) with hy | hy | hy | hy | hy | hy | hy
      · clear m31 m15 HCW;have hd : Lib.decodeN (s.size - k) x y1 y2 y3 = (65533,1) := by
         unfold Lib.decodeN;repeat' split
         all_goals first | rfl | (exfalso; omega)
        have hu := HU.out _ _ hd true (by rw [decide_eq_false (by decide)]; rfl);rw [if_pos (by decide)] at hu;have HUU := Lib.hid hu; clear hu hd HU;go_wp2;refine wp_loop_rounds 2 ?_;rw [rounds_succ];go_wp2_with (at_builtin; refine wpList_append_own _ rfl _ _ 106 rfl w.heap.size 109 i0 (.agg #[.int .i32 0,.bool false,.int .i64 0]) 3 16 Tryz.underlying106 hi hz0 hz1 hz2 rfl (by decide) _ _ _ rfl (hown.alloc _) ⟨wr.heap.size,0,none⟩ 1 1 [_,_,_] rfl rfl (Cd.three_new _ _ _ _ _) ?c2 ?c3 ?c4 ?c5 ?_);case c2 => first | rfl | exact ⟨rfl,rfl,rfl⟩ | (intro u hu; simp at hu; rcases hu with rfl | rfl | rfl <;> rfl)
        case c3 => unfold maxLen; omega
        case c4 => omega
        case c5 => first | omega | (simp; omega)
        intro v' w1 hown' hgrow _;have hbw3 := Cd.below_own3 (hbw.alloc (by omega) _) (hown.alloc _) hgrow (Nat.le_refl _) (by simp; omega);clear hown hgrow hbw;go_wp2;go_roundw;case rel =>
         refine ⟨k + 1,us ++ [((0 : Int),true,(k : Int))],by omega,by first | rfl | go_num | (simp; try omega),by rw [Cd.cellsU_append,List.length_append]; exact hown',hbw3,?_,by rw [List.length_append]; show us.length + 1 ≤ _; omega⟩;rw [← HACC.out,HUU.out,List.append_assoc];rfl
        case measure => simp [intOf]; omega
      · obtain ⟨p0,p1⟩ := hy;clear m31 m15 HCW;have c1 := C1.out (by omega);have c2 := C2.out (by omega);have c3 := C3.out (by omega);have o1 := i32_or6 (x := (x : Int) % 8 * 64) (y := (y1 : Int) % 64) (by omega) (by omega) (by omega) (by omega) (by omega);have o2 := i32_or6 (x := ((x : Int) % 8 * 64 + (y1 : Int) % 64) * 64) (y := (y2 : Int) % 64) (by omega) (by omega) (by omega) (by omega) (by omega);have o3 := i32_or6 (x := (((x : Int) % 8 * 64 + (y1 : Int) % 64) * 64 + (y2 : Int) % 64) * 64) (y := (y3 : Int) % 64) (by omega) (by omega) (by omega) (by omega) (by omega);have hd : Lib.decodeN (s.size - k) x y1 y2 y3 = (65533,1) := by
         unfold Lib.decodeN;repeat' split
         all_goals first | rfl | (exfalso; omega)
        have hu := HU.out _ _ hd true (by rw [decide_eq_false (by decide)]; rfl);rw [if_pos (by decide)] at hu;have HUU := Lib.hid hu; clear hu hd HU;go_wp2;refine wp_loop_rounds 3 ?_;rw [rounds_succ];go_wp2;rw [rounds_succ];go_wp2_with (at_builtin; refine wpList_append_own _ rfl _ _ 106 rfl w.heap.size 109 i0 (.agg #[.int .i32 0,.bool false,.int .i64 0]) 3 16 Tryz.underlying106 hi hz0 hz1 hz2 rfl (by decide) _ _ _ rfl (hown.alloc _) ⟨wr.heap.size,0,none⟩ 1 1 [_,_,_] rfl rfl (Cd.three_new _ _ _ _ _) ?c2 ?c3 ?c4 ?c5 ?_);case c2 => first | rfl | exact ⟨rfl,rfl,rfl⟩ | (intro u hu; simp at hu; rcases hu with rfl | rfl | rfl <;> rfl)
        case c3 => unfold maxLen; omega
        case c4 => omega
        case c5 => first | omega | (simp; omega)
        intro v' w1 hown' hgrow _;have hbw3 := Cd.below_own3 (hbw.alloc (by omega) _) (hown.alloc _) hgrow (Nat.le_refl _) (by simp; omega);clear hown hgrow hbw;go_wp2;go_roundw;case rel =>
         refine ⟨k + 1,us ++ [((0 : Int),true,(k : Int))],by omega,by first | rfl | go_num | (simp; try omega),by rw [Cd.cellsU_append,List.length_append]; exact hown',hbw3,?_,by rw [List.length_append]; show us.length + 1 ≤ _; omega⟩;rw [← HACC.out,HUU.out,List.append_assoc];rfl
        case measure => simp [intOf]; omega
      · obtain ⟨p0,p1,p2⟩ := hy;clear m31 m15 HCW;have c1 := C1.out (by omega);have c2 := C2.out (by omega);have c3 := C3.out (by omega);have o1 := i32_or6 (x := (x : Int) % 8 * 64) (y := (y1 : Int) % 64) (by omega) (by omega) (by omega) (by omega) (by omega);have o2 := i32_or6 (x := ((x : Int) % 8 * 64 + (y1 : Int) % 64) * 64) (y := (y2 : Int) % 64) (by omega) (by omega) (by omega) (by omega) (by omega);have o3 := i32_or6 (x := (((x : Int) % 8 * 64 + (y1 : Int) % 64) * 64 + (y2 : Int) % 64) * 64) (y := (y3 : Int) % 64) (by omega) (by omega) (by omega) (by omega) (by omega);have hd : Lib.decodeN (s.size - k) x y1 y2 y3 = (65533,1) := by
         unfold Lib.decodeN;repeat' split
         all_goals first | rfl | (exfalso; omega)
        have hu := HU.out _ _ hd true (by rw [decide_eq_false (by decide)]; rfl);rw [if_pos (by decide)] at hu;have HUU := Lib.hid hu; clear hu hd HU;go_wp2;refine wp_loop_rounds 4 ?_;rw [rounds_succ];go_wp2;rw [rounds_succ];go_wp2;rw [rounds_succ];go_wp2_with (at_builtin; refine wpList_append_own _ rfl _ _ 106 rfl w.heap.size 109 i0 (.agg #[.int .i32 0,.bool false,.int .i64 0]) 3 16 Tryz.underlying106 hi hz0 hz1 hz2 rfl (by decide) _ _ _ rfl (hown.alloc _) ⟨wr.heap.size,0,none⟩ 1 1 [_,_,_] rfl rfl (Cd.three_new _ _ _ _ _) ?c2 ?c3 ?c4 ?c5 ?_);case c2 => first | rfl | exact ⟨rfl,rfl,rfl⟩ | (intro u hu; simp at hu; rcases hu with rfl | rfl | rfl <;> rfl)
        case c3 => unfold maxLen; omega
        case c4 => omega
        case c5 => first | omega | (simp; omega)
        intro v' w1 hown' hgrow _;have hbw3 := Cd.below_own3 (hbw.alloc (by omega) _) (hown.alloc _) hgrow (Nat.le_refl _) (by simp; omega);clear hown hgrow hbw;go_wp2;go_roundw;case rel =>
         refine ⟨k + 1,us ++ [((0 : Int),true,(k : Int))],by omega,by first | rfl | go_num | (simp; try omega),by rw [Cd.cellsU_append,List.length_append]; exact hown',hbw3,?_,by rw [List.length_append]; show us.length + 1 ≤ _; omega⟩;rw [← HACC.out,HUU.out,List.append_assoc];rfl
        case measure => simp [intOf]; omega
      · obtain ⟨p0,p1,p2,p3⟩ := hy;clear m31 m15 HCW;have c1 := C1.out (by omega);have c2 := C2.out (by omega);have c3 := C3.out (by omega);have o1 := i32_or6 (x := (x : Int) % 8 * 64) (y := (y1 : Int) % 64) (by omega) (by omega) (by omega) (by omega) (by omega);have o2 := i32_or6 (x := ((x : Int) % 8 * 64 + (y1 : Int) % 64) * 64) (y := (y2 : Int) % 64) (by omega) (by omega) (by omega) (by omega) (by omega);have o3 := i32_or6 (x := (((x : Int) % 8 * 64 + (y1 : Int) % 64) * 64 + (y2 : Int) % 64) * 64) (y := (y3 : Int) % 64) (by omega) (by omega) (by omega) (by omega) (by omega);have hd : Lib.decodeN (s.size - k) x y1 y2 y3 = (65533,1) := by
         unfold Lib.decodeN;repeat' split
         all_goals first | rfl | (exfalso; omega)
        have hu := HU.out _ _ hd true (by rw [decide_eq_false (by decide)]; rfl);rw [if_pos (by decide)] at hu;have HUU := Lib.hid hu; clear hu hd HU;go_wp2;refine wp_loop_rounds 5 ?_;rw [rounds_succ];go_wp2;rw [rounds_succ];go_wp2;rw [rounds_succ];go_wp2;rw [rounds_succ];go_wp2_with (at_builtin; refine wpList_append_own _ rfl _ _ 106 rfl w.heap.size 109 i0 (.agg #[.int .i32 0,.bool false,.int .i64 0]) 3 16 Tryz.underlying106 hi hz0 hz1 hz2 rfl (by decide) _ _ _ rfl (hown.alloc _) ⟨wr.heap.size,0,none⟩ 1 1 [_,_,_] rfl rfl (Cd.three_new _ _ _ _ _) ?c2 ?c3 ?c4 ?c5 ?_);case c2 => first | rfl | exact ⟨rfl,rfl,rfl⟩ | (intro u hu; simp at hu; rcases hu with rfl | rfl | rfl <;> rfl)
        case c3 => unfold maxLen; omega
        case c4 => omega
        case c5 => first | omega | (simp; omega)
        intro v' w1 hown' hgrow _;have hbw3 := Cd.below_own3 (hbw.alloc (by omega) _) (hown.alloc _) hgrow (Nat.le_refl _) (by simp; omega);clear hown hgrow hbw;go_wp2;go_roundw;case rel =>
         refine ⟨k + 1,us ++ [((0 : Int),true,(k : Int))],by omega,by first | rfl | go_num | (simp; try omega),by rw [Cd.cellsU_append,List.length_append]; exact hown',hbw3,?_,by rw [List.length_append]; show us.length + 1 ≤ _; omega⟩;rw [← HACC.out,HUU.out,List.append_assoc];rfl
        case measure => simp [intOf]; omega
      · obtain ⟨p0,p1,p2,p3,p4,p5⟩ := hy;clear m31 m15 HCW;have c1 := C1.out (by omega);have c2 := C2.out (by omega);have c3 := C3.out (by omega);have o1 := i32_or6 (x := (x : Int) % 8 * 64) (y := (y1 : Int) % 64) (by omega) (by omega) (by omega) (by omega) (by omega);have o2 := i32_or6 (x := ((x : Int) % 8 * 64 + (y1 : Int) % 64) * 64) (y := (y2 : Int) % 64) (by omega) (by omega) (by omega) (by omega) (by omega);have o3 := i32_or6 (x := (((x : Int) % 8 * 64 + (y1 : Int) % 64) * 64 + (y2 : Int) % 64) * 64) (y := (y3 : Int) % 64) (by omega) (by omega) (by omega) (by omega) (by omega);have hd : Lib.decodeN (s.size - k) x y1 y2 y3 = (x % 8 * 262144 + y1 % 64 * 4096 + y2 % 64 * 64 + y3 % 64,4) := by
         unfold Lib.decodeN;repeat' split
         all_goals first | rfl | (exfalso; omega)
        have hu := HU.out _ _ hd false (by rw [decide_eq_true (Or.inr (by decide))]; rfl);rw [if_neg (by decide)] at hu;have HUU := Lib.hid hu; clear hu hd HU;go_wp2;refine wp_loop_rounds 5 ?_;rw [rounds_succ];go_wp2;rw [rounds_succ];go_wp2;rw [rounds_succ];go_wp2;rw [rounds_succ];go_wp2_with (at_builtin; refine wpList_append_own _ rfl _ _ 106 rfl w.heap.size 109 i0 (.agg #[.int .i32 0,.bool false,.int .i64 0]) 3 16 Tryz.underlying106 hi hz0 hz1 hz2 rfl (by decide) _ _ _ rfl ((hown.alloc _).alloc _) ⟨wr.heap.size + 1,0,none⟩ 1 1 [_,_,_] rfl rfl (Cd.three_newL _ _ _ _ _ _) ?c2 ?c3 ?c4 ?c5 ?_);case c2 => first | rfl | exact ⟨rfl,rfl,rfl⟩ | (intro u hu; simp at hu; rcases hu with rfl | rfl | rfl <;> rfl)
        case c3 => unfold maxLen; omega
        case c4 => omega
        case c5 => first | omega | (simp; omega)
        intro v' w1 hown' hgrow _;have hbw3 := Cd.below_own3 ((hbw.alloc (by omega) _).alloc (by simp; omega) _) ((hown.alloc _).alloc _) hgrow (Nat.le_refl _) (by simp; omega);clear hown hgrow hbw;go_wp2;go_roundw;case rel =>
         refine ⟨k + 4,us ++ [(((((x : Int) % 8 * 64 + (y1 : Int) % 64) * 64 + (y2 : Int) % 64) * 64 + (y3 : Int) % 64),false,(k : Int))],by omega,by first | rfl | go_num | (simp; try omega),by rw [Cd.cellsU_append,List.length_append]; exact hown',hbw3,?_,by rw [List.length_append]; show us.length + 1 ≤ _; omega⟩;rw [← HACC.out,HUU.out,List.append_assoc];rw [show ((((x : Int) % 8 * 64 + (y1 : Int) % 64) * 64 + (y2 : Int) % 64) * 64 + (y3 : Int) % 64) = ((x % 8 * 262144 + y1 % 64 * 4096 + y2 % 64 * 64 + y3 % 64 : Nat) : Int) by omega];rfl
        case measure => simp [intOf]; omega
      · obtain ⟨p0,p1,p2,p3,p4⟩ := hy;clear m31 m15 HCW;have c1 := C1.out (by omega);have c2 := C2.out (by omega);have c3 := C3.out (by omega);have o1 := i32_or6 (x := (x : Int) % 8 * 64) (y := (y1 : Int) % 64) (by omega) (by omega) (by omega) (by omega) (by omega);have o2 := i32_or6 (x := ((x : Int) % 8 * 64 + (y1 : Int) % 64) * 64) (y := (y2 : Int) % 64) (by omega) (by omega) (by omega) (by omega) (by omega);have o3 := i32_or6 (x := (((x : Int) % 8 * 64 + (y1 : Int) % 64) * 64 + (y2 : Int) % 64) * 64) (y := (y3 : Int) % 64) (by omega) (by omega) (by omega) (by omega) (by omega);have hd : Lib.decodeN (s.size - k) x y1 y2 y3 = (65533,1) := by
         unfold Lib.decodeN;repeat' split
         all_goals first | rfl | (exfalso; omega)
        have hu := HU.out _ _ hd true (by rw [decide_eq_false (by decide)]; rfl);rw [if_pos (by decide)] at hu;have HUU := Lib.hid hu; clear hu hd HU;go_wp2;refine wp_loop_rounds 5 ?_;rw [rounds_succ];go_wp2;rw [rounds_succ];go_wp2;rw [rounds_succ];go_wp2;rw [rounds_succ];go_wp2_with (at_builtin; refine wpList_append_own _ rfl _ _ 106 rfl w.heap.size 109 i0 (.agg #[.int .i32 0,.bool false,.int .i64 0]) 3 16 Tryz.underlying106 hi hz0 hz1 hz2 rfl (by decide) _ _ _ rfl ((hown.alloc _).alloc _) ⟨wr.heap.size + 1,0,none⟩ 1 1 [_,_,_] rfl rfl (Cd.three_newL _ _ _ _ _ _) ?c2 ?c3 ?c4 ?c5 ?_);case c2 => first | rfl | exact ⟨rfl,rfl,rfl⟩ | (intro u hu; simp at hu; rcases hu with rfl | rfl | rfl <;> rfl)
        case c3 => unfold maxLen; omega
        case c4 => omega
        case c5 => first | omega | (simp; omega)
        intro v' w1 hown' hgrow _;have hbw3 := Cd.below_own3 ((hbw.alloc (by omega) _).alloc (by simp; omega) _) ((hown.alloc _).alloc _) hgrow (Nat.le_refl _) (by simp; omega);clear hown hgrow hbw;go_wp2;go_roundw;case rel =>
         refine ⟨k + 1,us ++ [((0 : Int),true,(k : Int))],by omega,by first | rfl | go_num | (simp; try omega),by rw [Cd.cellsU_append,List.length_append]; exact hown',hbw3,?_,by rw [List.length_append]; show us.length + 1 ≤ _; omega⟩;rw [← HACC.out,HUU.out,List.append_assoc];rfl
        case measure => simp [intOf]; omega
      · obtain ⟨p0,p1,p2,p3,p4⟩ := hy;clear m31 m15 HCW;have c1 := C1.out (by omega);have c2 := C2.out (by omega);have c3 := C3.out (by omega);have o1 := i32_or6 (x := (x : Int) % 8 * 64) (y := (y1 : Int) % 64) (by omega) (by omega) (by omega) (by omega) (by omega);have o2 := i32_or6 (x := ((x : Int) % 8 * 64 + (y1 : Int) % 64) * 64) (y := (y2 : Int) % 64) (by omega) (by omega) (by omega) (by omega) (by omega);have o3 := i32_or6 (x := (((x : Int) % 8 * 64 + (y1 : Int) % 64) * 64 + (y2 : Int) % 64) * 64) (y := (y3 : Int) % 64) (by omega) (by omega) (by omega) (by omega) (by omega);have hd : Lib.decodeN (s.size - k) x y1 y2 y3 = (65533,1) := by
         unfold Lib.decodeN;repeat' split
         all_goals first | rfl | (exfalso; omega)
        have hu := HU.out _ _ hd true (by rw [decide_eq_false (by decide)]; rfl);rw [if_pos (by decide)] at hu;have HUU := Lib.hid hu; clear hu hd HU;go_wp2;refine wp_loop_rounds 5 ?_;rw [rounds_succ];go_wp2;rw [rounds_succ];go_wp2;rw [rounds_succ];go_wp2;rw [rounds_succ];go_wp2_with (at_builtin; refine wpList_append_own _ rfl _ _ 106 rfl w.heap.size 109 i0 (.agg #[.int .i32 0,.bool false,.int .i64 0]) 3 16 Tryz.underlying106 hi hz0 hz1 hz2 rfl (by decide) _ _ _ rfl ((hown.alloc _).alloc _) ⟨wr.heap.size + 1,0,none⟩ 1 1 [_,_,_] rfl rfl (Cd.three_newL _ _ _ _ _ _) ?c2 ?c3 ?c4 ?c5 ?_);case c2 => first | rfl | exact ⟨rfl,rfl,rfl⟩ | (intro u hu; simp at hu; rcases hu with rfl | rfl | rfl <;> rfl)
        case c3 => unfold maxLen; omega
        case c4 => omega
        case c5 => first | omega | (simp; omega)
        intro v' w1 hown' hgrow _;have hbw3 := Cd.below_own3 ((hbw.alloc (by omega) _).alloc (by simp; omega) _) ((hown.alloc _).alloc _) hgrow (Nat.le_refl _) (by simp; omega);clear hown hgrow hbw;go_wp2;go_roundw;case rel =>
         refine ⟨k + 1,us ++ [((0 : Int),true,(k : Int))],by omega,by first | rfl | go_num | (simp; try omega),by rw [Cd.cellsU_append,List.length_append]; exact hown',hbw3,?_,by rw [List.length_append]; show us.length + 1 ≤ _; omega⟩;rw [← HACC.out,HUU.out,List.append_assoc];rfl
        case measure => simp [intOf]; omega
  · have hacc2 := HACC.out;rw [Cd.utf8U_end s k hlt,List.map_nil,List.append_nil] at hacc2;have HACC2 := Lib.hid hacc2; clear hacc2;go_wp2;go_ret;rw [← HACC2.out];exact ⟨_,rfl,hown,hbw⟩
end Go.Proofs.YteklhapffplohaaGreatDoor
