/-
  exact.Sound of any number, check. datum.Sound of a leaf (the empty list, a truth value, a text, a symbol) whose text is short and plain. datum.Sound and datum.Copy of a leaf.
-/
import Derived.Test.YteklhapffplohaaGreatDoorProg
import Derived.WalkKit
import Derived.WalkSpells
import Derived.WalkLawsBesides
import Derived.Handy
import Derived.BigCall
import Derived.Lib.Hide
import Derived.Outline
import Derived.Deep.DeepCutAuto
import Derived.Test.YteklhapffplohaaGreatDoorVk
import Derived.Test.YteklhapffplohaaGreatDoorVg
import Derived.Test.YteklhapffplohaaGreatDoorVj
import Derived.Test.YteklhapffplohaaGreatDoorShelfV
set_option linter.unusedVariables false
set_option linter.unusedSimpArgs false
namespace Go.Proofs.YteklhapffplohaaGreatDoor
open Go.RowKit
structure Rt.GN (w : World) (v : Value) (s : Bool) (t b : List Nat) (s2 : Bool) (t2 b2 : List Nat) : Prop where
 form : ∃ v3 v4 v6 v7,v = .agg #[.bool s,v3,v4,.bool s2,v6,v7] ∧ Nt.In w v3 t ∧ Nt.In w v4 b ∧ Nt.In w v6 t2 ∧ Nt.In w v7 b2
 ok1 : Rt.GOk t b
 ok2 : Rt.GOk t2 b2
theorem Rt.GN.below {w w' : World} {v : Value} {s s2 : Bool} {t b t2 b2 : List Nat} {B : Nat} (h : Rt.GN w v s t b s2 t2 b2) (hb : Below B w w') (hB : w.heap.size ≤ B) : Rt.GN w' v s t b s2 t2 b2 := by
 obtain ⟨⟨v3,v4,v6,v7,e,h1,h2,h3,h4⟩,o1,o2⟩ := h;exact ⟨⟨v3,v4,v6,v7,e,h1.below hb hB,h2.below hb hB,h3.below hb hB,h4.below hb hB⟩,o1,o2⟩
def Rt.soundN (s : Bool) (t b : List Nat) (s2 : Bool) (t2 b2 : List Nat) : Bool := Rt.sound s t b && Rt.sound s2 t2 b2
set_option maxHeartbeats 4000000
set_option maxRecDepth 1000000
theorem Rt.Sound_any (s : Bool) (t b : List Nat) (s2 : Bool) (t2 b2 : List Nat) (v : Value) (w : World) (h : Rt.GN w v s t b s2 t2 b2) : Calls Tryz.prog 46 #[v] w fun e w' => e = .returned (.bool (Rt.soundN s t b s2 t2 b2)) ∧ Below w.heap.size w w' := by
 obtain ⟨⟨v3,v4,v6,v7,rfl,h1,h2,h3,h4⟩,o1,o2⟩ := h;have K1 := fun w h => Rt.ratSound_any s t b (.agg #[.bool s,v3,v4]) w h o1;have K2 := fun w h => Rt.ratSound_any s2 t2 b2 (.agg #[.bool s2,v6,v7]) w h o2;obtain ⟨a1,c1,rfl⟩ := h1.slice;obtain ⟨a2,c2,rfl⟩ := h2.slice;obtain ⟨a3,c3,rfl⟩ := h3.slice;obtain ⟨a4,c4,rfl⟩ := h4.slice;obtain ⟨W,hW⟩ : ∃ W,w.alloc (.cells #[.bool s,.slice a1 t.length c1,.slice a2 b.length c2,.bool s2,.slice a3 t2.length c3,.slice a4 b2.length c4] 26) = W := ⟨_,rfl⟩;have q0 : W.heap[w.heap.size]? = some (.cells #[.bool s,.slice a1 t.length c1,.slice a2 b.length c2,.bool s2,.slice a3 t2.length c3,.slice a4 b2.length c4] 26 (0,0)) := by rw [← hW]; exact heap_alloc_new w _
 have hb0 : Below w.heap.size w W := by rw [← hW]; exact (Below.refl _ _).alloc (Nat.le_refl _) _
 have HI := Lib.hid (fun (w' : World) (hb : Below W.heap.size W w') => And.intro (show Rt.G w' (.agg #[.bool s,.slice a1 t.length c1,.slice a2 b.length c2]) s t b from ⟨_,_,rfl,(h1.below hb0 (Nat.le_refl _)).below hb (Nat.le_refl _),(h2.below hb0 (Nat.le_refl _)).below hb (Nat.le_refl _)⟩) (show Rt.G w' (.agg #[.bool s2,.slice a3 t2.length c3,.slice a4 b2.length c4]) s2 t2 b2 from ⟨_,_,rfl,(h3.below hb0 (Nat.le_refl _)).below hb (Nat.le_refl _),(h4.below hb0 (Nat.le_refl _)).below hb (Nat.le_refl _)⟩));have hzw : w.heap.size < W.heap.size := (Array.getElem?_eq_some_iff.1 q0).1;have HK := Lib.hid (fun (w' : World) (hb : Below W.heap.size W w') => Rt.cells6 ((hb.block w.heap.size hzw).trans q0));have HB := Lib.hid (fun (w' : World) (hb : Below W.heap.size W w') => hb0.trans (hb.mono (by omega : w.heap.size ≤ W.heap.size)));obtain ⟨d0,d1,d2,d3,d4,d5⟩ := HK.out _ (Below.refl _ _);clear h1 h2 h3 h4 o1 o2 q0 hb0 hzw;unfold Rt.soundN;generalize Rt.sound s t b = S1 at *;generalize Rt.sound s2 t2 b2 = S2 at *;generalize t.length = l1 at *;generalize b.length = l2 at *;generalize t2.length = l3 at *;generalize b2.length = l4 at *;rcases S1 with _ | _
 · go_enter Tryz.func46,Tryz.ntmps46;go_wp2_with fail;refine (K1 _ (HI.out _ (Below.refl _ _)).1).mono ?_;rintro x w1 ⟨rfl,hb1⟩;have HB1 := Lib.hid (HB.out _ hb1);clear hb1 hW;go_wp2_with fail;go_ret;exact ⟨by simp,HB1.out⟩
 · go_enter Tryz.func46,Tryz.ntmps46;go_wp2_with fail;refine (K1 _ (HI.out _ (Below.refl _ _)).1).mono ?_;rintro x w1 ⟨rfl,hb1⟩;have HBB := Lib.hid hb1;clear d0 d1 d2 d3 d4 d5;obtain ⟨d0,d1,d2,d3,d4,d5⟩ := HK.out _ hb1;clear hb1 hW;go_wp2_with fail;refine (K2 _ (HI.out _ HBB.out).2).mono ?_;rintro x w2 ⟨rfl,hb2⟩;have HB2 := Lib.hid (HB.out _ (HBB.out.trans (hb2.mono HBB.out.size)));clear hb2;go_wp2_with fail;go_ret;exact ⟨by simp,HB2.out⟩
set_option maxHeartbeats 200000
set_option maxRecDepth 512
theorem Dt.cell_of {w : World} {b : Nat} {C : Array Value} {t : TypeId} (h : w.heap[b]? = some (.cells C t (0,0))) (k : Nat) : w.cell? ⟨b,k,none⟩ = C[k]? := by
 simp [World.cell?,h]
theorem Dt.setCells {w : World} {b : Nat} {C : Array Value} {t : TypeId} (h : w.heap[b]? = some (.cells C t (0,0))) (k : Nat) (u : Value) : (w.setCell ⟨b,k,none⟩ u).heap[b]? = some (.cells (C.set! k u) t (0,0)) := by
 obtain ⟨hlt,hk⟩ := Array.getElem?_eq_some_iff.1 h;show (w.heap.modify b _)[b]? = _;rw [Array.getElem?_eq_getElem (by rw [Array.size_modify]; exact hlt),Array.getElem_modify_self,hk];rfl
theorem Dt.frozen_of {w : World} {b : Nat} {C : Array Value} {t : TypeId} (h : w.heap[b]? = some (.cells C t (0,0))) (k : Nat) : w.frozen? ⟨b,k,none⟩ = false := by
 simp [World.frozen?,h]
theorem Dt.cells11 {w : World} {b : Nat} {v0 v1 v2 v3 v4 v5 v6 v7 v8 v9 v10 : Value} {t : TypeId} (h : w.heap[b]? = some (.cells #[v0,v1,v2,v3,v4,v5,v6,v7,v8,v9,v10] t (0,0))) :
 w.cell? ⟨b,0,none⟩ = some v0 ∧ w.cell? ⟨b,1,none⟩ = some v1 ∧ w.cell? ⟨b,2,none⟩ = some v2 ∧ w.cell? ⟨b,3,none⟩ = some v3 ∧ w.cell? ⟨b,4,none⟩ = some v4 ∧ w.cell? ⟨b,5,none⟩ = some v5 ∧ w.cell? ⟨b,6,none⟩ = some v6 ∧ w.cell? ⟨b,7,none⟩ = some v7 ∧ w.cell? ⟨b,8,none⟩ = some v8 ∧ w.cell? ⟨b,9,none⟩ = some v9 ∧ w.cell? ⟨b,10,none⟩ = some v10 :=
 ⟨Dt.cell_of h 0,Dt.cell_of h 1,Dt.cell_of h 2,Dt.cell_of h 3,Dt.cell_of h 4,Dt.cell_of h 5,Dt.cell_of h 6,Dt.cell_of h 7,Dt.cell_of h 8,Dt.cell_of h 9,Dt.cell_of h 10⟩
end Go.Proofs.YteklhapffplohaaGreatDoor
namespace Go.Proofs.YteklhapffplohaaGreatDoor
open Go.RowKit
end Go.Proofs.YteklhapffplohaaGreatDoor
namespace Go.Proofs.YteklhapffplohaaGreatDoor
open Go.RowKit
theorem Dt.below_set {w0 w : World} {B : Nat} (h : Below B w0 w) (b k : Nat) (u : Value) (hb : B ≤ b) : Below B w0 (w.setCell ⟨b,k,none⟩ u) := by
 exact h.setCell hb _
theorem Dt.store11 {w : World} {b : Nat} {v0 v1 v2 v3 v4 v5 v6 v7 v8 v9 v10 : Value} {t : TypeId} (h : w.heap[b]? = some (.cells #[v0,v1,v2,v3,v4,v5,v6,v7,v8,v9,v10] t (0,0))) (u0 u1 u2 u3 u4 u5 u6 u7 u8 u9 u10 : Value) :
 w.cell? ⟨b,0,none⟩ = some v0 ∧
 w.frozen? ⟨b,0,none⟩ = false ∧
 (w.setCell ⟨b,0,none⟩ u0).cell? ⟨b,1,none⟩ = some v1 ∧
 (w.setCell ⟨b,0,none⟩ u0).frozen? ⟨b,1,none⟩ = false ∧
 ((w.setCell ⟨b,0,none⟩ u0).setCell ⟨b,1,none⟩ u1).cell? ⟨b,2,none⟩ = some v2 ∧
 ((w.setCell ⟨b,0,none⟩ u0).setCell ⟨b,1,none⟩ u1).frozen? ⟨b,2,none⟩ = false ∧
 (((w.setCell ⟨b,0,none⟩ u0).setCell ⟨b,1,none⟩ u1).setCell ⟨b,2,none⟩ u2).cell? ⟨b,3,none⟩ = some v3 ∧
 (((w.setCell ⟨b,0,none⟩ u0).setCell ⟨b,1,none⟩ u1).setCell ⟨b,2,none⟩ u2).frozen? ⟨b,3,none⟩ = false ∧
 ((((w.setCell ⟨b,0,none⟩ u0).setCell ⟨b,1,none⟩ u1).setCell ⟨b,2,none⟩ u2).setCell ⟨b,3,none⟩ u3).cell? ⟨b,4,none⟩ = some v4 ∧
 ((((w.setCell ⟨b,0,none⟩ u0).setCell ⟨b,1,none⟩ u1).setCell ⟨b,2,none⟩ u2).setCell ⟨b,3,none⟩ u3).frozen? ⟨b,4,none⟩ = false ∧
 (((((w.setCell ⟨b,0,none⟩ u0).setCell ⟨b,1,none⟩ u1).setCell ⟨b,2,none⟩ u2).setCell ⟨b,3,none⟩ u3).setCell ⟨b,4,none⟩ u4).cell? ⟨b,5,none⟩ = some v5 ∧
 (((((w.setCell ⟨b,0,none⟩ u0).setCell ⟨b,1,none⟩ u1).setCell ⟨b,2,none⟩ u2).setCell ⟨b,3,none⟩ u3).setCell ⟨b,4,none⟩ u4).frozen? ⟨b,5,none⟩ = false ∧
 ((((((w.setCell ⟨b,0,none⟩ u0).setCell ⟨b,1,none⟩ u1).setCell ⟨b,2,none⟩ u2).setCell ⟨b,3,none⟩ u3).setCell ⟨b,4,none⟩ u4).setCell ⟨b,5,none⟩ u5).cell? ⟨b,6,none⟩ = some v6 ∧
 ((((((w.setCell ⟨b,0,none⟩ u0).setCell ⟨b,1,none⟩ u1).setCell ⟨b,2,none⟩ u2).setCell ⟨b,3,none⟩ u3).setCell ⟨b,4,none⟩ u4).setCell ⟨b,5,none⟩ u5).frozen? ⟨b,6,none⟩ = false ∧
 (((((((w.setCell ⟨b,0,none⟩ u0).setCell ⟨b,1,none⟩ u1).setCell ⟨b,2,none⟩ u2).setCell ⟨b,3,none⟩ u3).setCell ⟨b,4,none⟩ u4).setCell ⟨b,5,none⟩ u5).setCell ⟨b,6,none⟩ u6).cell? ⟨b,7,none⟩ = some v7 ∧
 (((((((w.setCell ⟨b,0,none⟩ u0).setCell ⟨b,1,none⟩ u1).setCell ⟨b,2,none⟩ u2).setCell ⟨b,3,none⟩ u3).setCell ⟨b,4,none⟩ u4).setCell ⟨b,5,none⟩ u5).setCell ⟨b,6,none⟩ u6).frozen? ⟨b,7,none⟩ = false ∧
 ((((((((w.setCell ⟨b,0,none⟩ u0).setCell ⟨b,1,none⟩ u1).setCell ⟨b,2,none⟩ u2).setCell ⟨b,3,none⟩ u3).setCell ⟨b,4,none⟩ u4).setCell ⟨b,5,none⟩ u5).setCell ⟨b,6,none⟩ u6).setCell ⟨b,7,none⟩ u7).cell? ⟨b,8,none⟩ = some v8 ∧
 ((((((((w.setCell ⟨b,0,none⟩ u0).setCell ⟨b,1,none⟩ u1).setCell ⟨b,2,none⟩ u2).setCell ⟨b,3,none⟩ u3).setCell ⟨b,4,none⟩ u4).setCell ⟨b,5,none⟩ u5).setCell ⟨b,6,none⟩ u6).setCell ⟨b,7,none⟩ u7).frozen? ⟨b,8,none⟩ = false ∧
 (((((((((w.setCell ⟨b,0,none⟩ u0).setCell ⟨b,1,none⟩ u1).setCell ⟨b,2,none⟩ u2).setCell ⟨b,3,none⟩ u3).setCell ⟨b,4,none⟩ u4).setCell ⟨b,5,none⟩ u5).setCell ⟨b,6,none⟩ u6).setCell ⟨b,7,none⟩ u7).setCell ⟨b,8,none⟩ u8).cell? ⟨b,9,none⟩ = some v9 ∧
 (((((((((w.setCell ⟨b,0,none⟩ u0).setCell ⟨b,1,none⟩ u1).setCell ⟨b,2,none⟩ u2).setCell ⟨b,3,none⟩ u3).setCell ⟨b,4,none⟩ u4).setCell ⟨b,5,none⟩ u5).setCell ⟨b,6,none⟩ u6).setCell ⟨b,7,none⟩ u7).setCell ⟨b,8,none⟩ u8).frozen? ⟨b,9,none⟩ = false ∧
 ((((((((((w.setCell ⟨b,0,none⟩ u0).setCell ⟨b,1,none⟩ u1).setCell ⟨b,2,none⟩ u2).setCell ⟨b,3,none⟩ u3).setCell ⟨b,4,none⟩ u4).setCell ⟨b,5,none⟩ u5).setCell ⟨b,6,none⟩ u6).setCell ⟨b,7,none⟩ u7).setCell ⟨b,8,none⟩ u8).setCell ⟨b,9,none⟩ u9).cell? ⟨b,10,none⟩ = some v10 ∧
 ((((((((((w.setCell ⟨b,0,none⟩ u0).setCell ⟨b,1,none⟩ u1).setCell ⟨b,2,none⟩ u2).setCell ⟨b,3,none⟩ u3).setCell ⟨b,4,none⟩ u4).setCell ⟨b,5,none⟩ u5).setCell ⟨b,6,none⟩ u6).setCell ⟨b,7,none⟩ u7).setCell ⟨b,8,none⟩ u8).setCell ⟨b,9,none⟩ u9).frozen? ⟨b,10,none⟩ = false ∧
 (((((((((((w.setCell ⟨b,0,none⟩ u0).setCell ⟨b,1,none⟩ u1).setCell ⟨b,2,none⟩ u2).setCell ⟨b,3,none⟩ u3).setCell ⟨b,4,none⟩ u4).setCell ⟨b,5,none⟩ u5).setCell ⟨b,6,none⟩ u6).setCell ⟨b,7,none⟩ u7).setCell ⟨b,8,none⟩ u8).setCell ⟨b,9,none⟩ u9).setCell ⟨b,10,none⟩ u10).heap[b]? = some (.cells #[u0,u1,u2,u3,u4,u5,u6,u7,u8,u9,u10] t (0,0)) := by
 have h0 := h
 have h1 : (w.setCell ⟨b,0,none⟩ u0).heap[b]? = some (.cells #[u0,v1,v2,v3,v4,v5,v6,v7,v8,v9,v10] t (0,0)) := Dt.setCells h0 0 u0
 have h2 : ((w.setCell ⟨b,0,none⟩ u0).setCell ⟨b,1,none⟩ u1).heap[b]? = some (.cells #[u0,u1,v2,v3,v4,v5,v6,v7,v8,v9,v10] t (0,0)) := Dt.setCells h1 1 u1
 have h3 : (((w.setCell ⟨b,0,none⟩ u0).setCell ⟨b,1,none⟩ u1).setCell ⟨b,2,none⟩ u2).heap[b]? = some (.cells #[u0,u1,u2,v3,v4,v5,v6,v7,v8,v9,v10] t (0,0)) := Dt.setCells h2 2 u2
 have h4 : ((((w.setCell ⟨b,0,none⟩ u0).setCell ⟨b,1,none⟩ u1).setCell ⟨b,2,none⟩ u2).setCell ⟨b,3,none⟩ u3).heap[b]? = some (.cells #[u0,u1,u2,u3,v4,v5,v6,v7,v8,v9,v10] t (0,0)) := Dt.setCells h3 3 u3
 have h5 : (((((w.setCell ⟨b,0,none⟩ u0).setCell ⟨b,1,none⟩ u1).setCell ⟨b,2,none⟩ u2).setCell ⟨b,3,none⟩ u3).setCell ⟨b,4,none⟩ u4).heap[b]? = some (.cells #[u0,u1,u2,u3,u4,v5,v6,v7,v8,v9,v10] t (0,0)) := Dt.setCells h4 4 u4
 have h6 : ((((((w.setCell ⟨b,0,none⟩ u0).setCell ⟨b,1,none⟩ u1).setCell ⟨b,2,none⟩ u2).setCell ⟨b,3,none⟩ u3).setCell ⟨b,4,none⟩ u4).setCell ⟨b,5,none⟩ u5).heap[b]? = some (.cells #[u0,u1,u2,u3,u4,u5,v6,v7,v8,v9,v10] t (0,0)) := Dt.setCells h5 5 u5
 have h7 : (((((((w.setCell ⟨b,0,none⟩ u0).setCell ⟨b,1,none⟩ u1).setCell ⟨b,2,none⟩ u2).setCell ⟨b,3,none⟩ u3).setCell ⟨b,4,none⟩ u4).setCell ⟨b,5,none⟩ u5).setCell ⟨b,6,none⟩ u6).heap[b]? = some (.cells #[u0,u1,u2,u3,u4,u5,u6,v7,v8,v9,v10] t (0,0)) := Dt.setCells h6 6 u6
 have h8 : ((((((((w.setCell ⟨b,0,none⟩ u0).setCell ⟨b,1,none⟩ u1).setCell ⟨b,2,none⟩ u2).setCell ⟨b,3,none⟩ u3).setCell ⟨b,4,none⟩ u4).setCell ⟨b,5,none⟩ u5).setCell ⟨b,6,none⟩ u6).setCell ⟨b,7,none⟩ u7).heap[b]? = some (.cells #[u0,u1,u2,u3,u4,u5,u6,u7,v8,v9,v10] t (0,0)) := Dt.setCells h7 7 u7
 have h9 : (((((((((w.setCell ⟨b,0,none⟩ u0).setCell ⟨b,1,none⟩ u1).setCell ⟨b,2,none⟩ u2).setCell ⟨b,3,none⟩ u3).setCell ⟨b,4,none⟩ u4).setCell ⟨b,5,none⟩ u5).setCell ⟨b,6,none⟩ u6).setCell ⟨b,7,none⟩ u7).setCell ⟨b,8,none⟩ u8).heap[b]? = some (.cells #[u0,u1,u2,u3,u4,u5,u6,u7,u8,v9,v10] t (0,0)) := Dt.setCells h8 8 u8
 have h10 : ((((((((((w.setCell ⟨b,0,none⟩ u0).setCell ⟨b,1,none⟩ u1).setCell ⟨b,2,none⟩ u2).setCell ⟨b,3,none⟩ u3).setCell ⟨b,4,none⟩ u4).setCell ⟨b,5,none⟩ u5).setCell ⟨b,6,none⟩ u6).setCell ⟨b,7,none⟩ u7).setCell ⟨b,8,none⟩ u8).setCell ⟨b,9,none⟩ u9).heap[b]? = some (.cells #[u0,u1,u2,u3,u4,u5,u6,u7,u8,u9,v10] t (0,0)) := Dt.setCells h9 9 u9
 have h11 : (((((((((((w.setCell ⟨b,0,none⟩ u0).setCell ⟨b,1,none⟩ u1).setCell ⟨b,2,none⟩ u2).setCell ⟨b,3,none⟩ u3).setCell ⟨b,4,none⟩ u4).setCell ⟨b,5,none⟩ u5).setCell ⟨b,6,none⟩ u6).setCell ⟨b,7,none⟩ u7).setCell ⟨b,8,none⟩ u8).setCell ⟨b,9,none⟩ u9).setCell ⟨b,10,none⟩ u10).heap[b]? = some (.cells #[u0,u1,u2,u3,u4,u5,u6,u7,u8,u9,u10] t (0,0)) := Dt.setCells h10 10 u10
 exact ⟨Dt.cell_of h0 0,Dt.frozen_of h0 0,Dt.cell_of h1 1,Dt.frozen_of h1 1,Dt.cell_of h2 2,Dt.frozen_of h2 2,Dt.cell_of h3 3,Dt.frozen_of h3 3,Dt.cell_of h4 4,Dt.frozen_of h4 4,Dt.cell_of h5 5,Dt.frozen_of h5 5,Dt.cell_of h6 6,Dt.frozen_of h6 6,Dt.cell_of h7 7,Dt.frozen_of h7 7,Dt.cell_of h8 8,Dt.frozen_of h8 8,Dt.cell_of h9 9,Dt.frozen_of h9 9,Dt.cell_of h10 10,Dt.frozen_of h10 10,h11⟩
theorem Dt.below_store11 {w0 w : World} {B b : Nat} (h : Below B w0 w) (hb : B ≤ b) (u0 u1 u2 u3 u4 u5 u6 u7 u8 u9 u10 : Value) : Below B w0 (((((((((((w.setCell ⟨b,0,none⟩ u0).setCell ⟨b,1,none⟩ u1).setCell ⟨b,2,none⟩ u2).setCell ⟨b,3,none⟩ u3).setCell ⟨b,4,none⟩ u4).setCell ⟨b,5,none⟩ u5).setCell ⟨b,6,none⟩ u6).setCell ⟨b,7,none⟩ u7).setCell ⟨b,8,none⟩ u8).setCell ⟨b,9,none⟩ u9).setCell ⟨b,10,none⟩ u10) := by
 have h0 := h;have h1 := Dt.below_set h0 b 0 u0 hb;have h2 := Dt.below_set h1 b 1 u1 hb;have h3 := Dt.below_set h2 b 2 u2 hb;have h4 := Dt.below_set h3 b 3 u3 hb;have h5 := Dt.below_set h4 b 4 u4 hb;have h6 := Dt.below_set h5 b 5 u5 hb;have h7 := Dt.below_set h6 b 6 u6 hb;have h8 := Dt.below_set h7 b 7 u7 hb;have h9 := Dt.below_set h8 b 8 u8 hb;have h10 := Dt.below_set h9 b 9 u9 hb;have h11 := Dt.below_set h10 b 10 u10 hb;exact h11
theorem Dt.put11 {w : World} {b : Nat} {v0 v1 v2 v3 v4 v5 v6 v7 v8 v9 v10 : Value} {t : TypeId} (h : w.heap[b]? = some (.cells #[v0,v1,v2,v3,v4,v5,v6,v7,v8,v9,v10] t (0,0))) (u0 u1 u2 u3 u4 u5 u6 u7 u8 u9 u10 : Value) :
 ∃ W1 W2 W3 W4 W5 W6 W7 W8 W9 W10 W11 : World,
 (w.cell? ⟨b,0,none⟩ = some v0 ∧ w.frozen? ⟨b,0,none⟩ = false ∧ w.setCell ⟨b,0,none⟩ u0 = W1 ∧ W1.heap.size = w.heap.size) ∧
 (W1.cell? ⟨b,1,none⟩ = some v1 ∧ W1.frozen? ⟨b,1,none⟩ = false ∧ W1.setCell ⟨b,1,none⟩ u1 = W2 ∧ W2.heap.size = w.heap.size) ∧
 (W2.cell? ⟨b,2,none⟩ = some v2 ∧ W2.frozen? ⟨b,2,none⟩ = false ∧ W2.setCell ⟨b,2,none⟩ u2 = W3 ∧ W3.heap.size = w.heap.size) ∧
 (W3.cell? ⟨b,3,none⟩ = some v3 ∧ W3.frozen? ⟨b,3,none⟩ = false ∧ W3.setCell ⟨b,3,none⟩ u3 = W4 ∧ W4.heap.size = w.heap.size) ∧
 (W4.cell? ⟨b,4,none⟩ = some v4 ∧ W4.frozen? ⟨b,4,none⟩ = false ∧ W4.setCell ⟨b,4,none⟩ u4 = W5 ∧ W5.heap.size = w.heap.size) ∧
 (W5.cell? ⟨b,5,none⟩ = some v5 ∧ W5.frozen? ⟨b,5,none⟩ = false ∧ W5.setCell ⟨b,5,none⟩ u5 = W6 ∧ W6.heap.size = w.heap.size) ∧
 (W6.cell? ⟨b,6,none⟩ = some v6 ∧ W6.frozen? ⟨b,6,none⟩ = false ∧ W6.setCell ⟨b,6,none⟩ u6 = W7 ∧ W7.heap.size = w.heap.size) ∧
 (W7.cell? ⟨b,7,none⟩ = some v7 ∧ W7.frozen? ⟨b,7,none⟩ = false ∧ W7.setCell ⟨b,7,none⟩ u7 = W8 ∧ W8.heap.size = w.heap.size) ∧
 (W8.cell? ⟨b,8,none⟩ = some v8 ∧ W8.frozen? ⟨b,8,none⟩ = false ∧ W8.setCell ⟨b,8,none⟩ u8 = W9 ∧ W9.heap.size = w.heap.size) ∧
 (W9.cell? ⟨b,9,none⟩ = some v9 ∧ W9.frozen? ⟨b,9,none⟩ = false ∧ W9.setCell ⟨b,9,none⟩ u9 = W10 ∧ W10.heap.size = w.heap.size) ∧
 (W10.cell? ⟨b,10,none⟩ = some v10 ∧ W10.frozen? ⟨b,10,none⟩ = false ∧ W10.setCell ⟨b,10,none⟩ u10 = W11 ∧ W11.heap.size = w.heap.size) ∧
 W11.heap[b]? = some (.cells #[u0,u1,u2,u3,u4,u5,u6,u7,u8,u9,u10] t (0,0)) ∧
 W11.heap.size = w.heap.size ∧
 (∀ q,q ≠ b → W11.heap[q]? = w.heap[q]?) ∧
 (∀ (B : Nat) (w0 : World),Below B w0 w → B ≤ b → Below B w0 W11) := by
 obtain ⟨f0,z0,f1,z1,f2,z2,f3,z3,f4,z4,f5,z5,f6,z6,f7,z7,f8,z8,f9,z9,f10,z10,g⟩ := Dt.store11 h u0 u1 u2 u3 u4 u5 u6 u7 u8 u9 u10
 refine ⟨_,_,_,_,_,_,_,_,_,_,_,⟨f0,z0,rfl,by simp⟩,⟨f1,z1,rfl,by simp⟩,⟨f2,z2,rfl,by simp⟩,⟨f3,z3,rfl,by simp⟩,⟨f4,z4,rfl,by simp⟩,⟨f5,z5,rfl,by simp⟩,⟨f6,z6,rfl,by simp⟩,⟨f7,z7,rfl,by simp⟩,⟨f8,z8,rfl,by simp⟩,⟨f9,z9,rfl,by simp⟩,⟨f10,z10,rfl,by simp⟩,g,by simp,?_,fun B w0 h0 hb => Dt.below_store11 h0 hb u0 u1 u2 u3 u4 u5 u6 u7 u8 u9 u10⟩
 intro q hq
 rw [Below.heap_setCell _ ⟨b,10,none⟩ _ q hq]
 rw [Below.heap_setCell _ ⟨b,9,none⟩ _ q hq]
 rw [Below.heap_setCell _ ⟨b,8,none⟩ _ q hq]
 rw [Below.heap_setCell _ ⟨b,7,none⟩ _ q hq]
 rw [Below.heap_setCell _ ⟨b,6,none⟩ _ q hq]
 rw [Below.heap_setCell _ ⟨b,5,none⟩ _ q hq]
 rw [Below.heap_setCell _ ⟨b,4,none⟩ _ q hq]
 rw [Below.heap_setCell _ ⟨b,3,none⟩ _ q hq]
 rw [Below.heap_setCell _ ⟨b,2,none⟩ _ q hq]
 rw [Below.heap_setCell _ ⟨b,1,none⟩ _ q hq]
 rw [Below.heap_setCell _ ⟨b,0,none⟩ _ q hq]
set_option maxHeartbeats 4000000
set_option maxRecDepth 1000000
theorem Tr.noRat_any (s : Bool) (a1 a2 : Option Addr) (l1 c1 l2 c2 : Nat) (w : World) : Calls Tryz.prog 47 #[.agg #[.bool s,.slice a1 l1 c1,.slice a2 l2 c2]] w fun e w' => e = .returned (.bool (!s && decide (l1 = 0) && decide (l2 = 0))) ∧ Below w.heap.size w w' := by
 have hal : ∀ o,Below w.heap.size w (w.alloc o) := fun o => (Below.refl _ _).alloc (Nat.le_refl _) _;have HAL := Lib.hid hal;clear hal;cases s with
 | true =>
   go_enter Tryz.func47,Tryz.ntmps47;go_wp2_with fail;go_ret;exact ⟨by simp,HAL.out _⟩
 | false =>
   by_cases h1 : l1 = 0
   · subst h1;by_cases h2 : l2 = 0
     · subst h2;go_enter Tryz.func47,Tryz.ntmps47;go_wp2_with fail;go_ret;exact ⟨by simp,HAL.out _⟩
     · have h2I : ((l2 : Int) == 0) = false := by simp; exact h2
       have H2 := Lib.hid h2;clear h2;go_enter Tryz.func47,Tryz.ntmps47;go_wp2_with fail;go_ret;exact ⟨by simp [H2.out],HAL.out _⟩
   · have h1I : ((l1 : Int) == 0) = false := by simp; exact h1
     have H1 := Lib.hid h1;clear h1;go_enter Tryz.func47,Tryz.ntmps47;go_wp2_with fail;go_ret;exact ⟨by simp [H1.out],HAL.out _⟩
end Go.Proofs.YteklhapffplohaaGreatDoor
