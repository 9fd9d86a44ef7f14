/-
  datum.Sound and datum.Copy of a leaf.
  A store of eleven cells into a box.
  datum.shape of any node.
-/
import Derived.Test.YtikmebkfdpbidaaGreatDoorShelf
import Derived.Deep.DeepCutAuto
import Derived.Test.YtikmebkfdpbidaaGreatDoorDtLeafT
import Derived.Test.YtikmebkfdpbidaaGreatDoorTd
namespace Go.Proofs.YtikmebkfdpbidaaGreatDoor
open Go.RowKit
set_option linter.unusedVariables false

theorem Dt.set_new (w : World) (p : Addr) (u : Value) (o : Obj) : ((w.setCell p u).alloc o).heap[w.heap.size]? = some o := by
  have := heap_alloc_new (w.setCell p u) o
  rwa [show (w.setCell p u).heap.size = w.heap.size by simp] at this
def Dt.valid (s : ByteArray) : Prop := ∀ w : World, Calls Tryz.prog 181 #[.string s] w fun e w' => e = .returned (.bool true) ∧ Below w.heap.size w w'
def Dt.kindOk (k : Int) (s : ByteArray) : Prop := k = 1 ∧ s = ⟨#[]⟩ ∨ k = 2 ∧ s = ⟨#[]⟩ ∨ k = 5 ∨ k = 6

set_option maxHeartbeats 4000000 in
set_option maxRecDepth 1000000 in
theorem Dt.sound_leaf (k : Int) (s : ByteArray) (lst : Value) (hk : Dt.kindOk k s) (hl : ∃ ad cap, lst = .slice ad 0 cap) (hV : Dt.valid s)
    (d : Int) (hd : d ≤ 200) (hd0 : 0 ≤ d) (n : Int) (hn : 1 ≤ n) (hn2 : n ≤ 20000) (p : Nat) (w : World) (hp : w.heap[p]? = some (.cells #[.int .i64 n] 3 (0, 0))) :
    Calls Tryz.prog 90 #[Dt.leaf k s lst, .int .i64 d, .pointer (some ⟨p, 0, none⟩)] w fun e w' => e = .returned (.bool true) ∧ w'.heap[p]? = some (.cells #[.int .i64 (n - 1)] 3 (0, 0)) ∧ Below p w w' := by
  have KS := Lib.hid (fun w => Dt.shape_leaf k s lst hk hl hV w)
  have hlt : p < w.heap.size := (Array.getElem?_eq_some_iff.1 hp).1
  have hk8 : (k == 8) = false := by
    rcases hk with ⟨rfl, _⟩ | ⟨rfl, _⟩ | rfl | rfl <;> rfl
  have hk8b : ¬ (k = 8) := by
    rcases hk with ⟨rfl, _⟩ | ⟨rfl, _⟩ | rfl | rfl <;> decide
  obtain ⟨ad, cap, rfl⟩ := hl
  have p0 := Dt.cell_of hp 0
  have z0 := Dt.frozen_of hp 0
  have q0 := Dt.setCells hp 0 (.int .i64 (n - 1))
  have p1 : (w.setCell ⟨p, 0, none⟩ (.int .i64 (n - 1))).cell? ⟨p, 0, none⟩ = some (.int .i64 (n - 1)) := Dt.cell_of q0 0
  have hsz0 : (w.setCell ⟨p, 0, none⟩ (.int .i64 (n - 1))).heap.size = w.heap.size := by simp
  have HSZ := Lib.hid hsz0
  have Q0 := Lib.hid q0
  have HB0 : Hid (Below p w (w.setCell ⟨p, 0, none⟩ (.int .i64 (n - 1)))) := Lib.hid (by exact (Below.refl p w).setCell (Nat.le_refl p) _)
  have hn3 : ¬ (n - 1 < 0) := by omega
  have hd3 : ¬ (d > 200) := by omega
  clear q0 hp hk hV hsz0
  unfold Dt.leaf Dt.cells at *
  go_enter Tryz.func90, Tryz.ntmps90
  go_wp2_with fail
  go_loopw [] (fun wr => wr = w.alloc (.cells #[.int .i64 k, .int .i64 0, .bool false, .slice none 0 0, .slice none 0 0, .bool false, .slice none 0 0, .slice none 0 0, .string s, .slice none 0 0, .slice ad 0 cap] 30)) (fun _ => 0)
  case atStart => exact rfl
  case round =>
    obtain rfl := hrel
    go_wp2_with fail
    refine (KS.out _).mono ?_
    rintro x w1 ⟨rfl, hb1⟩
    have q1 := (hb1.block w.heap.size (by simp)).trans (Dt.set_new _ _ _ _)
    have qp : w1.heap[p]? = some (.cells #[.int .i64 (n - 1)] 3 (0, 0)) := (hb1.block p (by simp; omega)).trans ((Lib.alloc_old _ _ _ (by rw [HSZ.out]; exact hlt)).trans Q0.out)
    have QP := Lib.hid qp
    have HB1 := Lib.hid ((HB0.out.alloc (by rw [HSZ.out]; omega) _).trans (hb1.mono (by simp; omega)))
    obtain ⟨c0, c1, c2, c3, c4, c5, c6, c7, c8, c9, c10⟩ := Dt.cells11 q1
    clear hb1 q1 qp p0 z0 p1
    go_wp2_with fail
    go_loopw [46] (fun i wr => i = .int .i64 0 ∧ wr = w1) (fun _ _ => 0)
    case atStart => exact ⟨rfl, rfl⟩
    case round =>
      obtain ⟨rfl, rfl⟩ := hrel
      go_wp2_with fail
      go_ret
      exact ⟨rfl, QP.out, HB1.out⟩

set_option maxHeartbeats 4000000 in
set_option maxRecDepth 1000000 in
theorem Dt.Sound_leaf (k : Int) (s : ByteArray) (lst : Value) (hk : Dt.kindOk k s) (hl : ∃ ad cap, lst = .slice ad 0 cap) (hV : Dt.valid s) (w : World) :
    Calls Tryz.prog 60 #[Dt.leaf k s lst] w fun e w' => e = .returned (.bool true) ∧ Below w.heap.size w w' := by
  have KS := fun (w : World) hp => Dt.sound_leaf k s lst hk hl hV 1 (by decide) (by decide) 20000 (by decide) (by decide) (w.heap.size - 1) w hp
  have hnew : ∀ o, ((w.alloc o).alloc (.cells #[.int .i64 20000] 3)).heap[w.heap.size + 1]? = some (.cells #[.int .i64 20000] 3 (0, 0)) := by
    intro o
    have := heap_alloc_new (w.alloc o) (.cells #[.int .i64 20000] 3)
    rwa [show (w.alloc o).heap.size = w.heap.size + 1 by simp] at this
  have hsz : ∀ o, ((w.alloc o).alloc (.cells #[.int .i64 20000] 3)).heap.size - 1 = w.heap.size + 1 := by intro o; simp
  have hb0 : ∀ o o2, Below w.heap.size w ((w.alloc o).alloc o2) := fun o o2 => ((Below.refl _ _).alloc (Nat.le_refl _) _).alloc (by simp) _
  obtain ⟨ad, cap, rfl⟩ := hl
  clear hk hV
  unfold Dt.leaf Dt.cells at *
  go_enter Tryz.func60, Tryz.ntmps60
  go_wp2_with fail
  have K := KS _ (by rw [hsz]; exact hnew (.cells #[.int .i64 k, .int .i64 0, .bool false, .slice none 0 0, .slice none 0 0, .bool false, .slice none 0 0, .slice none 0 0, .string s, .slice none 0 0, .slice ad 0 cap] 30))
  rw [hsz] at K
  refine K.mono ?_
  rintro x w1 ⟨rfl, _, hb1⟩
  have HB := Lib.hid ((hb0 _ _).trans (hb1.mono (by omega)))
  clear hb1 K KS hnew hsz hb0
  go_wp2
  go_ret
  exact ⟨rfl, HB.out⟩
end Go.Proofs.YtikmebkfdpbidaaGreatDoor
namespace Go.Proofs.YtikmebkfdpbidaaGreatDoor
open Go.RowKit
set_option linter.unusedVariables false
theorem Dt.below_set {w0 w : World} {B : Nat} (h : Below B w0 w) (b k : Nat) (u : Value) (hb : B ≤ b) : Below B w0 (w.setCell ⟨b, k, none⟩ u) := by
  exact h.setCell hb _
theorem Dt.store11 {w : World} {b : Nat} {v0 v1 v2 v3 v4 v5 v6 v7 v8 v9 v10 : Value} {t : TypeId} (h : w.heap[b]? = some (.cells #[v0, v1, v2, v3, v4, v5, v6, v7, v8, v9, v10] t (0, 0))) (u0 u1 u2 u3 u4 u5 u6 u7 u8 u9 u10 : Value) :
    w.cell? ⟨b, 0, none⟩ = some v0 ∧
    w.frozen? ⟨b, 0, none⟩ = false ∧
    (w.setCell ⟨b, 0, none⟩ u0).cell? ⟨b, 1, none⟩ = some v1 ∧
    (w.setCell ⟨b, 0, none⟩ u0).frozen? ⟨b, 1, none⟩ = false ∧
    ((w.setCell ⟨b, 0, none⟩ u0).setCell ⟨b, 1, none⟩ u1).cell? ⟨b, 2, none⟩ = some v2 ∧
    ((w.setCell ⟨b, 0, none⟩ u0).setCell ⟨b, 1, none⟩ u1).frozen? ⟨b, 2, none⟩ = false ∧
    (((w.setCell ⟨b, 0, none⟩ u0).setCell ⟨b, 1, none⟩ u1).setCell ⟨b, 2, none⟩ u2).cell? ⟨b, 3, none⟩ = some v3 ∧
    (((w.setCell ⟨b, 0, none⟩ u0).setCell ⟨b, 1, none⟩ u1).setCell ⟨b, 2, none⟩ u2).frozen? ⟨b, 3, none⟩ = false ∧
    ((((w.setCell ⟨b, 0, none⟩ u0).setCell ⟨b, 1, none⟩ u1).setCell ⟨b, 2, none⟩ u2).setCell ⟨b, 3, none⟩ u3).cell? ⟨b, 4, none⟩ = some v4 ∧
    ((((w.setCell ⟨b, 0, none⟩ u0).setCell ⟨b, 1, none⟩ u1).setCell ⟨b, 2, none⟩ u2).setCell ⟨b, 3, none⟩ u3).frozen? ⟨b, 4, none⟩ = false ∧
    (((((w.setCell ⟨b, 0, none⟩ u0).setCell ⟨b, 1, none⟩ u1).setCell ⟨b, 2, none⟩ u2).setCell ⟨b, 3, none⟩ u3).setCell ⟨b, 4, none⟩ u4).cell? ⟨b, 5, none⟩ = some v5 ∧
    (((((w.setCell ⟨b, 0, none⟩ u0).setCell ⟨b, 1, none⟩ u1).setCell ⟨b, 2, none⟩ u2).setCell ⟨b, 3, none⟩ u3).setCell ⟨b, 4, none⟩ u4).frozen? ⟨b, 5, none⟩ = false ∧
    ((((((w.setCell ⟨b, 0, none⟩ u0).setCell ⟨b, 1, none⟩ u1).setCell ⟨b, 2, none⟩ u2).setCell ⟨b, 3, none⟩ u3).setCell ⟨b, 4, none⟩ u4).setCell ⟨b, 5, none⟩ u5).cell? ⟨b, 6, none⟩ = some v6 ∧
    ((((((w.setCell ⟨b, 0, none⟩ u0).setCell ⟨b, 1, none⟩ u1).setCell ⟨b, 2, none⟩ u2).setCell ⟨b, 3, none⟩ u3).setCell ⟨b, 4, none⟩ u4).setCell ⟨b, 5, none⟩ u5).frozen? ⟨b, 6, none⟩ = false ∧
    (((((((w.setCell ⟨b, 0, none⟩ u0).setCell ⟨b, 1, none⟩ u1).setCell ⟨b, 2, none⟩ u2).setCell ⟨b, 3, none⟩ u3).setCell ⟨b, 4, none⟩ u4).setCell ⟨b, 5, none⟩ u5).setCell ⟨b, 6, none⟩ u6).cell? ⟨b, 7, none⟩ = some v7 ∧
    (((((((w.setCell ⟨b, 0, none⟩ u0).setCell ⟨b, 1, none⟩ u1).setCell ⟨b, 2, none⟩ u2).setCell ⟨b, 3, none⟩ u3).setCell ⟨b, 4, none⟩ u4).setCell ⟨b, 5, none⟩ u5).setCell ⟨b, 6, none⟩ u6).frozen? ⟨b, 7, none⟩ = false ∧
    ((((((((w.setCell ⟨b, 0, none⟩ u0).setCell ⟨b, 1, none⟩ u1).setCell ⟨b, 2, none⟩ u2).setCell ⟨b, 3, none⟩ u3).setCell ⟨b, 4, none⟩ u4).setCell ⟨b, 5, none⟩ u5).setCell ⟨b, 6, none⟩ u6).setCell ⟨b, 7, none⟩ u7).cell? ⟨b, 8, none⟩ = some v8 ∧
    ((((((((w.setCell ⟨b, 0, none⟩ u0).setCell ⟨b, 1, none⟩ u1).setCell ⟨b, 2, none⟩ u2).setCell ⟨b, 3, none⟩ u3).setCell ⟨b, 4, none⟩ u4).setCell ⟨b, 5, none⟩ u5).setCell ⟨b, 6, none⟩ u6).setCell ⟨b, 7, none⟩ u7).frozen? ⟨b, 8, none⟩ = false ∧
    (((((((((w.setCell ⟨b, 0, none⟩ u0).setCell ⟨b, 1, none⟩ u1).setCell ⟨b, 2, none⟩ u2).setCell ⟨b, 3, none⟩ u3).setCell ⟨b, 4, none⟩ u4).setCell ⟨b, 5, none⟩ u5).setCell ⟨b, 6, none⟩ u6).setCell ⟨b, 7, none⟩ u7).setCell ⟨b, 8, none⟩ u8).cell? ⟨b, 9, none⟩ = some v9 ∧
    (((((((((w.setCell ⟨b, 0, none⟩ u0).setCell ⟨b, 1, none⟩ u1).setCell ⟨b, 2, none⟩ u2).setCell ⟨b, 3, none⟩ u3).setCell ⟨b, 4, none⟩ u4).setCell ⟨b, 5, none⟩ u5).setCell ⟨b, 6, none⟩ u6).setCell ⟨b, 7, none⟩ u7).setCell ⟨b, 8, none⟩ u8).frozen? ⟨b, 9, none⟩ = false ∧
    ((((((((((w.setCell ⟨b, 0, none⟩ u0).setCell ⟨b, 1, none⟩ u1).setCell ⟨b, 2, none⟩ u2).setCell ⟨b, 3, none⟩ u3).setCell ⟨b, 4, none⟩ u4).setCell ⟨b, 5, none⟩ u5).setCell ⟨b, 6, none⟩ u6).setCell ⟨b, 7, none⟩ u7).setCell ⟨b, 8, none⟩ u8).setCell ⟨b, 9, none⟩ u9).cell? ⟨b, 10, none⟩ = some v10 ∧
    ((((((((((w.setCell ⟨b, 0, none⟩ u0).setCell ⟨b, 1, none⟩ u1).setCell ⟨b, 2, none⟩ u2).setCell ⟨b, 3, none⟩ u3).setCell ⟨b, 4, none⟩ u4).setCell ⟨b, 5, none⟩ u5).setCell ⟨b, 6, none⟩ u6).setCell ⟨b, 7, none⟩ u7).setCell ⟨b, 8, none⟩ u8).setCell ⟨b, 9, none⟩ u9).frozen? ⟨b, 10, none⟩ = false ∧
    (((((((((((w.setCell ⟨b, 0, none⟩ u0).setCell ⟨b, 1, none⟩ u1).setCell ⟨b, 2, none⟩ u2).setCell ⟨b, 3, none⟩ u3).setCell ⟨b, 4, none⟩ u4).setCell ⟨b, 5, none⟩ u5).setCell ⟨b, 6, none⟩ u6).setCell ⟨b, 7, none⟩ u7).setCell ⟨b, 8, none⟩ u8).setCell ⟨b, 9, none⟩ u9).setCell ⟨b, 10, none⟩ u10).heap[b]? = some (.cells #[u0, u1, u2, u3, u4, u5, u6, u7, u8, u9, u10] t (0, 0)) := by
  have h0 := h
  have h1 : (w.setCell ⟨b, 0, none⟩ u0).heap[b]? = some (.cells #[u0, v1, v2, v3, v4, v5, v6, v7, v8, v9, v10] t (0, 0)) := Dt.setCells h0 0 u0
  have h2 : ((w.setCell ⟨b, 0, none⟩ u0).setCell ⟨b, 1, none⟩ u1).heap[b]? = some (.cells #[u0, u1, v2, v3, v4, v5, v6, v7, v8, v9, v10] t (0, 0)) := Dt.setCells h1 1 u1
  have h3 : (((w.setCell ⟨b, 0, none⟩ u0).setCell ⟨b, 1, none⟩ u1).setCell ⟨b, 2, none⟩ u2).heap[b]? = some (.cells #[u0, u1, u2, v3, v4, v5, v6, v7, v8, v9, v10] t (0, 0)) := Dt.setCells h2 2 u2
  have h4 : ((((w.setCell ⟨b, 0, none⟩ u0).setCell ⟨b, 1, none⟩ u1).setCell ⟨b, 2, none⟩ u2).setCell ⟨b, 3, none⟩ u3).heap[b]? = some (.cells #[u0, u1, u2, u3, v4, v5, v6, v7, v8, v9, v10] t (0, 0)) := Dt.setCells h3 3 u3
  have h5 : (((((w.setCell ⟨b, 0, none⟩ u0).setCell ⟨b, 1, none⟩ u1).setCell ⟨b, 2, none⟩ u2).setCell ⟨b, 3, none⟩ u3).setCell ⟨b, 4, none⟩ u4).heap[b]? = some (.cells #[u0, u1, u2, u3, u4, v5, v6, v7, v8, v9, v10] t (0, 0)) := Dt.setCells h4 4 u4
  have h6 : ((((((w.setCell ⟨b, 0, none⟩ u0).setCell ⟨b, 1, none⟩ u1).setCell ⟨b, 2, none⟩ u2).setCell ⟨b, 3, none⟩ u3).setCell ⟨b, 4, none⟩ u4).setCell ⟨b, 5, none⟩ u5).heap[b]? = some (.cells #[u0, u1, u2, u3, u4, u5, v6, v7, v8, v9, v10] t (0, 0)) := Dt.setCells h5 5 u5
  have h7 : (((((((w.setCell ⟨b, 0, none⟩ u0).setCell ⟨b, 1, none⟩ u1).setCell ⟨b, 2, none⟩ u2).setCell ⟨b, 3, none⟩ u3).setCell ⟨b, 4, none⟩ u4).setCell ⟨b, 5, none⟩ u5).setCell ⟨b, 6, none⟩ u6).heap[b]? = some (.cells #[u0, u1, u2, u3, u4, u5, u6, v7, v8, v9, v10] t (0, 0)) := Dt.setCells h6 6 u6
  have h8 : ((((((((w.setCell ⟨b, 0, none⟩ u0).setCell ⟨b, 1, none⟩ u1).setCell ⟨b, 2, none⟩ u2).setCell ⟨b, 3, none⟩ u3).setCell ⟨b, 4, none⟩ u4).setCell ⟨b, 5, none⟩ u5).setCell ⟨b, 6, none⟩ u6).setCell ⟨b, 7, none⟩ u7).heap[b]? = some (.cells #[u0, u1, u2, u3, u4, u5, u6, u7, v8, v9, v10] t (0, 0)) := Dt.setCells h7 7 u7
  have h9 : (((((((((w.setCell ⟨b, 0, none⟩ u0).setCell ⟨b, 1, none⟩ u1).setCell ⟨b, 2, none⟩ u2).setCell ⟨b, 3, none⟩ u3).setCell ⟨b, 4, none⟩ u4).setCell ⟨b, 5, none⟩ u5).setCell ⟨b, 6, none⟩ u6).setCell ⟨b, 7, none⟩ u7).setCell ⟨b, 8, none⟩ u8).heap[b]? = some (.cells #[u0, u1, u2, u3, u4, u5, u6, u7, u8, v9, v10] t (0, 0)) := Dt.setCells h8 8 u8
  have h10 : ((((((((((w.setCell ⟨b, 0, none⟩ u0).setCell ⟨b, 1, none⟩ u1).setCell ⟨b, 2, none⟩ u2).setCell ⟨b, 3, none⟩ u3).setCell ⟨b, 4, none⟩ u4).setCell ⟨b, 5, none⟩ u5).setCell ⟨b, 6, none⟩ u6).setCell ⟨b, 7, none⟩ u7).setCell ⟨b, 8, none⟩ u8).setCell ⟨b, 9, none⟩ u9).heap[b]? = some (.cells #[u0, u1, u2, u3, u4, u5, u6, u7, u8, u9, v10] t (0, 0)) := Dt.setCells h9 9 u9
  have h11 : (((((((((((w.setCell ⟨b, 0, none⟩ u0).setCell ⟨b, 1, none⟩ u1).setCell ⟨b, 2, none⟩ u2).setCell ⟨b, 3, none⟩ u3).setCell ⟨b, 4, none⟩ u4).setCell ⟨b, 5, none⟩ u5).setCell ⟨b, 6, none⟩ u6).setCell ⟨b, 7, none⟩ u7).setCell ⟨b, 8, none⟩ u8).setCell ⟨b, 9, none⟩ u9).setCell ⟨b, 10, none⟩ u10).heap[b]? = some (.cells #[u0, u1, u2, u3, u4, u5, u6, u7, u8, u9, u10] t (0, 0)) := Dt.setCells h10 10 u10
  exact ⟨Dt.cell_of h0 0, Dt.frozen_of h0 0, Dt.cell_of h1 1, Dt.frozen_of h1 1, Dt.cell_of h2 2, Dt.frozen_of h2 2, Dt.cell_of h3 3, Dt.frozen_of h3 3, Dt.cell_of h4 4, Dt.frozen_of h4 4, Dt.cell_of h5 5, Dt.frozen_of h5 5, Dt.cell_of h6 6, Dt.frozen_of h6 6, Dt.cell_of h7 7, Dt.frozen_of h7 7, Dt.cell_of h8 8, Dt.frozen_of h8 8, Dt.cell_of h9 9, Dt.frozen_of h9 9, Dt.cell_of h10 10, Dt.frozen_of h10 10, h11⟩
theorem Dt.below_store11 {w0 w : World} {B b : Nat} (h : Below B w0 w) (hb : B ≤ b) (u0 u1 u2 u3 u4 u5 u6 u7 u8 u9 u10 : Value) : Below B w0 (((((((((((w.setCell ⟨b, 0, none⟩ u0).setCell ⟨b, 1, none⟩ u1).setCell ⟨b, 2, none⟩ u2).setCell ⟨b, 3, none⟩ u3).setCell ⟨b, 4, none⟩ u4).setCell ⟨b, 5, none⟩ u5).setCell ⟨b, 6, none⟩ u6).setCell ⟨b, 7, none⟩ u7).setCell ⟨b, 8, none⟩ u8).setCell ⟨b, 9, none⟩ u9).setCell ⟨b, 10, none⟩ u10) := by
  have h0 := h
  have h1 := Dt.below_set h0 b 0 u0 hb
  have h2 := Dt.below_set h1 b 1 u1 hb
  have h3 := Dt.below_set h2 b 2 u2 hb
  have h4 := Dt.below_set h3 b 3 u3 hb
  have h5 := Dt.below_set h4 b 4 u4 hb
  have h6 := Dt.below_set h5 b 5 u5 hb
  have h7 := Dt.below_set h6 b 6 u6 hb
  have h8 := Dt.below_set h7 b 7 u7 hb
  have h9 := Dt.below_set h8 b 8 u8 hb
  have h10 := Dt.below_set h9 b 9 u9 hb
  have h11 := Dt.below_set h10 b 10 u10 hb
  exact h11
theorem Dt.put11 {w : World} {b : Nat} {v0 v1 v2 v3 v4 v5 v6 v7 v8 v9 v10 : Value} {t : TypeId} (h : w.heap[b]? = some (.cells #[v0, v1, v2, v3, v4, v5, v6, v7, v8, v9, v10] t (0, 0))) (u0 u1 u2 u3 u4 u5 u6 u7 u8 u9 u10 : Value) :
    ∃ W1 W2 W3 W4 W5 W6 W7 W8 W9 W10 W11 : World,
    (w.cell? ⟨b, 0, none⟩ = some v0 ∧ w.frozen? ⟨b, 0, none⟩ = false ∧ w.setCell ⟨b, 0, none⟩ u0 = W1 ∧ W1.heap.size = w.heap.size) ∧
    (W1.cell? ⟨b, 1, none⟩ = some v1 ∧ W1.frozen? ⟨b, 1, none⟩ = false ∧ W1.setCell ⟨b, 1, none⟩ u1 = W2 ∧ W2.heap.size = w.heap.size) ∧
    (W2.cell? ⟨b, 2, none⟩ = some v2 ∧ W2.frozen? ⟨b, 2, none⟩ = false ∧ W2.setCell ⟨b, 2, none⟩ u2 = W3 ∧ W3.heap.size = w.heap.size) ∧
    (W3.cell? ⟨b, 3, none⟩ = some v3 ∧ W3.frozen? ⟨b, 3, none⟩ = false ∧ W3.setCell ⟨b, 3, none⟩ u3 = W4 ∧ W4.heap.size = w.heap.size) ∧
    (W4.cell? ⟨b, 4, none⟩ = some v4 ∧ W4.frozen? ⟨b, 4, none⟩ = false ∧ W4.setCell ⟨b, 4, none⟩ u4 = W5 ∧ W5.heap.size = w.heap.size) ∧
    (W5.cell? ⟨b, 5, none⟩ = some v5 ∧ W5.frozen? ⟨b, 5, none⟩ = false ∧ W5.setCell ⟨b, 5, none⟩ u5 = W6 ∧ W6.heap.size = w.heap.size) ∧
    (W6.cell? ⟨b, 6, none⟩ = some v6 ∧ W6.frozen? ⟨b, 6, none⟩ = false ∧ W6.setCell ⟨b, 6, none⟩ u6 = W7 ∧ W7.heap.size = w.heap.size) ∧
    (W7.cell? ⟨b, 7, none⟩ = some v7 ∧ W7.frozen? ⟨b, 7, none⟩ = false ∧ W7.setCell ⟨b, 7, none⟩ u7 = W8 ∧ W8.heap.size = w.heap.size) ∧
    (W8.cell? ⟨b, 8, none⟩ = some v8 ∧ W8.frozen? ⟨b, 8, none⟩ = false ∧ W8.setCell ⟨b, 8, none⟩ u8 = W9 ∧ W9.heap.size = w.heap.size) ∧
    (W9.cell? ⟨b, 9, none⟩ = some v9 ∧ W9.frozen? ⟨b, 9, none⟩ = false ∧ W9.setCell ⟨b, 9, none⟩ u9 = W10 ∧ W10.heap.size = w.heap.size) ∧
    (W10.cell? ⟨b, 10, none⟩ = some v10 ∧ W10.frozen? ⟨b, 10, none⟩ = false ∧ W10.setCell ⟨b, 10, none⟩ u10 = W11 ∧ W11.heap.size = w.heap.size) ∧
    W11.heap[b]? = some (.cells #[u0, u1, u2, u3, u4, u5, u6, u7, u8, u9, u10] t (0, 0)) ∧
    W11.heap.size = w.heap.size ∧
    (∀ q, q ≠ b → W11.heap[q]? = w.heap[q]?) ∧
    (∀ (B : Nat) (w0 : World), Below B w0 w → B ≤ b → Below B w0 W11) := by
  obtain ⟨f0, z0, f1, z1, f2, z2, f3, z3, f4, z4, f5, z5, f6, z6, f7, z7, f8, z8, f9, z9, f10, z10, g⟩ := Dt.store11 h u0 u1 u2 u3 u4 u5 u6 u7 u8 u9 u10
  refine ⟨_, _, _, _, _, _, _, _, _, _, _, ⟨f0, z0, rfl, by simp⟩, ⟨f1, z1, rfl, by simp⟩, ⟨f2, z2, rfl, by simp⟩, ⟨f3, z3, rfl, by simp⟩, ⟨f4, z4, rfl, by simp⟩, ⟨f5, z5, rfl, by simp⟩, ⟨f6, z6, rfl, by simp⟩, ⟨f7, z7, rfl, by simp⟩, ⟨f8, z8, rfl, by simp⟩, ⟨f9, z9, rfl, by simp⟩, ⟨f10, z10, rfl, by simp⟩, g, by simp, ?_, fun B w0 h0 hb => Dt.below_store11 h0 hb u0 u1 u2 u3 u4 u5 u6 u7 u8 u9 u10⟩
  intro q hq
  rw [Below.heap_setCell _ ⟨b, 10, none⟩ _ q hq]
  rw [Below.heap_setCell _ ⟨b, 9, none⟩ _ q hq]
  rw [Below.heap_setCell _ ⟨b, 8, none⟩ _ q hq]
  rw [Below.heap_setCell _ ⟨b, 7, none⟩ _ q hq]
  rw [Below.heap_setCell _ ⟨b, 6, none⟩ _ q hq]
  rw [Below.heap_setCell _ ⟨b, 5, none⟩ _ q hq]
  rw [Below.heap_setCell _ ⟨b, 4, none⟩ _ q hq]
  rw [Below.heap_setCell _ ⟨b, 3, none⟩ _ q hq]
  rw [Below.heap_setCell _ ⟨b, 2, none⟩ _ q hq]
  rw [Below.heap_setCell _ ⟨b, 1, none⟩ _ q hq]
  rw [Below.heap_setCell _ ⟨b, 0, none⟩ _ q hq]
end Go.Proofs.YtikmebkfdpbidaaGreatDoor
namespace Go.Proofs.YtikmebkfdpbidaaGreatDoor
open Go.RowKit
set_option linter.unusedVariables false
set_option linter.unusedSimpArgs false

set_option maxHeartbeats 4000000 in
set_option maxRecDepth 1000000 in
theorem Tr.noRat_any (s : Bool) (a1 a2 : Option Addr) (l1 c1 l2 c2 : Nat) (w : World) : Calls Tryz.prog 180 #[.agg #[.bool s, .slice a1 l1 c1, .slice a2 l2 c2]] w fun e w' => e = .returned (.bool (!s && decide (l1 = 0) && decide (l2 = 0))) ∧ Below w.heap.size w w' := by
  have hal : ∀ o, Below w.heap.size w (w.alloc o) := fun o => (Below.refl _ _).alloc (Nat.le_refl _) _
  have HAL := Lib.hid hal
  clear hal
  cases s with
  | true =>
    go_enter Tryz.func180, Tryz.ntmps180
    go_wp2_with fail
    go_ret
    exact ⟨by simp, HAL.out _⟩
  | false =>
    by_cases h1 : l1 = 0
    · subst h1
      by_cases h2 : l2 = 0
      · subst h2
        go_enter Tryz.func180, Tryz.ntmps180
        go_wp2_with fail
        go_ret
        exact ⟨by simp, HAL.out _⟩
      · have h2I : ((l2 : Int) == 0) = false := by simp; exact h2
        have H2 := Lib.hid h2
        clear h2
        go_enter Tryz.func180, Tryz.ntmps180
        go_wp2_with fail
        go_ret
        exact ⟨by simp [H2.out], HAL.out _⟩
    · have h1I : ((l1 : Int) == 0) = false := by simp; exact h1
      have H1 := Lib.hid h1
      clear h1
      go_enter Tryz.func180, Tryz.ntmps180
      go_wp2_with fail
      go_ret
      exact ⟨by simp [H1.out], HAL.out _⟩
set_option maxHeartbeats 4000000 in
set_option maxRecDepth 1000000 in
theorem Tr.IsChar_any (n : Int) (w : World) : Calls Tryz.prog 182 #[.int .i64 n] w fun e w' => e = .returned (.bool (Tr.isChar n)) ∧ w = w' := by
  by_cases h1 : (0 ≤ n ∧ n ≤ 55295)
  · have h2 : Tr.isChar n = true := by simp [Tr.isChar, h1.1, h1.2]
    rw [h2]
    obtain ⟨h3, h4⟩ := h1
    clear h2
    go_enter Tryz.func182, Tryz.ntmps182
    go_wp2_with fail
    go_ret
    exact ⟨rfl, rfl⟩
  · by_cases h5 : (57344 ≤ n ∧ n ≤ 1114111)
    · have h2 : Tr.isChar n = true := by simp [Tr.isChar, h5.1, h5.2]
      rw [h2]
      obtain ⟨h3, h4⟩ := h5
      have h6 : ¬ n ≤ 55295 := by omega
      have h7 : (0 : Int) ≤ n := by omega
      clear h2 h1
      go_enter Tryz.func182, Tryz.ntmps182
      go_wp2_with fail
      go_ret
      exact ⟨rfl, rfl⟩
    · have h2 : Tr.isChar n = false := by simp [Tr.isChar]; omega
      rw [h2]
      clear h2
      by_cases h0 : 0 ≤ n
      · have h3 : ¬ n ≤ 55295 := by omega
        by_cases h4 : 57344 ≤ n
        · have h6 : ¬ n ≤ 1114111 := by omega
          clear h1 h5
          go_enter Tryz.func182, Tryz.ntmps182
          go_wp2_with fail
          go_ret
          exact ⟨rfl, rfl⟩
        · clear h1 h5
          go_enter Tryz.func182, Tryz.ntmps182
          go_wp2_with fail
          go_ret
          exact ⟨rfl, rfl⟩
      · have h4 : ¬ 57344 ≤ n := by omega
        clear h1 h5
        go_enter Tryz.func182, Tryz.ntmps182
        go_wp2_with fail
        go_ret
        exact ⟨rfl, rfl⟩
end Go.Proofs.YtikmebkfdpbidaaGreatDoor
