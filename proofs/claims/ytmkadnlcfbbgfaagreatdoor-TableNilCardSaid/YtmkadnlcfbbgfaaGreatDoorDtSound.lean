/-
  datum.Sound and datum.Copy of a leaf.
-/
import Derived.Test.YtmkadnlcfbbgfaaGreatDoorDtLeaf
namespace Go.Proofs.YtmkadnlcfbbgfaaGreatDoor
open Go.RowKit
set_option linter.unusedVariables false

theorem Dt.set_new (w : World) (p : Addr) (u : Value) (o : Obj) : ((w.setCell p u).alloc o).heap[w.heap.size]? = some o := by
  have := heap_alloc_new (w.setCell p u) o
  rwa [show (w.setCell p u).heap.size = w.heap.size by simp] at this
def Dt.valid (s : ByteArray) : Prop := ∀ w : World, Calls Tryz.prog 76 #[.string s] w fun e w' => e = .returned (.bool true) ∧ Below w.heap.size w w'
def Dt.kindOk (k : Int) (s : ByteArray) : Prop := k = 1 ∧ s = ⟨#[]⟩ ∨ k = 2 ∧ s = ⟨#[]⟩ ∨ k = 5 ∨ k = 6

set_option maxHeartbeats 4000000 in
set_option maxRecDepth 1000000 in
theorem Dt.sound_leaf (k : Int) (s : ByteArray) (lst : Value) (hk : Dt.kindOk k s) (hl : ∃ ad cap, lst = .slice ad 0 cap) (hV : Dt.valid s)
    (d : Int) (hd : d ≤ 200) (hd0 : 0 ≤ d) (n : Int) (hn : 1 ≤ n) (hn2 : n ≤ 20000) (p : Nat) (w : World) (hp : w.heap[p]? = some (.cells #[.int .i64 n] 3 (0, 0))) :
    Calls Tryz.prog 27 #[Dt.leaf k s lst, .int .i64 d, .pointer (some ⟨p, 0, none⟩)] w fun e w' => e = .returned (.bool true) ∧ w'.heap[p]? = some (.cells #[.int .i64 (n - 1)] 3 (0, 0)) ∧ Below p w w' := by
  have KS := Lib.hid (fun w => Dt.shape_leaf k s lst hk hl hV w)
  have hlt : p < w.heap.size := (Array.getElem?_eq_some_iff.1 hp).1
  have hk8 : (k == 8) = false := by
    rcases hk with ⟨rfl, _⟩ | ⟨rfl, _⟩ | rfl | rfl <;> rfl
  have hk8b : ¬ (k = 8) := by
    rcases hk with ⟨rfl, _⟩ | ⟨rfl, _⟩ | rfl | rfl <;> decide
  obtain ⟨ad, cap, rfl⟩ := hl
  have p0 := Dt.cell_of hp 0
  have z0 := Dt.frozen_of hp 0
  have q0 := Dt.setCells hp 0 (.int .i64 (n - 1))
  have p1 : (w.setCell ⟨p, 0, none⟩ (.int .i64 (n - 1))).cell? ⟨p, 0, none⟩ = some (.int .i64 (n - 1)) := Dt.cell_of q0 0
  have hsz0 : (w.setCell ⟨p, 0, none⟩ (.int .i64 (n - 1))).heap.size = w.heap.size := by simp
  have HSZ := Lib.hid hsz0
  have Q0 := Lib.hid q0
  have HB0 : Hid (Below p w (w.setCell ⟨p, 0, none⟩ (.int .i64 (n - 1)))) := Lib.hid (by exact (Below.refl p w).setCell (Nat.le_refl p) _)
  have hn3 : ¬ (n - 1 < 0) := by omega
  have hd3 : ¬ (d > 200) := by omega
  clear q0 hp hk hV hsz0
  unfold Dt.leaf Dt.cells at *
  go_enter Tryz.func27, Tryz.ntmps27
  go_wp2_with fail
  go_loopw [] (fun wr => wr = w.alloc (.cells #[.int .i64 k, .int .i64 0, .bool false, .slice none 0 0, .slice none 0 0, .bool false, .slice none 0 0, .slice none 0 0, .string s, .slice none 0 0, .slice ad 0 cap] 30)) (fun _ => 0)
  case atStart => exact rfl
  case round =>
    obtain rfl := hrel
    go_wp2_with fail
    refine (KS.out _).mono ?_
    rintro x w1 ⟨rfl, hb1⟩
    have q1 := (hb1.block w.heap.size (by simp)).trans (Dt.set_new _ _ _ _)
    have qp : w1.heap[p]? = some (.cells #[.int .i64 (n - 1)] 3 (0, 0)) := (hb1.block p (by simp; omega)).trans ((Lib.alloc_old _ _ _ (by rw [HSZ.out]; exact hlt)).trans Q0.out)
    have QP := Lib.hid qp
    have HB1 := Lib.hid ((HB0.out.alloc (by rw [HSZ.out]; omega) _).trans (hb1.mono (by simp; omega)))
    obtain ⟨c0, c1, c2, c3, c4, c5, c6, c7, c8, c9, c10⟩ := Dt.cells11 q1
    clear hb1 q1 qp p0 z0 p1
    go_wp2_with fail
    go_loopw [46] (fun i wr => i = .int .i64 0 ∧ wr = w1) (fun _ _ => 0)
    case atStart => exact ⟨rfl, rfl⟩
    case round =>
      obtain ⟨rfl, rfl⟩ := hrel
      go_wp2_with fail
      go_ret
      exact ⟨rfl, QP.out, HB1.out⟩

set_option maxHeartbeats 4000000 in
set_option maxRecDepth 1000000 in
theorem Dt.Sound_leaf (k : Int) (s : ByteArray) (lst : Value) (hk : Dt.kindOk k s) (hl : ∃ ad cap, lst = .slice ad 0 cap) (hV : Dt.valid s) (w : World) :
    Calls Tryz.prog 17 #[Dt.leaf k s lst] w fun e w' => e = .returned (.bool true) ∧ Below w.heap.size w w' := by
  have KS := fun (w : World) hp => Dt.sound_leaf k s lst hk hl hV 1 (by decide) (by decide) 20000 (by decide) (by decide) (w.heap.size - 1) w hp
  have hnew : ∀ o, ((w.alloc o).alloc (.cells #[.int .i64 20000] 3)).heap[w.heap.size + 1]? = some (.cells #[.int .i64 20000] 3 (0, 0)) := by
    intro o
    have := heap_alloc_new (w.alloc o) (.cells #[.int .i64 20000] 3)
    rwa [show (w.alloc o).heap.size = w.heap.size + 1 by simp] at this
  have hsz : ∀ o, ((w.alloc o).alloc (.cells #[.int .i64 20000] 3)).heap.size - 1 = w.heap.size + 1 := by intro o; simp
  have hb0 : ∀ o o2, Below w.heap.size w ((w.alloc o).alloc o2) := fun o o2 => ((Below.refl _ _).alloc (Nat.le_refl _) _).alloc (by simp) _
  obtain ⟨ad, cap, rfl⟩ := hl
  clear hk hV
  unfold Dt.leaf Dt.cells at *
  go_enter Tryz.func17, Tryz.ntmps17
  go_wp2_with fail
  have K := KS _ (by rw [hsz]; exact hnew (.cells #[.int .i64 k, .int .i64 0, .bool false, .slice none 0 0, .slice none 0 0, .bool false, .slice none 0 0, .slice none 0 0, .string s, .slice none 0 0, .slice ad 0 cap] 30))
  rw [hsz] at K
  refine K.mono ?_
  rintro x w1 ⟨rfl, _, hb1⟩
  have HB := Lib.hid ((hb0 _ _).trans (hb1.mono (by omega)))
  clear hb1 K KS hnew hsz hb0
  go_wp2
  go_ret
  exact ⟨rfl, HB.out⟩
end Go.Proofs.YtmkadnlcfbbgfaaGreatDoor
