/-
  datum.Copy of a leaf.
-/
import Derived.Test.YthcdkhegdlbdiaaGreatDoorDtStore
namespace Go.Proofs.YthcdkhegdlbdiaaGreatDoor
open Go.RowKit
set_option linter.unusedVariables false

theorem Dt.below4 (w : World) (o1 o2 o3 o4 : Obj) : Below w.heap.size w ((((w.alloc o1).alloc o2).alloc o3).alloc o4) :=
  ((((Below.refl _ _).alloc (Nat.le_refl _) _).alloc (by simp) _).alloc (by simp; omega) _).alloc (by simp; omega) _
set_option maxHeartbeats 4000000 in
set_option maxRecDepth 1000000 in
theorem Dt.Copy_leaf (k : Int) (s : ByteArray) (lst : Value) (hk : Dt.kindOk k s) (hl : ∃ ad cap, lst = .slice ad 0 cap) (w : World) :
    Calls Tryz.prog 19 #[Dt.leaf k s lst] w fun e w' => (∃ ad cap, e = .returned (Dt.leaf k s (.slice ad 0 cap))) ∧ Below w.heap.size w w' := by
  have h3 : (k == 3) = false := by
    rcases hk with ⟨rfl, _⟩ | ⟨rfl, _⟩ | rfl | rfl <;> rfl
  have h8 : (k == 8) = false := by
    rcases hk with ⟨rfl, _⟩ | ⟨rfl, _⟩ | rfl | rfl <;> rfl
  have h3b : ¬ (k = 3) := by
    rcases hk with ⟨rfl, _⟩ | ⟨rfl, _⟩ | rfl | rfl <;> decide
  have h8b : ¬ (k = 8) := by
    rcases hk with ⟨rfl, _⟩ | ⟨rfl, _⟩ | rfl | rfl <;> decide
  obtain ⟨ad, cap, rfl⟩ := hl
  have hmk : ∀ w : World, (Instr.makeSlice 47 (.int .i64 0) (.int .i64 0)).run Tryz.prog w = .ok (.slice (some ⟨w.heap.size, 0, none⟩) 0 0) (w.alloc (.cells #[] 49)) := fun w => by kernel_rfl
  unfold Dt.leaf Dt.cells
  go_enter Tryz.func19, Tryz.ntmps19
  go_wp2_with fail
  go_loopw [4] (fun i wr => i = .pointer (some ⟨w.heap.size + 2, 0, none⟩) ∧ wr = ((w.alloc (.cells #[.int .i64 k, .int .i64 0, .bool false, .slice none 0 0, .slice none 0 0, .bool false, .slice none 0 0, .slice none 0 0, .string s, .slice none 0 0, .slice ad 0 cap] 49)).alloc (.cells #[.int .i64 0, .int .i64 0, .bool false, .slice none 0 0, .slice none 0 0, .bool false, .slice none 0 0, .slice none 0 0, .string ⟨#[]⟩, .slice none 0 0, .slice none 0 0] 49)).alloc (.cells #[.int .i64 k, .int .i64 0, .bool false, .slice none 0 0, .slice none 0 0, .bool false, .slice none 0 0, .slice none 0 0, .string s, .slice none 0 0, .slice ad 0 cap] 49)) (fun _ _ => 0)
  case atStart => exact ⟨rfl, rfl⟩
  case round =>
    obtain ⟨rfl, rfl⟩ := hrel
    go_wp2_with fail
    go_loopw [50] (fun i wr => i = .int .i64 0 ∧ wr = (((w.alloc (.cells #[.int .i64 k, .int .i64 0, .bool false, .slice none 0 0, .slice none 0 0, .bool false, .slice none 0 0, .slice none 0 0, .string s, .slice none 0 0, .slice ad 0 cap] 49)).alloc (.cells #[.int .i64 0, .int .i64 0, .bool false, .slice none 0 0, .slice none 0 0, .bool false, .slice none 0 0, .slice none 0 0, .string ⟨#[]⟩, .slice none 0 0, .slice none 0 0] 49)).alloc (.cells #[.int .i64 k, .int .i64 0, .bool false, .slice none 0 0, .slice none 0 0, .bool false, .slice none 0 0, .slice none 0 0, .string s, .slice none 0 0, .slice ad 0 cap] 49)).alloc (.cells #[] 49)) (fun _ _ => 0)
    case atStart => exact ⟨rfl, rfl⟩
    case round =>
      obtain ⟨rfl, rfl⟩ := hrel
      go_wp2_with fail
      refine bodyPost_ret (v := .agg #[.int .i64 k, .int .i64 0, .bool false, .slice none 0 0, .slice none 0 0, .bool false, .slice none 0 0, .slice none 0 0, .string s, .slice none 0 0, .slice (some ⟨w.heap.size + 1 + 1 + 1, 0, none⟩) 0 0]) ?_ rfl ⟨⟨_, _, rfl⟩, ?_⟩
      · simp [results, Tryz.results19, go_sem]
      · exact Dt.below4 _ _ _ _ _

def Dt.zero : Array Value := #[.int .i64 0, .int .i64 0, .bool false, .slice none 0 0, .slice none 0 0, .bool false, .slice none 0 0, .slice none 0 0, .string ⟨#[]⟩, .slice none 0 0, .slice none 0 0]
set_option maxHeartbeats 4000000 in
set_option maxRecDepth 1000000 in
theorem Dt.none_any (w : World) : Calls Tryz.prog 27 #[] w fun e w' => e = .returned (Dt.leaf 1 ⟨#[]⟩ (.slice none 0 0)) ∧ Below w.heap.size w w' := by
  unfold Dt.leaf Dt.cells
  go_enter Tryz.func27, Tryz.ntmps27
  go_wp2
  refine bodyPost_ret (v := .agg #[.int .i64 1, .int .i64 0, .bool false, .slice none 0 0, .slice none 0 0, .bool false, .slice none 0 0, .slice none 0 0, .string ⟨#[]⟩, .slice none 0 0, .slice none 0 0]) ?_ rfl ⟨rfl, ?_⟩
  · simp [results, Tryz.results27, go_sem]
  · exact (Below.refl _ _).alloc (Nat.le_refl _) _
set_option maxHeartbeats 4000000 in
set_option maxRecDepth 1000000 in
theorem Dt.join_nil (k : Int) (s : ByteArray) (lst : Value) (hl : ∃ ad cap, lst = .slice ad 0 cap) (w : World) : Calls Tryz.prog 26 #[.slice none 0 0, Dt.leaf k s lst] w fun e w' => e = .returned (Dt.leaf k s lst) ∧ Below w.heap.size w w' := by
  obtain ⟨ad, cap, rfl⟩ := hl
  unfold Dt.leaf Dt.cells
  go_enter Tryz.func26, Tryz.ntmps26
  go_wp2_with fail
  go_loopw [5] (fun i wr => i = .int .i64 (-1) ∧ wr = (w.alloc (.cells #[.int .i64 k, .int .i64 0, .bool false, .slice none 0 0, .slice none 0 0, .bool false, .slice none 0 0, .slice none 0 0, .string s, .slice none 0 0, .slice ad 0 cap] 49)).alloc (.cells #[.int .i64 0, .int .i64 0, .bool false, .slice none 0 0, .slice none 0 0, .bool false, .slice none 0 0, .slice none 0 0, .string ⟨#[]⟩, .slice none 0 0, .slice none 0 0] 49)) (fun _ _ => 0)
  case atStart => exact ⟨rfl, rfl⟩
  case round =>
    obtain ⟨rfl, rfl⟩ := hrel
    go_wp2_with fail
    refine bodyPost_ret (v := .agg #[.int .i64 k, .int .i64 0, .bool false, .slice none 0 0, .slice none 0 0, .bool false, .slice none 0 0, .slice none 0 0, .string s, .slice none 0 0, .slice ad 0 cap]) ?_ rfl ⟨rfl, ?_⟩
    · simp [results, Tryz.results26, go_sem]
    · exact ((Below.refl _ _).alloc (Nat.le_refl _) _).alloc (by simp) _

set_option maxHeartbeats 4000000 in
set_option maxRecDepth 1000000 in
theorem Dt.fit_leaf (k : Int) (s : ByteArray) (lst : Value) (hk : Dt.kindOk k s) (hl : ∃ ad cap, lst = .slice ad 0 cap) (hV : Dt.valid s) (w : World) :
    Calls Tryz.prog 25 #[Dt.leaf k s lst] w fun e w' => (∃ ad cap, e = .returned (.tuple #[Dt.leaf k s (.slice ad 0 cap), .int .i64 0])) ∧ Below w.heap.size w w' := by
  have KS := Lib.hid (fun w => Dt.Sound_leaf k s lst hk hl hV w)
  have KC := Lib.hid (fun w => Dt.Copy_leaf k s lst hk hl w)
  have hn1 : ∀ o o2, ((w.alloc o).alloc o2).heap[w.heap.size + 1]? = some o2 := by
    intro o o2
    have := heap_alloc_new (w.alloc o) o2
    rwa [show (w.alloc o).heap.size = w.heap.size + 1 by simp] at this
  have hn0 : ∀ o o2, ((w.alloc o).alloc o2).heap[w.heap.size]? = some o := by
    intro o o2
    rw [Lib.alloc_old _ _ _ (by simp)]
    exact heap_alloc_new w o
  have hsz : ∀ o o2, ((w.alloc o).alloc o2).heap.size = w.heap.size + 2 := by intro o o2; simp
  have hb0 : ∀ o o2, Below w.heap.size w ((w.alloc o).alloc o2) := fun o o2 => ((Below.refl _ _).alloc (Nat.le_refl _) _).alloc (by simp) _
  unfold Dt.leaf Dt.cells at *
  go_enter Tryz.func25, Tryz.ntmps25
  go_wp2_with fail
  refine (KS.out _).mono ?_
  rintro x w1 ⟨rfl, hb1⟩
  have q1 := (hb1.block w.heap.size (by rw [hsz]; omega)).trans (hn0 _ _)
  have q2 := (hb1.block (w.heap.size + 1) (by rw [hsz]; omega)).trans (hn1 _ _)
  have HB1 := Lib.hid ((hb0 _ _).trans (hb1.mono (by rw [hsz]; omega)))
  have hz1 := hb1.size
  rw [hsz] at hz1
  obtain ⟨c0, c1, c2, c3, c4, c5, c6, c7, c8, c9, c10⟩ := Dt.cells11 q1
  have Q2 := Lib.hid q2
  clear hb1 q1 q2 hn0 hn1 hb0 KS hsz
  go_wp2_with fail
  refine (KC.out _).mono ?_
  rintro x w2 ⟨⟨ad2, cap2, rfl⟩, hb2⟩
  have q2 := (hb2.block (w.heap.size + 1) (by omega)).trans Q2.out
  have HB2 := Lib.hid (HB1.out.trans (hb2.mono (by omega)))
  obtain ⟨f0, z0, f1, z1, f2, z2, f3, z3, f4, z4, f5, z5, f6, z6, f7, z7, f8, z8, f9, z9, f10, z10, q3⟩ := Dt.store11 q2 (.int .i64 k) (.int .i64 0) (.bool false) (.slice none 0 0) (.slice none 0 0) (.bool false) (.slice none 0 0) (.slice none 0 0) (.string s) (.slice none 0 0) (.slice ad2 0 cap2)
  have hend := Dt.below_store11 HB2.out (show w.heap.size ≤ w.heap.size + 1 by omega) (.int .i64 k) (.int .i64 0) (.bool false) (.slice none 0 0) (.slice none 0 0) (.bool false) (.slice none 0 0) (.slice none 0 0) (.string s) (.slice none 0 0) (.slice ad2 0 cap2)
  have HE := Lib.hid hend
  obtain ⟨r0, r1, r2, r3, r4, r5, r6, r7, r8, r9, r10⟩ := Dt.cells11 q3
  clear hb2 q2 q3 c0 c1 c2 c3 c4 c5 c6 c7 c8 c9 c10 hend
  go_wp2_with fail
  refine bodyPost_ret (v := .tuple #[.agg #[.int .i64 k, .int .i64 0, .bool false, .slice none 0 0, .slice none 0 0, .bool false, .slice none 0 0, .slice none 0 0, .string s, .slice none 0 0, .slice ad2 0 cap2], .int .i64 0]) ?_ rfl ⟨⟨_, _, rfl⟩, HE.out⟩
  simp [results, Tryz.results25, go_sem, r0, r1, r2, r3, r4, r5, r6, r7, r8, r9, r10]
end Go.Proofs.YthcdkhegdlbdiaaGreatDoor
