/-
  A nil table: what each call answers, whatever the data.
-/
import Derived.Test.YtmkadnlcfbbgfaaGreatDoorDtCopy
namespace Go.Proofs.YtmkadnlcfbbgfaaGreatDoor
open Go.RowKit
set_option linter.unusedVariables false

/-- Whatever datum, as a value. -/
def Dt.Shaped (v : Value) : Prop := ∃ (k n : Int) (g1 g2 : Bool) (a1 a2 a3 a4 a5 a6 : Option Addr) (l1 l2 l3 l4 l5 l6 c1 c2 c3 c4 c5 c6 : Nat) (s : ByteArray),
  v = .agg #[.int .i64 k, .int .i64 n, .bool g1, .slice a1 l1 c1, .slice a2 l2 c2, .bool g2, .slice a3 l3 c3, .slice a4 l4 c4, .string s, .slice a5 l5 c5, .slice a6 l6 c6]

set_option maxHeartbeats 4000000 in
set_option maxRecDepth 1000000 in
theorem Tb.name_nil (v : Value) (hv : Dt.Shaped v) (m : Value) (w : World) : Calls Tryz.prog 12 #[.pointer none, v, m] w fun e w' => e = .returned (.tuple #[.string ⟨#[]⟩, .int .i64 1]) ∧ Below w.heap.size w w' := by
  obtain ⟨k, n, g1, g2, a1, a2, a3, a4, a5, a6, l1, l2, l3, l4, l5, l6, c1, c2, c3, c4, c5, c6, s, rfl⟩ := hv
  go_enter Tryz.func12, Tryz.ntmps12
  go_wp2
  go_ret2
  exact ⟨rfl, (Below.refl _ _).alloc (Nat.le_refl _) _⟩
set_option maxHeartbeats 4000000 in
set_option maxRecDepth 1000000 in
theorem Tb.get_nil (v : Value) (hv : Dt.Shaped v) (w : World) : Calls Tryz.prog 5 #[.pointer none, v] w fun e w' => (∃ u, e = .returned (.tuple #[u, .int .i64 1]) ∧ Dt.Shaped u) ∧ Below w.heap.size w w' := by
  have KN := fun m w => Tb.name_nil v hv m w
  obtain ⟨k, n, g1, g2, a1, a2, a3, a4, a5, a6, l1, l2, l3, l4, l5, l6, c1, c2, c3, c4, c5, c6, s, rfl⟩ := hv
  have hn1 : ∀ o o2, ((w.alloc o).alloc o2).heap[w.heap.size + 1]? = some o2 := by
    intro o o2
    have := heap_alloc_new (w.alloc o) o2
    rwa [show (w.alloc o).heap.size = w.heap.size + 1 by simp] at this
  have hsz : ∀ o o2, ((w.alloc o).alloc o2).heap.size = w.heap.size + 2 := by intro o o2; simp
  have hb0 : ∀ o o2, Below w.heap.size w ((w.alloc o).alloc o2) := fun o o2 => ((Below.refl _ _).alloc (Nat.le_refl _) _).alloc (by simp) _
  go_enter Tryz.func5, Tryz.ntmps5
  go_wp2_with fail
  refine (KN _ _).mono ?_
  rintro x w1 ⟨rfl, hb1⟩
  have q1 := (hb1.block (w.heap.size + 1) (by rw [hsz]; omega)).trans (hn1 _ _)
  have HB1 := Lib.hid ((hb0 _ _).trans (hb1.mono (by rw [hsz]; omega)))
  clear hb1 hn1 hsz hb0 KN
  obtain ⟨W1, W2, W3, W4, W5, W6, W7, W8, W9, W10, W11, ⟨f0, z0, e0, s0⟩, ⟨f1, z1, e1, s1⟩, ⟨f2, z2, e2, s2⟩, ⟨f3, z3, e3, s3⟩, ⟨f4, z4, e4, s4⟩, ⟨f5, z5, e5, s5⟩, ⟨f6, z6, e6, s6⟩, ⟨f7, z7, e7, s7⟩, ⟨f8, z8, e8, s8⟩, ⟨f9, z9, e9, s9⟩, ⟨f10, z10, e10, s10⟩, q4, hsz, _, hbb⟩ := Dt.put11 q1 (.int .i64 0) (.int .i64 0) (.bool false) (.slice none 0 0) (.slice none 0 0) (.bool false) (.slice none 0 0) (.slice none 0 0) (.string ⟨#[]⟩) (.slice none 0 0) (.slice none 0 0)
  have HE := Lib.hid (hbb w.heap.size w HB1.out (Nat.le_succ _))
  obtain ⟨r0, r1, r2, r3, r4, r5, r6, r7, r8, r9, r10⟩ := Dt.cells11 q4
  clear hbb hsz q4 q1
  go_wp2_with fail
  refine bodyPost_ret (v := .tuple #[.agg #[.int .i64 0, .int .i64 0, .bool false, .slice none 0 0, .slice none 0 0, .bool false, .slice none 0 0, .slice none 0 0, .string ⟨#[]⟩, .slice none 0 0, .slice none 0 0], .int .i64 1]) ?_ rfl ⟨⟨_, rfl, ⟨0, 0, false, false, none, none, none, none, none, none, 0, 0, 0, 0, 0, 0, 0, 0, 0, 0, 0, 0, ⟨#[]⟩, rfl⟩⟩, HE.out⟩
  simp [results, Tryz.results5, go_sem, r0, r1, r2, r3, r4, r5, r6, r7, r8, r9, r10]
set_option maxHeartbeats 4000000 in
set_option maxRecDepth 1000000 in
theorem Tb.set_nil (v u : Value) (hv : Dt.Shaped v) (hu : Dt.Shaped u) (w : World) : Calls Tryz.prog 7 #[.pointer none, v, u] w fun e w' => e = .returned (.int .i64 1) ∧ Below w.heap.size w w' := by
  have KN := fun m w => Tb.name_nil v hv m w
  obtain ⟨k, n, g1, g2, a1, a2, a3, a4, a5, a6, l1, l2, l3, l4, l5, l6, c1, c2, c3, c4, c5, c6, s, rfl⟩ := hv
  obtain ⟨k', n', g1', g2', a1', a2', a3', a4', a5', a6', l1', l2', l3', l4', l5', l6', c1', c2', c3', c4', c5', c6', s', rfl⟩ := hu
  have hb0 : ∀ o o2 o3, Below w.heap.size w (((w.alloc o).alloc o2).alloc o3) := fun o o2 o3 => (((Below.refl _ _).alloc (Nat.le_refl _) _).alloc (by simp) _).alloc (by simp; omega) _
  go_enter Tryz.func7, Tryz.ntmps7
  go_wp2_with fail
  refine (KN _ _).mono ?_
  rintro x w1 ⟨rfl, hb1⟩
  have HB1 := Lib.hid ((hb0 _ _ _).trans (hb1.mono (by simp; omega)))
  clear hb1 hb0 KN
  go_wp2
  go_ret
  exact ⟨rfl, HB1.out⟩
set_option maxHeartbeats 4000000 in
set_option maxRecDepth 1000000 in
theorem Tb.delete_nil (v : Value) (hv : Dt.Shaped v) (w : World) : Calls Tryz.prog 8 #[.pointer none, v] w fun e w' => e = .returned (.int .i64 1) ∧ Below w.heap.size w w' := by
  have KN := fun m w => Tb.name_nil v hv m w
  obtain ⟨k, n, g1, g2, a1, a2, a3, a4, a5, a6, l1, l2, l3, l4, l5, l6, c1, c2, c3, c4, c5, c6, s, rfl⟩ := hv
  have hb0 : ∀ o, Below w.heap.size w (w.alloc o) := fun o => (Below.refl _ _).alloc (Nat.le_refl _) _
  go_enter Tryz.func8, Tryz.ntmps8
  go_wp2_with fail
  refine (KN _ _).mono ?_
  rintro x w1 ⟨rfl, hb1⟩
  have HB1 := Lib.hid ((hb0 _).trans (hb1.mono (by simp)))
  clear hb1 hb0 KN
  go_wp2
  go_ret
  exact ⟨rfl, HB1.out⟩
theorem Tb.len_nil (w : World) : Calls Tryz.prog 9 #[.pointer none] w fun e w' => e = .returned (.int .i64 0) ∧ w' = w := by
  go_enter Tryz.func9, Tryz.ntmps9
  go_wp2
  go_ret
  exact ⟨rfl, rfl⟩
theorem Tb.keys_nil (w : World) : Calls Tryz.prog 10 #[.pointer none] w fun e w' => e = .returned (.slice none 0 0) ∧ w' = w := by
  go_enter Tryz.func10, Tryz.ntmps10
  go_wp2
  go_ret
  exact ⟨rfl, rfl⟩
theorem Tb.copy_nil (w : World) : Calls Tryz.prog 11 #[.pointer none] w fun e w' => e = .returned (.pointer none) ∧ w' = w := by
  go_enter Tryz.func11, Tryz.ntmps11
  go_wp2
  go_ret
  exact ⟨rfl, rfl⟩
theorem Tb.clear_nil (w : World) : Calls Tryz.prog 4 #[.pointer none] w fun e w' => e = .returned (.tuple #[]) ∧ w' = w := by
  go_enter Tryz.func4, Tryz.ntmps4
  go_wp2
  first | go_end0 | refine bodyPost_ret (results_none rfl _ _ _) rfl ?_
  exact ⟨rfl, rfl⟩
end Go.Proofs.YtmkadnlcfbbgfaaGreatDoor
