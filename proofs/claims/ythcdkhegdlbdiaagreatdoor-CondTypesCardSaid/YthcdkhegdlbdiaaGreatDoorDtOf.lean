/-
  lists.Of of no data.
-/
import Derived.Test.YthcdkhegdlbdiaaGreatDoorDtCopy
namespace Go.Proofs.YthcdkhegdlbdiaaGreatDoor
open Go.RowKit
set_option linter.unusedVariables false

/-- To halt a walk ahead of the operation that writes a slot. -/
theorem Dt.at_dst (n : Nat) {P : Program} {ops : Array Oper} {Q : Exit → Act → World → Prop} {o : Oper} {rest : List Oper} {a : Act} {w : World} (hd : o.dst = some n) (h : wpList P ops Q (o :: rest) a w) : wpList P ops Q (o :: rest) a w := h
set_option maxHeartbeats 400000 in
set_option maxRecDepth 1000000 in
theorem Dt.Of_nil (w : World) : Calls Tryz.prog 17 #[.slice none 0 0] w fun e w' => (∃ ad cap, e = .returned (Dt.leaf 1 ⟨#[]⟩ (.slice ad 0 cap))) ∧ Below w.heap.size w w' := by
  have hV : Dt.valid ⟨#[]⟩ := fun w => Dt.valid_short [] (by decide) (by simp) w
  have KN := Lib.hid (fun w => Dt.none_any w)
  have KJ := Lib.hid (fun w => Dt.join_nil 1 ⟨#[]⟩ (.slice none 0 0) ⟨_, _, rfl⟩ w)
  have KF := Lib.hid (fun w => Dt.fit_leaf 1 ⟨#[]⟩ (.slice none 0 0) (.inl ⟨rfl, rfl⟩) ⟨_, _, rfl⟩ hV w)
  clear hV
  have hq0 : ∀ o, (w.alloc o).heap[w.heap.size]? = some o := fun o => heap_alloc_new w o
  have hb0 : ∀ o, Below w.heap.size w (w.alloc o) := fun o => (Below.refl _ _).alloc (Nat.le_refl _) _
  have hsz : ∀ o, (w.alloc o).heap.size = w.heap.size + 1 := by intro o; simp
  unfold Dt.leaf Dt.cells at *
  go_enter Tryz.func17, Tryz.ntmps17
  go_wp2_with fail
  refine (KN.out _).mono ?_
  rintro x w1 ⟨rfl, hb1⟩
  have q1 := (hb1.block w.heap.size (by rw [hsz]; omega)).trans (hq0 _)
  have HB1 := Lib.hid ((hb0 _).trans (hb1.mono (by rw [hsz]; omega)))
  have hz1 : w.heap.size < w1.heap.size := (Array.getElem?_eq_some_iff.1 q1).1
  have Q1 := Lib.hid q1
  clear hb1 q1 KN hq0 hb0 hsz
  go_wp2_with fail
  refine (KJ.out _).mono ?_
  rintro x w2 ⟨rfl, hb2⟩
  have q2 := (hb2.block w.heap.size hz1).trans Q1.out
  have HB2 := Lib.hid (HB1.out.trans (hb2.mono (by omega)))
  have hz2 : w.heap.size < w2.heap.size := (Array.getElem?_eq_some_iff.1 q2).1
  have Q2 := Lib.hid q2
  clear hb2 q2 KJ
  go_wp2_with fail
  refine (KF.out _).mono ?_
  rintro x w3 ⟨⟨ad, cap, rfl⟩, hb3⟩
  have q3 := (hb3.block w.heap.size hz2).trans Q2.out
  have HB3 := Lib.hid (HB2.out.trans (hb3.mono (by omega)))
  have hz3 : w.heap.size < w3.heap.size := (Array.getElem?_eq_some_iff.1 q3).1
  clear hb3 KF
  obtain ⟨W1, W2, W3, W4, W5, W6, W7, W8, W9, W10, W11, ⟨f0, z0, e0, s0⟩, ⟨f1, z1, e1, s1⟩, ⟨f2, z2, e2, s2⟩, ⟨f3, z3, e3, s3⟩, ⟨f4, z4, e4, s4⟩, ⟨f5, z5, e5, s5⟩, ⟨f6, z6, e6, s6⟩, ⟨f7, z7, e7, s7⟩, ⟨f8, z8, e8, s8⟩, ⟨f9, z9, e9, s9⟩, ⟨f10, z10, e10, s10⟩, q4, hsz, _, hbb⟩ := Dt.put11 q3 (.int .i64 1) (.int .i64 0) (.bool false) (.slice none 0 0) (.slice none 0 0) (.bool false) (.slice none 0 0) (.slice none 0 0) (.string ⟨#[]⟩) (.slice none 0 0) (.slice ad 0 cap)
  have HE := Lib.hid (hbb w.heap.size w HB3.out (Nat.le_refl _))
  have HSZ := Lib.hid hsz
  clear hbb hsz
  have R : ∀ o, (W11.alloc o).heap[w.heap.size]? = _ := fun o => (Lib.alloc_old _ _ _ (by rw [HSZ.out]; exact hz3)).trans q4
  have R0 := fun o => Dt.cell_of (R o) 0
  have R1 := fun o => Dt.cell_of (R o) 1
  have R2 := fun o => Dt.cell_of (R o) 2
  have R3 := fun o => Dt.cell_of (R o) 3
  have R4 := fun o => Dt.cell_of (R o) 4
  have R5 := fun o => Dt.cell_of (R o) 5
  have R6 := fun o => Dt.cell_of (R o) 6
  have R7 := fun o => Dt.cell_of (R o) 7
  have R8 := fun o => Dt.cell_of (R o) 8
  have R9 := fun o => Dt.cell_of (R o) 9
  have R10 := fun o => Dt.cell_of (R o) 10
  clear q3 q4 R
  go_wp2_with fail
  refine bodyPost_ret (v := .agg #[.int .i64 1, .int .i64 0, .bool false, .slice none 0 0, .slice none 0 0, .bool false, .slice none 0 0, .slice none 0 0, .string ⟨#[]⟩, .slice none 0 0, .slice ad 0 cap]) ?_ rfl ⟨⟨_, _, rfl⟩, HE.out.alloc (by have := HSZ.out; omega) _⟩
  simp [results, Tryz.results17, go_sem, R0, R1, R2, R3, R4, R5, R6, R7, R8, R9, R10]
end Go.Proofs.YthcdkhegdlbdiaaGreatDoor
