/-
  The reader's door: the deferred closure that catches a fault.
-/
import Derived.Tactics2
import Derived.Defers
import Derived.Recover
import Derived.Laws.Pointers
import Derived.Test.YtaepjlghdjcdnaaDoorCf
import Derived.Test.YtaepjlghdjcdnaaDoorCa
namespace Go.Proofs.YtaepjlghdjcdnaaDoor
open Go.RowKit
set_option linter.unusedVariables false
set_option linter.unusedSimpArgs false

/-- The three results' boxes, as they are at first. -/
structure Dr.Door (B : Nat) (w : World) : Prop where
  d : Dr.Box0 B w
  n : w.heap[B + 1]? = some (.cells #[.int .i64 0] 3 (0, 0))
  e : w.heap[B + 2]? = some (.cells #[.int .i64 0] 33 (0, 0))
/-- The results' boxes, an error told. -/
structure Dr.Told (B : Nat) (x : Int) (w w' : World) : Prop where
  d : Dr.Box0 B w'
  n : w'.cell? ⟨B + 1, 0, none⟩ = some (.int .i64 0)
  e : w'.cell? ⟨B + 2, 0, none⟩ = some (.int .i64 x)
  below : ∀ (K : Nat) (z : World), Below K z w → K ≤ B → Below K z w'
theorem Dr.same11 {B : Nat} {w : World} (h : Dr.Box0 B w) :
    (w.setCell ⟨B, 0, none⟩ (.int .i64 0) = w ∧ w.setCell ⟨B, 1, none⟩ (.int .i64 0) = w ∧ w.setCell ⟨B, 2, none⟩ (.bool false) = w ∧ w.setCell ⟨B, 3, none⟩ (.slice none 0 0) = w ∧ w.setCell ⟨B, 4, none⟩ (.slice none 0 0) = w ∧ w.setCell ⟨B, 5, none⟩ (.bool false) = w ∧ w.setCell ⟨B, 6, none⟩ (.slice none 0 0) = w ∧ w.setCell ⟨B, 7, none⟩ (.slice none 0 0) = w ∧ w.setCell ⟨B, 8, none⟩ (.string ⟨#[]⟩) = w ∧ w.setCell ⟨B, 9, none⟩ (.slice none 0 0) = w ∧ w.setCell ⟨B, 10, none⟩ (.slice none 0 0) = w) ∧
    (w.frozen? ⟨B, 0, none⟩ = false ∧ w.frozen? ⟨B, 1, none⟩ = false ∧ w.frozen? ⟨B, 2, none⟩ = false ∧ w.frozen? ⟨B, 3, none⟩ = false ∧ w.frozen? ⟨B, 4, none⟩ = false ∧ w.frozen? ⟨B, 5, none⟩ = false ∧ w.frozen? ⟨B, 6, none⟩ = false ∧ w.frozen? ⟨B, 7, none⟩ = false ∧ w.frozen? ⟨B, 8, none⟩ = false ∧ w.frozen? ⟨B, 9, none⟩ = false ∧ w.frozen? ⟨B, 10, none⟩ = false) :=
  ⟨⟨Dr.put_same h 0 _ rfl, Dr.put_same h 1 _ rfl, Dr.put_same h 2 _ rfl, Dr.put_same h 3 _ rfl, Dr.put_same h 4 _ rfl, Dr.put_same h 5 _ rfl, Dr.put_same h 6 _ rfl, Dr.put_same h 7 _ rfl, Dr.put_same h 8 _ rfl, Dr.put_same h 9 _ rfl, Dr.put_same h 10 _ rfl⟩,
    Rt.frozen_of h 0, Rt.frozen_of h 1, Rt.frozen_of h 2, Rt.frozen_of h 3, Rt.frozen_of h 4, Rt.frozen_of h 5, Rt.frozen_of h 6, Rt.frozen_of h 7, Rt.frozen_of h 8, Rt.frozen_of h 9, Rt.frozen_of h 10⟩
theorem Dr.same1 {b : Nat} {w : World} {v : Value} {t : TypeId} (h : w.heap[b]? = some (.cells #[v] t (0, 0))) : w.setCell ⟨b, 0, none⟩ v = w ∧ w.frozen? ⟨b, 0, none⟩ = false ∧ w.cell? ⟨b, 0, none⟩ = some v :=
  ⟨Dr.put_same h 0 _ rfl, Rt.frozen_of h 0, Lib.cell_of_heap h 0⟩
theorem Dr.Door.below {B K : Nat} {w w' : World} (h : Dr.Door B w) (hb : Below K w w') (hK : B + 3 ≤ K) : Dr.Door B w' :=
  ⟨(hb.block B (by omega)).trans h.d, (hb.block (B + 1) (by omega)).trans h.n, (hb.block (B + 2) (by omega)).trans h.e⟩
theorem Dr.Door.lt {B : Nat} {w : World} (h : Dr.Door B w) : B + 2 < w.heap.size := (Array.getElem?_eq_some_iff.1 h.e).1
/-- An error is told. -/
theorem Dr.Door.tell {B : Nat} {w : World} (h : Dr.Door B w) (x : Int) : ∃ W, w.setCell ⟨B + 2, 0, none⟩ (.int .i64 x) = W ∧ Dr.Box0 B W ∧ W.heap[B + 1]? = some (.cells #[.int .i64 0] 3 (0, 0)) ∧ W.heap[B + 2]? = some (.cells #[.int .i64 x] 33 (0, 0)) ∧ Hid (Dr.Told B x w W) := by
  have hd : (w.setCell ⟨B + 2, 0, none⟩ (.int .i64 x)).heap[B]? = w.heap[B]? := heap_setCell_other w ⟨B + 2, 0, none⟩ B _ (by simp)
  have hn : (w.setCell ⟨B + 2, 0, none⟩ (.int .i64 x)).heap[B + 1]? = w.heap[B + 1]? := heap_setCell_other w ⟨B + 2, 0, none⟩ (B + 1) _ (by simp)
  have he : (w.setCell ⟨B + 2, 0, none⟩ (.int .i64 x)).heap[B + 2]? = some (.cells #[.int .i64 x] 33 (0, 0)) := heap_setCell_same w (B + 2) 0 _ _ (.int .i64 x) h.e
  refine ⟨_, rfl, hd.trans h.d, hn.trans h.n, he, Lib.hid ⟨hd.trans h.d, Lib.cell_of_heap (hn.trans h.n) 0, Lib.cell_of_heap he 0, fun K z hb hK => hb.setCell (by show K ≤ B + 2; omega) _⟩⟩
set_option maxHeartbeats 4000000 in
set_option maxRecDepth 1000000 in
theorem Dr.catch_idle (p q r : Addr) (w : World) :
    CallsD Tryd.prog 11 #[.pointer (some p), .pointer (some q), .pointer (some r)] .returning w fun e u' w' => e = .returned (.tuple #[]) ∧ u' = .returning ∧ w = w' := by
  refine callsD_of_wpS Tryd.func11 rfl fun c₀ cs hu => ?_
  apply wpS_seq
  apply wpS_region
  simp [wpOpsS, go_sem, recoverD, hu, Tryd.ntmps11, Exit.thenS]
  refine wpS_of_wp ?_
  change Code.wp _ _ _ { tmps := #[.pointer (some p), .pointer (some q), .pointer (some r), .nilIface, undef, undef, .nilIface, undef, undef, undef, undef, undef, undef, undef, undef, undef, undef, undef, undef, undef], defers := [] } w
  go_wp2_with fail
  cases c₀
  simp_all [bodyPostS, results, Tryd.results11]
theorem Dr.assertF (x : Int) (w : World) : (Instr.typeAssert (.iface 46 (.agg #[.int .i64 x])) 20 46 true).run Tryd.prog w = .ok (.tuple #[.agg #[.int .i64 x], .bool true]) w := by
  first
    | (simp [Instr.typeAssert, go_sem, Tryd.underlying46]; done)
    | rfl
    | kernel_rfl
set_option maxHeartbeats 4000000 in
set_option maxRecDepth 1000000 in
theorem Dr.catch_fault (B : Nat) (x : Int) (w : World) (h : Dr.Door B w) :
    CallsD Tryd.prog 11 #[.pointer (some ⟨B, 0, none⟩), .pointer (some ⟨B + 1, 0, none⟩), .pointer (some ⟨B + 2, 0, none⟩)] (.panicking [{ v := .iface 46 (.agg #[.int .i64 x]), recovered := false }]) w fun e u' w' =>
      e = .returned (.tuple #[]) ∧ u' = .panicking [{ v := .iface 46 (.agg #[.int .i64 x]), recovered := true }] ∧ Dr.Told B x w w' := by
  have hal : Below w.heap.size w (w.alloc (.cells #[.int .i64 x] 46)).drew := ((Below.refl _ _).alloc (Nat.le_refl _) _).drew
  have hlt := h.lt
  have hD := h.below hal (by omega)
  have hqF : (w.alloc (.cells #[.int .i64 x] 46)).drew.heap[w.heap.size]? = some (.cells #[.int .i64 x] 46 (0, 0)) := heap_alloc_new w _
  obtain ⟨W, hW, hWd, hWn, hWe, HT⟩ := hD.tell x
  obtain ⟨⟨a0, a1, a2, a3, a4, a5, a6, a7, a8, a9, a10⟩, z0, z1, z2, z3, z4, z5, z6, z7, z8, z9, z10⟩ := Dr.same11 hD.d
  obtain ⟨b0, b1, b2⟩ := Dr.same1 hD.n
  obtain ⟨_, c1, c2⟩ := Dr.same1 hD.e
  obtain ⟨⟨e0, e1, e2, e3, e4, e5, e6, e7, e8, e9, e10⟩, y0, y1, y2, y3, y4, y5, y6, y7, y8, y9, y10⟩ := Dr.same11 hWd
  obtain ⟨f0, f1, f2⟩ := Dr.same1 hWn
  obtain ⟨k0, k1, k2, k3, k4, k5, k6, k7, k8, k9, k10⟩ := Dr.cells11 hD.d
  obtain ⟨m0, m1, m2, m3, m4, m5, m6, m7, m8, m9, m10⟩ := Dr.cells11 hWd
  have hcF := Lib.cell_of_heap hqF 0
  have hWF : W.cell? ⟨w.heap.size, 0, none⟩ = some (.int .i64 x) := by rw [← hW]; exact (World.cell?_of_block (heap_setCell_other _ ⟨B + 2, 0, none⟩ w.heap.size _ (by simp; omega))).trans hcF
  have HE := Lib.hid (show Dr.Told B x w W from ⟨HT.out.d, HT.out.n, HT.out.e, fun K z hb hK => HT.out.below K z (hb.trans (hal.mono (by omega))) hK⟩)
  have hTA := Dr.assertF x w
  clear hal hD hqF hWd hWn hWe HT h
  refine callsD_of_wpS Tryd.func11 rfl fun c₀ cs hu => ?_
  apply wpS_seq
  apply wpS_region
  simp [wpOpsS, go_sem, recoverD, hu, Tryd.ntmps11, Exit.thenS]
  refine wpS_of_wp ?_
  change Code.wp _ _ _ { tmps := #[.pointer (some ⟨B, 0, none⟩), .pointer (some ⟨B + 1, 0, none⟩), .pointer (some ⟨B + 2, 0, none⟩), .iface 46 (.agg #[.int .i64 x]), undef, undef, .iface 46 (.agg #[.int .i64 x]), undef, undef, undef, undef, undef, undef, undef, undef, undef, undef, undef, undef, undef], defers := [] } w
  go_wp2_with fail
  go_region
  all_goals
    go_wp2_with fail
    have HT2 := HE.out
    clear a0 a1 a2 a3 a4 a5 a6 a7 a8 a9 a10 z0 z1 z2 z3 z4 z5 z6 z7 z8 z9 z10 b0 b1 b2 c1 c2 e0 e1 e2 e3 e4 e5 e6 e7 e8 e9 e10 y0 y1 y2 y3 y4 y5 y6 y7 y8 y9 y10 f0 f1 f2 k0 k1 k2 k3 k4 k5 k6 k7 k8 k9 k10 m0 m1 m2 m3 m4 m5 m6 m7 m8 m9 m10 hcF hWF hTA hW HE
    cases c₀
    simp_all [bodyPostS, results, Tryd.results11]
end Go.Proofs.YtaepjlghdjcdnaaDoor
