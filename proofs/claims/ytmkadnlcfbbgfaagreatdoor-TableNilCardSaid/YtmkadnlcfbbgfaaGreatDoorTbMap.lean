/-
  A map of texts to entries: what is looked up in it, and what is set first.
-/
import Derived.Test.YtmkadnlcfbbgfaaGreatDoorTbName
import Derived.WideMake
import Derived.Carry
namespace Go.Proofs.YtmkadnlcfbbgfaaGreatDoor
open Go.RowKit
set_option linter.unusedVariables false

theorem Tb.lookup_empty (w : World) (r clock : Nat) (s : ByteArray) (hb : w.heap[r]? = some (.map #[] clock)) :
    (Instr.lookup 42 (.map (some r)) (.string s) true).run Tryz.prog w = .ok (.tuple #[.pointer none, .bool false]) w := by
  have hf : Instr.findNow .string (.string s) ([] : List MapEntry) 0 = some none := rfl
  have hc : (Instr.checkKey true 10000 9 (.string s)).run Tryz.prog w = .ok () w := MapKept.run_checkKey (k := .string s) Tryz.underlying9 (by simp [MapKept.IsKey]) true 9999
  simp [Instr.lookup, run_underlying Tryz.underlying42, MapKept.run_getObj_map hb, hc, MapKept.run_findKey Tryz.underlying9 hf, Result.andThen]
theorem Tb.lookup_one (w : World) (r clock born : Nat) (s : ByteArray) (v : Value) (hss : (s == s) = true) (hb : w.heap[r]? = some (.map #[{ key := .string s, val := v, born := born }] clock)) :
    (Instr.lookup 42 (.map (some r)) (.string s) true).run Tryz.prog w = .ok (.tuple #[v, .bool true]) w := by
  have hf : Instr.findNow .string (.string s) [({ key := .string s, val := v, born := born } : MapEntry)] 0 = some (some (0, v)) := by simp [Instr.findNow, Instr.sameNow, hss]
  have hc : (Instr.checkKey false 10000 9 (.string s)).run Tryz.prog w = .ok () w := MapKept.run_checkKey (k := .string s) Tryz.underlying9 (by simp [MapKept.IsKey]) false 9999
  simp [Instr.lookup, run_underlying Tryz.underlying42, MapKept.run_getObj_map hb, hc, MapKept.run_findKey Tryz.underlying9 hf, Result.andThen]
theorem Tb.update_first (w : World) (r clock : Nat) (s : ByteArray) (v : Value) (hb : w.heap[r]? = some (.map #[] clock)) :
    (Instr.mapUpdate 42 (.map (some r)) (.string s) v).run Tryz.prog w = .ok () { w with heap := w.heap.setIfInBounds r (.map #[{ key := .string s, val := v, born := clock }] (clock + 1)) } :=
  run_mapUpdate_first w 42 9 47 r clock s v Tryz.underlying42 Tryz.underlying9 hb

theorem Tb.len_map (w : World) (r clock : Nat) (es : Array MapEntry) (ty : TypeId) (hb : w.heap[r]? = some (.map es clock)) :
    (Builtin.len_ #[42] ty #[.map (some r)]).run Tryz.prog w = .ok (.int .i64 es.size) w := by
  simp [Builtin.len_, run_underlying Tryz.underlying42, MapKept.run_getObj_map hb, Result.andThen, goInt]
set_option maxHeartbeats 4000000 in
theorem Tb.new_two (w : World) : Calls Tryz.prog 14 #[.int .i64 2] w fun e w' => e = .returned (.tuple #[.pointer (some ⟨w.heap.size + 1, 0, none⟩), .int .i64 0]) ∧ w'.heap[w.heap.size]? = some (.map #[] 0) ∧ w'.heap[w.heap.size + 1]? = some (.cells #[.int .i64 2, .int .i64 0, .map (some w.heap.size)] 44 (0, 0)) ∧ Below w.heap.size w w' := by
  have hmm := fun w => @run_makeMap Tryz.prog 42 w
  go_enter Tryz.func14, Tryz.ntmps14
  go_wp2
  go_ret2
  have hs : ∀ o, (w.alloc o).heap.size = w.heap.size + 1 := by intro o; simp
  refine ⟨rfl, (Lib.alloc_old _ _ _ (by rw [hs]; omega)).trans (heap_alloc_new w _), ?_, ((Below.refl _ _).alloc (Nat.le_refl _) _).alloc (by rw [hs]; omega) _⟩
  have := heap_alloc_new (w.alloc (.map #[] 0)) (.cells #[.int .i64 2, .int .i64 0, .map (some w.heap.size)] 44)
  rwa [hs] at this
end Go.Proofs.YtmkadnlcfbbgfaaGreatDoor
