/-
  What a datum lies in is none of a table's own blocks.
  A table's map of texts to entries: what is looked up in it, what is set first; table.New.
-/
import Derived.WideMake
import Derived.Carry
import Derived.Test.YtikmebkfdpbidaaGreatDoorTg
namespace Go.Proofs.YtikmebkfdpbidaaGreatDoor
open Go.RowKit
set_option linter.unusedVariables false
set_option linter.unusedSimpArgs false

/-- No word, no byte, no datum can lie in the block. -/
def Tb.NoData (w : World) (p : Nat) : Prop := ∀ off : Nat, (∀ n : Int, w.cell? ⟨p, off, none⟩ ≠ some (.int .u32 n)) ∧ (∀ n : Int, w.cell? ⟨p, off, none⟩ ≠ some (.int .u8 n)) ∧ (w.cell? ⟨p, off, none⟩ = none ∨ w.cell? ⟨p, off + 10, none⟩ = none)
theorem Tb.NoData.table {w : World} {p : Nat} {k l : Int} {m : Option Nat} {t : TypeId} (h : w.heap[p]? = some (.cells #[.int .i64 k, .int .i64 l, .map m] t (0, 0))) : Tb.NoData w p := by
  have hz : ∀ off, w.cell? ⟨p, off, none⟩ = (#[.int .i64 k, .int .i64 l, .map m] : Array Value)[off]? := fun off => Rt.cell_of h off
  intro off
  rw [hz, hz]
  match off with
  | 0 => exact ⟨fun n e => (by simp at e), fun n e => (by simp at e), .inr rfl⟩
  | 1 => exact ⟨fun n e => (by simp at e), fun n e => (by simp at e), .inr rfl⟩
  | 2 => exact ⟨fun n e => (by simp at e), fun n e => (by simp at e), .inr rfl⟩
  | off + 3 =>
    have e0 : (#[.int .i64 k, .int .i64 l, .map m] : Array Value)[off + 3]? = none := Array.getElem?_eq_none (by simp)
    rw [e0]
    exact ⟨fun n e => (by cases e), fun n e => (by cases e), .inl rfl⟩
theorem Tb.NoData.map {w : World} {r : Nat} {es : Array MapEntry} {c : Nat} (h : w.heap[r]? = some (.map es c)) : Tb.NoData w r := by
  have hz : ∀ off, w.cell? ⟨r, off, none⟩ = none := fun off => by simp [World.cell?, h]
  intro off
  rw [hz]
  exact ⟨fun n e => (by cases e), fun n e => (by cases e), .inl rfl⟩
theorem Tr.On.away {w : World} {S : Nat → Prop} {p : Nat} (hp : Tb.NoData w p) {v : Value} {ws : List Nat} (i : Nt.In w v ws) (o : Tr.On S v ws.length) : Tr.On (fun q => S q ∧ q ≠ p) v ws.length := by
  rcases i with ⟨_, e⟩ | ⟨_, _, _, e⟩ | ⟨h0, b, off, cap, hv, _, hl, hc⟩
  · rw [e]; exact fun h => absurd h (Nat.lt_irrefl 0)
  · rw [e]; exact fun h => absurd h (Nat.lt_irrefl 0)
  · intro _ b' off' l' c' e
    rw [hv] at e
    cases e
    refine ⟨o h0 _ _ _ _ hv, ?_⟩
    rintro rfl
    exact (hp _).1 _ (hc 0 h0)
theorem Tr.On.awayB {w : World} {S : Nat → Prop} {p : Nat} (hp : Tb.NoData w p) {v : Value} {s : ByteArray} (i : By.In w v s) (o : Tr.On S v s.size) : Tr.On (fun q => S q ∧ q ≠ p) v s.size := by
  rcases i with ⟨_, e⟩ | ⟨_, _, _, e⟩ | ⟨h0, b, off, cap, hv, _, hl, hc⟩
  · rw [e]; exact fun h => absurd h (Nat.lt_irrefl 0)
  · rw [e]; exact fun h => absurd h (Nat.lt_irrefl 0)
  · intro _ b' off' l' c' e
    rw [hv] at e
    cases e
    refine ⟨o h0 _ _ _ _ hv, ?_⟩
    rintro rfl
    exact (hp _).2.1 _ (hc 0 h0)
theorem Tr.Hd.In.away {w : World} {S : Nat → Prop} {p : Nat} (hp : Tb.NoData w p) {h : Tr.Hd} {v3 v4 v6 v7 v9 : Value} (i : Tr.Hd.In w S h v3 v4 v6 v7 v9) : Tr.Hd.In w (fun q => S q ∧ q ≠ p) h v3 v4 v6 v7 v9 :=
  ⟨i.ok, i.i3, i.i4, i.i6, i.i7, i.i9, Tr.On.away hp i.i3 i.o3, Tr.On.away hp i.i4 i.o4, Tr.On.away hp i.i6 i.o6, Tr.On.away hp i.i7 i.o7, Tr.On.awayB hp i.i9 i.o9⟩
mutual
theorem Tr.In.away {w : World} {S : Nat → Prop} {p : Nat} (hp : Tb.NoData w p) : ∀ (t : Tr) (v : Value), Tr.In w S t v → Tr.In w (fun q => S q ∧ q ≠ p) t v
  | .mk h l, v, hI => by
    rw [Tr.In_mk] at hI ⊢
    obtain ⟨v3, v4, v6, v7, v9, v10, e, hH, hL⟩ := hI
    refine ⟨v3, v4, v6, v7, v9, v10, e, hH.away hp, ?_⟩
    rcases hL with h0 | h0 | ⟨h0, b, off, cap, hv, h1, h2, h3, h4, h5⟩
    · exact .inl h0
    · exact .inr (.inl h0)
    · exact .inr (.inr ⟨h0, b, off, cap, hv, h1, h2, h3, ⟨h4, Tr.All.first hp l b off h0 h5⟩, Tr.All.away hp l b off h5⟩)
theorem Tr.All.away {w : World} {S : Nat → Prop} {p : Nat} (hp : Tb.NoData w p) : ∀ (l : List Tr) (b off : Nat), Tr.All w S l b off → Tr.All w (fun q => S q ∧ q ≠ p) l b off
  | [], _, _, _ => Tr.All_nil
  | t :: ts, b, off, h => by
    rw [Tr.All_cons] at h ⊢
    obtain ⟨⟨C, hI, hM⟩, hr⟩ := h
    exact ⟨⟨C, Tr.In.away hp t _ hI, hM⟩, Tr.All.away hp ts b (off + 11) hr⟩
theorem Tr.All.first {w : World} {S : Nat → Prop} {p : Nat} (hp : Tb.NoData w p) : ∀ (l : List Tr) (b off : Nat), 0 < l.length → Tr.All w S l b off → b ≠ p
  | [], _, _, h0, _ => absurd h0 (Nat.lt_irrefl 0)
  | t :: ts, b, off, _, h => by
    rw [Tr.All_cons] at h
    obtain ⟨⟨C, hI, hM⟩, hr⟩ := h
    rintro rfl
    obtain ⟨u0, _, c0⟩ := hM 0 (by decide)
    obtain ⟨u1, _, c1⟩ := hM 10 (by decide)
    rw [Nat.add_zero] at c0
    rcases (hp off).2.2 with e | e
    · rw [e] at c0; cases c0
    · rw [e] at c1; cases c1
end
/-- A datum stays when the two blocks of a table change. -/
theorem Tr.In.tab {w w' : World} {p r : Nat} {t : Tr} {v : Value} (h : Tr.In w (fun _ => True) t v) (hp : Tb.NoData w p) (hr : Tb.NoData w r) (hs : w.heap.size ≤ w'.heap.size) (hk : ∀ q, q < w.heap.size → q ≠ p → q ≠ r → w'.heap[q]? = w.heap[q]?) : Tr.In w' (fun _ => True) t v := by
  have h1 := Tr.In.away hr t v (Tr.In.away hp t v h)
  exact Tr.In.mono (fun _ _ => trivial) _ _ (Tr.In.kept (S := fun q => (True ∧ q ≠ p) ∧ q ≠ r) ⟨hs, fun q hq hl => hk q hl hq.1.2 hq.2⟩ _ _ h1)
end Go.Proofs.YtikmebkfdpbidaaGreatDoor
namespace Go.Proofs.YtikmebkfdpbidaaGreatDoor
open Go.RowKit
set_option linter.unusedVariables false

theorem Tb.lookup_empty (w : World) (r clock : Nat) (s : ByteArray) (hb : w.heap[r]? = some (.map #[] clock)) :
    (Instr.lookup 82 (.map (some r)) (.string s) true).run Tryz.prog w = .ok (.tuple #[.pointer none, .bool false]) w := by
  have hf : Instr.findNow .string (.string s) ([] : List MapEntry) 0 = some none := rfl
  have hc : (Instr.checkKey true 10000 9 (.string s)).run Tryz.prog w = .ok () w := MapKept.run_checkKey (k := .string s) Tryz.underlying9 (by simp [MapKept.IsKey]) true 9999
  simp [Instr.lookup, run_underlying Tryz.underlying82, MapKept.run_getObj_map hb, hc, MapKept.run_findKey Tryz.underlying9 hf, Result.andThen]
theorem Tb.lookup_one (w : World) (r clock born : Nat) (s : ByteArray) (v : Value) (hss : (s == s) = true) (hb : w.heap[r]? = some (.map #[{ key := .string s, val := v, born := born }] clock)) :
    (Instr.lookup 82 (.map (some r)) (.string s) true).run Tryz.prog w = .ok (.tuple #[v, .bool true]) w := by
  have hf : Instr.findNow .string (.string s) [({ key := .string s, val := v, born := born } : MapEntry)] 0 = some (some (0, v)) := by simp [Instr.findNow, Instr.sameNow, hss]
  have hc : (Instr.checkKey false 10000 9 (.string s)).run Tryz.prog w = .ok () w := MapKept.run_checkKey (k := .string s) Tryz.underlying9 (by simp [MapKept.IsKey]) false 9999
  simp [Instr.lookup, run_underlying Tryz.underlying82, MapKept.run_getObj_map hb, hc, MapKept.run_findKey Tryz.underlying9 hf, Result.andThen]
theorem Tb.update_first (w : World) (r clock : Nat) (s : ByteArray) (v : Value) (hb : w.heap[r]? = some (.map #[] clock)) :
    (Instr.mapUpdate 82 (.map (some r)) (.string s) v).run Tryz.prog w = .ok () { w with heap := w.heap.setIfInBounds r (.map #[{ key := .string s, val := v, born := clock }] (clock + 1)) } :=
  run_mapUpdate_first w 82 9 87 r clock s v Tryz.underlying82 Tryz.underlying9 hb

theorem Tb.len_map (w : World) (r clock : Nat) (es : Array MapEntry) (ty : TypeId) (hb : w.heap[r]? = some (.map es clock)) :
    (Builtin.len_ #[82] ty #[.map (some r)]).run Tryz.prog w = .ok (.int .i64 es.size) w := by
  simp [Builtin.len_, run_underlying Tryz.underlying82, MapKept.run_getObj_map hb, Result.andThen, goInt]
theorem Tb.lookup_other (w : World) (r clock born : Nat) (s s2 : ByteArray) (v : Value) (hss : (s2 == s) = false) (hb : w.heap[r]? = some (.map #[{ key := .string s, val := v, born := born }] clock)) :
    (Instr.lookup 82 (.map (some r)) (.string s2) true).run Tryz.prog w = .ok (.tuple #[.pointer none, .bool false]) w := by
  have hf : Instr.findNow .string (.string s2) [({ key := .string s, val := v, born := born } : MapEntry)] 0 = some none := by simp [Instr.findNow, Instr.sameNow, hss]
  have hc : (Instr.checkKey false 10000 9 (.string s2)).run Tryz.prog w = .ok () w := MapKept.run_checkKey (k := .string s2) Tryz.underlying9 (by simp [MapKept.IsKey]) false 9999
  simp [Instr.lookup, run_underlying Tryz.underlying82, MapKept.run_getObj_map hb, hc, MapKept.run_findKey Tryz.underlying9 hf, Result.andThen]
set_option maxHeartbeats 1000000 in
theorem Tb.new_any (k : Int) (hk : k = 1 ∨ k = 2 ∨ k = 3) (w : World) : Calls Tryz.prog 13 #[.int .i64 k] w fun e w' => e = .returned (.tuple #[.pointer (some ⟨w.heap.size + 1, 0, none⟩), .int .i64 0]) ∧ w'.heap[w.heap.size]? = some (.map #[] 0) ∧ w'.heap[w.heap.size + 1]? = some (.cells #[.int .i64 k, .int .i64 0, .map (some w.heap.size)] 84 (0, 0)) ∧ Below w.heap.size w w' := by
  have hmm := fun w => @run_makeMap Tryz.prog 82 w
  have hs : ∀ o, (w.alloc o).heap.size = w.heap.size + 1 := by intro o; simp
  rcases hk with rfl | rfl | rfl
  all_goals
    go_enter Tryz.func13, Tryz.ntmps13
    go_wp2
    go_ret2
    refine ⟨rfl, (Lib.alloc_old _ _ _ (by rw [hs]; omega)).trans (heap_alloc_new w _), ?_, ((Below.refl _ _).alloc (Nat.le_refl _) _).alloc (by rw [hs]; omega) _⟩
    first
    | (have := heap_alloc_new (w.alloc (.map #[] 0)) (.cells #[.int .i64 1, .int .i64 0, .map (some w.heap.size)] 84)
       rwa [hs] at this)
    | (have := heap_alloc_new (w.alloc (.map #[] 0)) (.cells #[.int .i64 2, .int .i64 0, .map (some w.heap.size)] 84)
       rwa [hs] at this)
    | (have := heap_alloc_new (w.alloc (.map #[] 0)) (.cells #[.int .i64 3, .int .i64 0, .map (some w.heap.size)] 84)
       rwa [hs] at this)
/-- The world in which the map r has one entry, that leads to x. -/
def Tb.upd (w : World) (r : Nat) (fs : ByteArray) (x : Nat) : World := { w with heap := w.heap.setIfInBounds r (.map #[{ key := .string fs, val := .pointer (some ⟨x, 0, none⟩), born := 0 }] 1) }
/-- The world behind a map's first entry. -/
theorem Tb.fin (W1 wB : World) (o : Obj) (fs : ByteArray) (r : Nat) (hacc : Below W1.heap.size W1 wB) (hr : r < W1.heap.size) :
    (Tb.upd (wB.alloc o) r fs wB.heap.size).heap[r]? = some (.map #[{ key := .string fs, val := .pointer (some ⟨wB.heap.size, 0, none⟩), born := 0 }] 1) ∧ (Tb.upd (wB.alloc o) r fs wB.heap.size).heap[wB.heap.size]? = some o ∧
      (∀ b, b ≠ r → b < wB.heap.size → (Tb.upd (wB.alloc o) r fs wB.heap.size).heap[b]? = wB.heap[b]?) ∧ wB.heap.size ≤ (Tb.upd (wB.alloc o) r fs wB.heap.size).heap.size ∧ (∀ (B : Nat) (w0 : World), Below B w0 W1 → B ≤ r → B ≤ W1.heap.size → Below B w0 (Tb.upd (wB.alloc o) r fs wB.heap.size)) := by
  have hs := hacc.size
  have hne : ∀ b, b ≠ r → (Tb.upd (wB.alloc o) r fs wB.heap.size).heap[b]? = (wB.alloc o).heap[b]? := fun b hb => by
    show ((wB.alloc o).heap.setIfInBounds r _)[b]? = _
    rw [Array.getElem?_setIfInBounds]
    simp [Ne.symm hb]
  refine ⟨?_, (hne _ (by omega)).trans (heap_alloc_new wB o), fun b hb hlt => (hne b hb).trans (Lib.alloc_old _ _ _ hlt), ?_, fun B w0 hB h1 h2 => ?_⟩
  · show ((wB.alloc o).heap.setIfInBounds r _)[r]? = _
    rw [Array.getElem?_setIfInBounds]
    simp
    omega
  · show _ ≤ ((wB.alloc o).heap.setIfInBounds r _).size
    simp
  · have h8 : Below B w0 (wB.alloc o) := (hB.trans (hacc.mono h2)).alloc (by omega) _
    exact h8.grown (row := some r) ⟨rfl, rfl, rfl, by show _ ≤ ((wB.alloc o).heap.setIfInBounds r _).size; simp, fun k _ hk => hne k (fun e => hk (by simp [e]))⟩ (by simp; omega) (fun k hk => by simp at hk; omega)
end Go.Proofs.YtikmebkfdpbidaaGreatDoor
