/-
  append([]byte{}, x...): bytes in a row of their own.
-/
import Derived.Test.YtdikkknjdbchbaaWoRefFind
namespace Go.Proofs.Ytdikkknjdbchbaa
open Go.RowKit
set_option linter.unusedVariables false

/-- Where the row lies: in the empty row b, or in a new block. -/
def Wo.Lies (b n : Nat) (v : Value) (n' : Nat) : Prop := v.ownBlock = some b ∨ (v.ownBlock = some n ∧ n < n')
theorem Wo.run_append_fresh {P : Program} (w : World) (t ty : TypeId) (i : TypeInfo) (z : Value) (ht : P.underlying t = some (.slice 5)) (hi : P.info? 5 = some i) (hz : i.zero = some z)
    (hsize : i.size = 1) (hby : i.bytes = 1) (hzs : z.cells.size = 1) (b : Nat) (hb : w.heap[b]? = some (.cells #[] 5 (0, 0))) (xv : Value) (d : ByteArray) (hin : By.In w xv d)
    (hbytes : d.size ≤ 140737488351232) :
    ∃ v' w', (Builtin.append_ #[t, t] ty #[.slice (some ⟨b, 0, none⟩) 0 0, xv]).run P w = .ok v' w' ∧ Wo.InU w' v' d ∧ Below w.heap.size w w' ∧ Wo.Lies b w.heap.size v' w'.heap.size := by
  rcases Nat.eq_zero_or_pos d.size with hd | hd
  · have hv0 : By.vals d = [] := List.length_eq_zero_iff.1 (by rw [By.vals_len, hd])
    refine ⟨.slice (some ⟨b, 0, none⟩) 0 0, w, ?_, Wo.InU.of_own (B := 0) ?_, Below.refl _ _, .inl rfl⟩
    · rcases hin with ⟨rfl, _⟩ | ⟨xa, xc, rfl, _⟩ | ⟨h0, _⟩
      · simp [Builtin.append_, run_underlying ht, sizeOf, typeInfo, hi, Builtin.lenOf, Builtin.firstCells, storeCells]
      · simp [Builtin.append_, run_underlying ht, sizeOf, typeInfo, hi, Builtin.lenOf, Builtin.firstCells, loadCells, loadCellsFrom, storeCells]
      · omega
    · rw [hd, hv0]
      exact ⟨rfl, .inr ⟨b, 0, #[], rfl, Nat.zero_le _, hb, Nat.le_refl _, Nat.zero_le _, rfl, rfl⟩⟩
  · obtain ⟨xa, xc, rfl⟩ := hin.slice
    have hxa : ∃ a, xa = some a ∧ ∀ j u, (By.vals d)[j]? = some u → w.cell? (a.add j) = some u := by
      rcases hin with ⟨_, h⟩ | ⟨_, _, _, h⟩ | ⟨h0, b, off, c, h1, h2, h3, hc⟩
      · omega
      · omega
      · simp only [Value.slice.injEq] at h1
        refine ⟨_, h1.1, fun j u hj => ?_⟩
        have hj2 : j < d.size := by have := (List.getElem?_eq_some_iff.1 hj).1; rw [By.vals_len] at this; exact this
        rw [By.vals_at d j hj2] at hj
        cases hj
        rw [Sl.addr_add]
        exact hc j hj2
    obtain ⟨a, rfl, hnews⟩ := hxa
    have hr := run_append_grow (P := P) w t ty 5 i z ht hi hz ⟨b, 0, none⟩ 0 0 [] (by simp) (by simp) a d.size xc (By.vals d) (by rw [By.vals_len, hsize, Nat.mul_one]) hnews (by omega) (by omega) (by rw [hby]; exact growslice_fits (by omega) (by omega))
    have hge := grownCap_ge w (0 + d.size) 0 5
    have hcm : grownCap w (0 + d.size) 0 5 ≤ maxLen := grownCap_le_maxLen w (0 + d.size) 0 5 (by unfold maxLen; omega)
    refine ⟨_, _, hr, Wo.InU.of_own (B := 0) ⟨by rw [By.vals_len, Nat.mul_one], .inr ⟨w.heap.size, _, _, by rw [Nat.zero_add], Nat.zero_le _, heap_alloc_new w.drew _, by simpa using hge, hcm, ?_, ?_⟩⟩, ((Below.refl _ _).drew).alloc (Nat.le_refl _) _, .inr ⟨rfl, by simp⟩⟩
    · simp only [Array.size_append, List.size_toArray, size_zeroCells, hzs, By.vals_len, List.length_nil]
      omega
    · simp only [Array.toList_append, List.nil_append]
      have e : d.size * 1 = (By.vals d).length := by rw [By.vals_len, Nat.mul_one]
      rw [e]
      exact List.take_left
section
variable {P : Program} {w : World} {ops : Array Oper} {rest : List Oper} {o : Oper} {a : Act} {Q : Exit → Act → World → Prop}
theorem Wo.wp_append_fresh {K : Act → World → Prop} (s x : Operand) (t : TypeId)
    (ho : o.op = .call { callee := .builtin .append, args := #[s, x], argTypes := #[t, t] })
    (i : TypeInfo) (z : Value) (ht : P.underlying t = some (.slice 5)) (hi : P.info? 5 = some i) (hz : i.zero = some z)
    (hsize : i.size = 1) (hby : i.bytes = 1) (hzs : z.cells.size = 1)
    (b : Nat) (hs : a.eval s = .slice (some ⟨b, 0, none⟩) 0 0) (hb : w.heap[b]? = some (.cells #[] 5 (0, 0))) (xv : Value) (d : ByteArray) (hx : a.eval x = xv) (hin : By.In w xv d)
    (hbytes : d.size ≤ 140737488351232)
    (h : ∀ v' w', Wo.InU w' v' d → Below w.heap.size w w' → Wo.Lies b w.heap.size v' w'.heap.size → K (a.put o.dst v') w') : o.wp P a w K Q := by
  obtain ⟨v', w', hr, h2, h3, h4⟩ := Wo.run_append_fresh (P := P) w t o.type i z ht hi hz hsize hby hzs b hb xv d hin hbytes
  unfold Oper.wp execOp
  simp only [ho, resolve, invoke, builtin, Sem.run_bind, Sem.run_pure, Result.andThen_ok, List.map_toArray, List.map_cons, List.map_nil, hs, hx, hr]
  exact h v' w' h2 h3 h4
theorem Wo.wpList_append_fresh (hgd : o.guard = none) (s x : Operand) (t : TypeId)
    (ho : o.op = .call { callee := .builtin .append, args := #[s, x], argTypes := #[t, t] })
    (i : TypeInfo) (z : Value) (ht : P.underlying t = some (.slice 5)) (hi : P.info? 5 = some i) (hz : i.zero = some z)
    (hsize : i.size = 1) (hby : i.bytes = 1) (hzs : z.cells.size = 1)
    (b : Nat) (hs : a.eval s = .slice (some ⟨b, 0, none⟩) 0 0) (hb : w.heap[b]? = some (.cells #[] 5 (0, 0))) (xv : Value) (d : ByteArray) (hx : a.eval x = xv) (hin : By.In w xv d)
    (hbytes : d.size ≤ 140737488351232)
    (h : ∀ v' w', Wo.InU w' v' d → Below w.heap.size w w' → Wo.Lies b w.heap.size v' w'.heap.size → wpList P ops Q rest (a.put o.dst v') w') : wpList P ops Q (o :: rest) a w :=
  wpList_plain hgd fun _ hK => Wo.wp_append_fresh s x t ho i z ht hi hz hsize hby hzs b hs hb xv d hx hin hbytes fun v' w' h2 h3 h4 => hK _ _ (h v' w' h2 h3 h4)
theorem Wo.step_append_fresh {K : Act → World → Prop} {E : Prop} (hgd : o.guard = none) (s x : Operand) (t : TypeId)
    (ho : o.op = .call { callee := .builtin .append, args := #[s, x], argTypes := #[t, t] })
    (i : TypeInfo) (z : Value) (ht : P.underlying t = some (.slice 5)) (hi : P.info? 5 = some i) (hz : i.zero = some z)
    (hsize : i.size = 1) (hby : i.bytes = 1) (hzs : z.cells.size = 1)
    (b : Nat) (hs : a.eval s = .slice (some ⟨b, 0, none⟩) 0 0) (hb : w.heap[b]? = some (.cells #[] 5 (0, 0))) (xv : Value) (d : ByteArray) (hx : a.eval x = xv) (hin : By.In w xv d)
    (hbytes : d.size ≤ 140737488351232)
    (h : ∀ v' w', Wo.InU w' v' d → Below w.heap.size w w' → Wo.Lies b w.heap.size v' w'.heap.size → K (a.put o.dst v') w') :
    if Region.wanted o (yielded ops a.tmps) = true then Oper.wp P o a w K Q else E := by
  have hw : Region.wanted o (yielded ops a.tmps) = true := by simp [Region.wanted, hgd]
  rw [if_pos hw]
  exact Wo.wp_append_fresh s x t ho i z ht hi hz hsize hby hzs b hs hb xv d hx hin hbytes h
end
theorem Wo.new_at (w : World) (o : Obj) (b : Nat) (h : b = w.heap.size) : (w.alloc o).heap[b]? = some o := h ▸ heap_alloc_new w o
theorem Wo.old_at {w : World} {b : Nat} {x : Obj} (h : w.heap[b]? = some x) (o : Obj) : (w.alloc o).heap[b]? = some x := (Lib.alloc_old _ _ _ (Array.getElem?_eq_some_iff.1 h).1).trans h
theorem Wo.below_at {w w' : World} {b B : Nat} {x : Obj} (h : w.heap[b]? = some x) (hb : Below B w w') (hB : w.heap.size ≤ B) : w'.heap[b]? = some x := (hb.block b (Nat.lt_of_lt_of_le (Array.getElem?_eq_some_iff.1 h).1 hB)).trans h
end Go.Proofs.Ytdikkknjdbchbaa
