/-
  Stores of two and of three cells into a box; appends at steps of regions that draw.
-/
import Derived.Test.YtdikkknjdbchbaaWoClone
import Derived.Deep.RegionHeld3
namespace Go.Proofs.Ytdikkknjdbchbaa
open Go.RowKit
set_option linter.unusedVariables false
theorem Dt.cell_of {w : World} {b : Nat} {C : Array Value} {t : TypeId} (h : w.heap[b]? = some (.cells C t (0, 0))) (k : Nat) : w.cell? ⟨b, k, none⟩ = C[k]? := by
  simp [World.cell?, h]
theorem Dt.setCells {w : World} {b : Nat} {C : Array Value} {t : TypeId} (h : w.heap[b]? = some (.cells C t (0, 0))) (k : Nat) (u : Value) : (w.setCell ⟨b, k, none⟩ u).heap[b]? = some (.cells (C.set! k u) t (0, 0)) := by
  obtain ⟨hlt, hk⟩ := Array.getElem?_eq_some_iff.1 h
  show (w.heap.modify b _)[b]? = _
  rw [Array.getElem?_eq_getElem (by rw [Array.size_modify]; exact hlt), Array.getElem_modify_self, hk]
  rfl
theorem Dt.frozen_of {w : World} {b : Nat} {C : Array Value} {t : TypeId} (h : w.heap[b]? = some (.cells C t (0, 0))) (k : Nat) : w.frozen? ⟨b, k, none⟩ = false := by
  simp [World.frozen?, h]
theorem Dt.below_set {w0 w : World} {B : Nat} (h : Below B w0 w) (b k : Nat) (u : Value) (hb : B ≤ b) : Below B w0 (w.setCell ⟨b, k, none⟩ u) := by
  exact h.setCell hb _
theorem Dt.store3 {w : World} {b : Nat} {v0 v1 v2 : Value} {t : TypeId} (h : w.heap[b]? = some (.cells #[v0, v1, v2] t (0, 0))) (u0 u1 u2 : Value) :
    w.cell? ⟨b, 0, none⟩ = some v0 ∧
    w.frozen? ⟨b, 0, none⟩ = false ∧
    (w.setCell ⟨b, 0, none⟩ u0).cell? ⟨b, 1, none⟩ = some v1 ∧
    (w.setCell ⟨b, 0, none⟩ u0).frozen? ⟨b, 1, none⟩ = false ∧
    ((w.setCell ⟨b, 0, none⟩ u0).setCell ⟨b, 1, none⟩ u1).cell? ⟨b, 2, none⟩ = some v2 ∧
    ((w.setCell ⟨b, 0, none⟩ u0).setCell ⟨b, 1, none⟩ u1).frozen? ⟨b, 2, none⟩ = false ∧
    (((w.setCell ⟨b, 0, none⟩ u0).setCell ⟨b, 1, none⟩ u1).setCell ⟨b, 2, none⟩ u2).heap[b]? = some (.cells #[u0, u1, u2] t (0, 0)) := by
  have h0 := h
  have h1 : (w.setCell ⟨b, 0, none⟩ u0).heap[b]? = some (.cells #[u0, v1, v2] t (0, 0)) := Dt.setCells h0 0 u0
  have h2 : ((w.setCell ⟨b, 0, none⟩ u0).setCell ⟨b, 1, none⟩ u1).heap[b]? = some (.cells #[u0, u1, v2] t (0, 0)) := Dt.setCells h1 1 u1
  have h3 : (((w.setCell ⟨b, 0, none⟩ u0).setCell ⟨b, 1, none⟩ u1).setCell ⟨b, 2, none⟩ u2).heap[b]? = some (.cells #[u0, u1, u2] t (0, 0)) := Dt.setCells h2 2 u2
  exact ⟨Dt.cell_of h0 0, Dt.frozen_of h0 0, Dt.cell_of h1 1, Dt.frozen_of h1 1, Dt.cell_of h2 2, Dt.frozen_of h2 2, h3⟩
theorem Dt.below_store3 {w0 w : World} {B b : Nat} (h : Below B w0 w) (hb : B ≤ b) (u0 u1 u2 : Value) : Below B w0 (((w.setCell ⟨b, 0, none⟩ u0).setCell ⟨b, 1, none⟩ u1).setCell ⟨b, 2, none⟩ u2) := by
  have h0 := h
  have h1 := Dt.below_set h0 b 0 u0 hb
  have h2 := Dt.below_set h1 b 1 u1 hb
  have h3 := Dt.below_set h2 b 2 u2 hb
  exact h3
theorem Dt.put3 {w : World} {b : Nat} {v0 v1 v2 : Value} {t : TypeId} (h : w.heap[b]? = some (.cells #[v0, v1, v2] t (0, 0))) (u0 u1 u2 : Value) :
    ∃ W1 W2 W3 : World,
    (w.cell? ⟨b, 0, none⟩ = some v0 ∧ w.frozen? ⟨b, 0, none⟩ = false ∧ w.setCell ⟨b, 0, none⟩ u0 = W1 ∧ W1.heap.size = w.heap.size) ∧
    (W1.cell? ⟨b, 1, none⟩ = some v1 ∧ W1.frozen? ⟨b, 1, none⟩ = false ∧ W1.setCell ⟨b, 1, none⟩ u1 = W2 ∧ W2.heap.size = w.heap.size) ∧
    (W2.cell? ⟨b, 2, none⟩ = some v2 ∧ W2.frozen? ⟨b, 2, none⟩ = false ∧ W2.setCell ⟨b, 2, none⟩ u2 = W3 ∧ W3.heap.size = w.heap.size) ∧
    W3.heap[b]? = some (.cells #[u0, u1, u2] t (0, 0)) ∧
    W3.heap.size = w.heap.size ∧
    (∀ q, q ≠ b → W3.heap[q]? = w.heap[q]?) ∧
    (∀ (B : Nat) (w0 : World), Below B w0 w → B ≤ b → Below B w0 W3) := by
  obtain ⟨f0, z0, f1, z1, f2, z2, g⟩ := Dt.store3 h u0 u1 u2
  refine ⟨_, _, _, ⟨f0, z0, rfl, by simp⟩, ⟨f1, z1, rfl, by simp⟩, ⟨f2, z2, rfl, by simp⟩, g, by simp, ?_, fun B w0 h0 hb => Dt.below_store3 h0 hb u0 u1 u2⟩
  intro q hq
  rw [Below.heap_setCell _ ⟨b, 2, none⟩ _ q hq]
  rw [Below.heap_setCell _ ⟨b, 1, none⟩ _ q hq]
  rw [Below.heap_setCell _ ⟨b, 0, none⟩ _ q hq]
theorem Dt.store2 {w : World} {b : Nat} {v0 v1 : Value} {t : TypeId} (h : w.heap[b]? = some (.cells #[v0, v1] t (0, 0))) (u0 u1 : Value) :
    w.cell? ⟨b, 0, none⟩ = some v0 ∧
    w.frozen? ⟨b, 0, none⟩ = false ∧
    (w.setCell ⟨b, 0, none⟩ u0).cell? ⟨b, 1, none⟩ = some v1 ∧
    (w.setCell ⟨b, 0, none⟩ u0).frozen? ⟨b, 1, none⟩ = false ∧
    ((w.setCell ⟨b, 0, none⟩ u0).setCell ⟨b, 1, none⟩ u1).heap[b]? = some (.cells #[u0, u1] t (0, 0)) := by
  have h0 := h
  have h1 : (w.setCell ⟨b, 0, none⟩ u0).heap[b]? = some (.cells #[u0, v1] t (0, 0)) := Dt.setCells h0 0 u0
  have h2 : ((w.setCell ⟨b, 0, none⟩ u0).setCell ⟨b, 1, none⟩ u1).heap[b]? = some (.cells #[u0, u1] t (0, 0)) := Dt.setCells h1 1 u1
  exact ⟨Dt.cell_of h0 0, Dt.frozen_of h0 0, Dt.cell_of h1 1, Dt.frozen_of h1 1, h2⟩
theorem Dt.below_store2 {w0 w : World} {B b : Nat} (h : Below B w0 w) (hb : B ≤ b) (u0 u1 : Value) : Below B w0 ((w.setCell ⟨b, 0, none⟩ u0).setCell ⟨b, 1, none⟩ u1) := by
  have h0 := h
  have h1 := Dt.below_set h0 b 0 u0 hb
  have h2 := Dt.below_set h1 b 1 u1 hb
  exact h2
theorem Dt.put2 {w : World} {b : Nat} {v0 v1 : Value} {t : TypeId} (h : w.heap[b]? = some (.cells #[v0, v1] t (0, 0))) (u0 u1 : Value) :
    ∃ W1 W2 : World,
    (w.cell? ⟨b, 0, none⟩ = some v0 ∧ w.frozen? ⟨b, 0, none⟩ = false ∧ w.setCell ⟨b, 0, none⟩ u0 = W1 ∧ W1.heap.size = w.heap.size) ∧
    (W1.cell? ⟨b, 1, none⟩ = some v1 ∧ W1.frozen? ⟨b, 1, none⟩ = false ∧ W1.setCell ⟨b, 1, none⟩ u1 = W2 ∧ W2.heap.size = w.heap.size) ∧
    W2.heap[b]? = some (.cells #[u0, u1] t (0, 0)) ∧
    W2.heap.size = w.heap.size ∧
    (∀ q, q ≠ b → W2.heap[q]? = w.heap[q]?) ∧
    (∀ (B : Nat) (w0 : World), Below B w0 w → B ≤ b → Below B w0 W2) := by
  obtain ⟨f0, z0, f1, z1, g⟩ := Dt.store2 h u0 u1
  refine ⟨_, _, ⟨f0, z0, rfl, by simp⟩, ⟨f1, z1, rfl, by simp⟩, g, by simp, ?_, fun B w0 h0 hb => Dt.below_store2 h0 hb u0 u1⟩
  intro q hq
  rw [Below.heap_setCell _ ⟨b, 1, none⟩ _ q hq]
  rw [Below.heap_setCell _ ⟨b, 0, none⟩ _ q hq]

theorem Dt.row_at {w : World} {b : Nat} {C : Array Value} {t : TypeId} (h : w.heap[b]? = some (.cells C t (0, 0))) : ∀ (j : Nat) (u : Value), C.toList[j]? = some u → w.cell? ((⟨b, 0, none⟩ : Addr).add j) = some u := by
  intro j u hu
  rw [Sl.addr_add, Nat.zero_add, Dt.cell_of h]
  simpa using hu
/-- An append at a step of a region that draws. -/
theorem Dt.step_append_own {P : Program} {w : World} {ops : Array Oper} {o : Oper} {a : Act} {Q : Exit → Act → World → Prop} {K : Act → World → Prop} {E : Prop} (hgd : o.guard = none) (s x : Operand) (t : TypeId)
    (ho : o.op = .call { callee := .builtin .append, args := #[s, x], argTypes := #[t, t] })
    (base : Nat) (e : TypeId) (i : TypeInfo) (z : Value) (size bytes : Nat) (ht : P.underlying t = some (.slice e)) (hi : P.info? e = some i) (hz : i.zero = some z)
    (hsize : i.size = size) (hby : i.bytes = bytes) (hzs : z.cells.size = size) (hsz : 0 < size)
    (v : Value) (n : Nat) (xs : List Value) (hs : a.eval s = v) (hown : w.ownsRow base e size v n xs)
    (ad : Addr) (m c : Nat) (news : List Value) (hx : a.eval x = .slice (some ad) m c) (hl : news.length = m * size) (hnews : ∀ j u, news[j]? = some u → w.cell? (ad.add j) = some u) (h1 : ∀ u ∈ news, u.oneCell' = true)
    (h63 : n + m ≤ maxLen) (hbytes : (n + m) * bytes ≤ 140737488355328) (hbase : base ≤ w.heap.size)
    (h : ∀ v' w', w'.ownsRow base e size v' (n + m) (xs ++ news) → w.grownBy w' v.ownBlock → (v' = .slice none 0 0 ↔ v = .slice none 0 0 ∧ m = 0) → K (a.put o.dst v') w') :
    if Region.wanted o (yielded ops a.tmps) = true then Oper.wp P o a w K Q else E := by
  have hw : Region.wanted o (yielded ops a.tmps) = true := by simp [Region.wanted, hgd]
  rw [if_pos hw]
  exact wp_append_own w s x t ho base e i z size bytes ht hi hz hsize hby hzs hsz v n xs hs hown ad m c news hx hl hnews h1 h63 hbytes hbase h

/-- One file more, behind those that the call owns: what is known of the world in which it has been appended. -/
theorem Wo.Own.grow {w w9 : World} {B : Nat} {v v9 vd : Value} {g : List (Wo.F × Value)} {f : Wo.F} (h : Wo.Own w B v g) (hd : Wo.InU w vd f.2)
    (hown : w9.ownsRow B 53 2 v9 (g.length + 1) (Wo.cellsG g ++ [.string f.1, vd])) (hg : w.grownBy w9 v.ownBlock) :
    Wo.Own w9 B v9 (g ++ [(f, vd)]) ∧ (∀ (T : Nat) (C : Array Value) (t : TypeId), t ≠ 53 → w.heap[T]? = some (.cells C t (0, 0)) → w9.heap[T]? = some (.cells C t (0, 0))) ∧ ∀ u s, Wo.InU w u s → Wo.InU w9 u s := by
  have hin : ∀ u s, Wo.InU w u s → Wo.InU w9 u s := fun u s hu => hu.grown (by decide) h.1 hg
  refine ⟨⟨?_, ?_⟩, ?_, hin⟩
  · rw [List.length_append, Wo.cellsG_append]
    exact hown
  · intro x hx
    rcases List.mem_append.1 hx with hx | hx
    · exact hin _ _ (h.2 x hx)
    · simp only [List.mem_singleton] at hx
      subst hx
      exact hin _ _ hd
  · intro T C t ht hT
    have hlt := (Array.getElem?_eq_some_iff.1 hT).1
    refine (hg.block T hlt ?_).trans hT
    rcases h.1.2 with ⟨hv, _⟩ | ⟨b, cap, cur, hv, hB, hb, _⟩
    · subst hv; simp [Value.ownBlock]
    · subst hv
      simp only [Value.ownBlock, ne_eq, Option.some.injEq]
      intro e
      subst e
      rw [hb] at hT
      simp only [Option.some.injEq, Obj.cells.injEq] at hT
      exact ht hT.2.1.symm
theorem Wo.InU.set {w : World} {v : Value} {s : ByteArray} {T k : Nat} {C : Array Value} {t : TypeId} (h : Wo.InU w v s) (ht : t ≠ 5) (hT : w.heap[T]? = some (.cells C t (0, 0))) (u : Value) : Wo.InU (w.setCell ⟨T, k, none⟩ u) v s :=
  h.kept ht hT (fun b hb _ => Below.heap_setCell w ⟨T, k, none⟩ u b hb) (by simp)
theorem Wo.Own.set {w : World} {B : Nat} {v : Value} {g : List (Wo.F × Value)} {T k : Nat} {C : Array Value} {t : TypeId} (h : Wo.Own w B v g) (ht : t ≠ 5) (ht2 : t ≠ 53) (hT : w.heap[T]? = some (.cells C t (0, 0))) (u : Value) : Wo.Own (w.setCell ⟨T, k, none⟩ u) B v g := by
  refine ⟨⟨h.1.1, ?_⟩, fun x hx => (h.2 x hx).set ht hT u⟩
  rcases h.1.2 with hv | ⟨b, cap, cur, hv, hB', hg, rest⟩
  · exact .inl hv
  · refine .inr ⟨b, cap, cur, hv, hB', (Below.heap_setCell w ⟨T, k, none⟩ u b ?_).trans hg, rest⟩
    intro e
    simp only at e
    subst e
    rw [hg] at hT
    simp only [Option.some.injEq, Obj.cells.injEq] at hT
    exact ht2 hT.2.1.symm
theorem Wo.Own.ne_new {w : World} {B : Nat} {v : Value} {g : List (Wo.F × Value)} (h : Wo.Own w B v g) : some w.heap.size ≠ v.ownBlock := by
  rcases h.1.2 with ⟨hv, _⟩ | ⟨b, cap, cur, hv, hB', hg, rest⟩
  · subst hv; simp [Value.ownBlock]
  · subst hv
    have := (Array.getElem?_eq_some_iff.1 hg).1
    simp [Value.ownBlock]
    omega
theorem Wo.Own.row_ge {w : World} {B : Nat} {v : Value} {g : List (Wo.F × Value)} (h : Wo.Own w B v g) : ∀ k, v.ownBlock = some k → B ≤ k := by
  intro k hk
  rcases h.1.2 with ⟨hv, _⟩ | ⟨b, cap, cur, hv, hB', hg, rest⟩
  · subst hv; simp [Value.ownBlock] at hk
  · subst hv
    simp [Value.ownBlock] at hk
    omega
end Go.Proofs.Ytdikkknjdbchbaa
