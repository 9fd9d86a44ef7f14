/-
  slices.Insert and slices.Delete over files that the call owns.
-/
import Derived.Test.YtdikkknjdbchbaaWoDel
namespace Go.Proofs.Ytdikkknjdbchbaa
open Go.RowKit Go.Shelf Go.Lib
set_option linter.unusedVariables false

theorem Wo.cellsG_take (g : List (Wo.F × Value)) : ∀ k, (Wo.cellsG g).take (k * 2) = Wo.cellsG (g.take k) := by
  induction g with
  | nil => intro k; simp [Wo.cellsG]
  | cons x g ih =>
    intro k
    rcases k with _ | k
    · simp [Wo.cellsG]
    · rw [show Wo.cellsG (x :: g) = .string x.1.1 :: x.2 :: Wo.cellsG g from rfl, show (k + 1) * 2 = k * 2 + 1 + 1 by omega, List.take_succ_cons, List.take_succ_cons, ih k]
      rfl
theorem Wo.cellsG_drop (g : List (Wo.F × Value)) : ∀ k, (Wo.cellsG g).drop (k * 2) = Wo.cellsG (g.drop k) := by
  induction g with
  | nil => intro k; simp [Wo.cellsG]
  | cons x g ih =>
    intro k
    rcases k with _ | k
    · simp [Wo.cellsG]
    · rw [show Wo.cellsG (x :: g) = .string x.1.1 :: x.2 :: Wo.cellsG g from rfl, show (k + 1) * 2 = k * 2 + 1 + 1 by omega, List.drop_succ_cons, List.drop_succ_cons, ih k]
      rfl
theorem Wo.InU.one {w : World} {v : Value} {s : ByteArray} (h : Wo.InU w v s) : v.oneCell' = true := by
  obtain ⟨ad, cap, rfl⟩ := h.1.slice
  rfl
theorem Wo.Own.one {w : World} {B : Nat} {v : Value} {g : List (Wo.F × Value)} (h : Wo.Own w B v g) : ∀ u ∈ Wo.cellsG g, u.oneCell' = true := by
  intro u hu
  simp only [Wo.cellsG, List.mem_flatMap] at hu
  obtain ⟨x, hx, hu⟩ := hu
  simp only [List.mem_cons, List.not_mem_nil, or_false] at hu
  rcases hu with rfl | rfl
  · rfl
  · exact (h.2 x hx).one
/-- Other files in the place of those that the call owns. -/
theorem Wo.Own.change {w w9 : World} {B : Nat} {v v9 : Value} {g g' : List (Wo.F × Value)} (h : Wo.Own w B v g) (hd : ∀ x ∈ g', Wo.InU w x.2 x.1.2)
    (hown : w9.ownsRow B 53 2 v9 g'.length (Wo.cellsG g')) (hg : w.grownBy w9 v.ownBlock) :
    Wo.Own w9 B v9 g' ∧ (∀ (T : Nat) (C : Array Value) (t : TypeId), t ≠ 53 → w.heap[T]? = some (.cells C t (0, 0)) → w9.heap[T]? = some (.cells C t (0, 0))) ∧ ∀ u s, Wo.InU w u s → Wo.InU w9 u s := by
  have hin : ∀ u s, Wo.InU w u s → Wo.InU w9 u s := fun u s hu => hu.grown (by decide) h.1 hg
  refine ⟨⟨hown, fun x hx => hin _ _ (hd x hx)⟩, ?_, hin⟩
  intro T C t ht hT
  have hlt := (Array.getElem?_eq_some_iff.1 hT).1
  refine (hg.block T hlt ?_).trans hT
  rcases h.1.2 with ⟨hv, _⟩ | ⟨b, cap, cur, hv, hB, hb, _⟩
  · subst hv; simp [Value.ownBlock]
  · subst hv
    simp only [Value.ownBlock, ne_eq, Option.some.injEq]
    intro e
    subst e
    rw [hb] at hT
    simp only [Option.some.injEq, Obj.cells.injEq] at hT
    exact ht hT.2.1.symm

theorem Wo.insert_any (B : Nat) (g : List (Wo.F × Value)) (k : Nat) (f : Wo.F) (vd v : Value) (vb : Nat) (w : World) (h : Wo.Own w B v g) (hk : k ≤ g.length) (hn : g.length ≤ 64) (hB : B ≤ w.heap.size)
    (hvb : w.heap[vb]? = some (.cells #[.string f.1, vd] 53 (0, 0))) (hne : some vb ≠ v.ownBlock) (hd : Wo.InU w vd f.2) :
    Calls Try.prog 27 #[v, .int .i64 k, .slice (some ⟨vb, 0, none⟩) 1 1] w fun e w' =>
      ∃ v', e = .returned v' ∧ w'.ownsRow B 53 2 v' (g.take k ++ [(f, vd)] ++ g.drop k).length (Wo.cellsG (g.take k ++ [(f, vd)] ++ g.drop k)) ∧ w.grownBy w' v.ownBlock := by
  have h1v : ∀ u ∈ [Value.string f.1, vd], u.oneCell' = true := by
    intro u hu
    simp only [List.mem_cons, List.not_mem_nil, or_false] at hu
    rcases hu with rfl | rfl
    · rfl
    · exact hd.one
  have hlen : (g.take k ++ [(f, vd)] ++ g.drop k).length = g.length + 1 := by simp; omega
  have hcells : Wo.cellsG (g.take k ++ [(f, vd)] ++ g.drop k) = (Wo.cellsG g).take (k * 2) ++ [.string f.1, vd] ++ (Wo.cellsG g).drop (k * 2) := by
    rw [Wo.cellsG_append, Wo.cellsG_append, Wo.cellsG_take, Wo.cellsG_drop]
    rfl
  rw [hlen, hcells]
  have hlc := Wo.cellsG_len g
  rcases Nat.lt_or_ge k g.length with hlt | hge
  · rcases h.1.2 with ⟨hv, h0⟩ | ⟨b, cap, cur, rfl, hBb, hb, hc1, hc2, hc3, htk⟩
    · omega
    · have hvb' : vb ≠ b := fun e => hne (by rw [e]; rfl)
      have hone : ∀ u ∈ cur.toList.take (g.length * 2), u.oneCell' = true := by rw [htk]; exact h.one
      rcases Nat.lt_or_ge g.length cap with hr | hr
      · refine (Wo.insert_shift b g.length cap k vb cur _ _ w hlt (by omega) hc2 hb hc3 hvb hvb' hone h1v).mono ?_
        rintro e w' ⟨rfl, rfl⟩
        refine ⟨_, rfl, ⟨by simp only [List.length_append, List.length_take, List.length_drop, List.length_cons, List.length_nil, hlc]; omega, .inr ⟨b, cap, _, rfl, hBb, setRow_heap w.drew b cur _ _ _ hb, by omega, hc2, ?_, ?_⟩⟩, rfl, rfl, rfl, by simp, fun q hq hne2 => ?_⟩
        · have hds : ((cur.toList.take (g.length * 2)).drop (k * 2)).length = (g.length - k) * 2 := by
            simp only [List.length_drop, List.length_take, Array.length_toList]; omega
          have l1 := Wo.over_len cur.toList ((k + 1) * 2) ((cur.toList.take (g.length * 2)).drop (k * 2)) (by rw [hds]; simp only [Array.length_toList]; omega)
          rw [List.size_toArray, Wo.over_len _ _ _ (by rw [l1]; simp; omega), l1]
          simpa using hc3
        · have := Wo.shift_eq cur.toList g.length k [.string f.1, vd] rfl (by omega) (by simp; omega)
          rw [htk] at this
          simpa [htk] using this
        · have hqb : q ≠ b := fun e => hne2 (by rw [e]; rfl)
          rw [setRow_other _ b q _ hqb]
          rfl
      · obtain rfl : cap = g.length := by omega
        have hcs : ∀ j u, (Wo.cellsG g)[j]? = some u → w.cell? ⟨b, j, none⟩ = some u := fun j u hj => by
          have := h.1.cells (g := b) rfl j u hj
          simpa [Sl.addr_add] using this
        exact Wo.insert_grow b g.length k vb B (Wo.cellsG g) _ _ w hlt hn hB hlc hcs hvb h.one h1v
  · obtain rfl : k = g.length := by omega
    have e1 : (Wo.cellsG g).take (g.length * 2) = Wo.cellsG g := List.take_of_length_le (by omega)
    have e2 : (Wo.cellsG g).drop (g.length * 2) = [] := List.drop_eq_nil_of_le (by omega)
    rw [e1, e2, List.append_nil]
    exact Wo.insert_end B g.length vb v (Wo.cellsG g) _ _ w h.1 hn hB hvb h1v

theorem Wo.delete_any (B : Nat) (g : List (Wo.F × Value)) (k : Nat) (v : Value) (w : World) (h : Wo.Own w B v g) (hk : k < g.length) :
    Calls Try.prog 28 #[v, .int .i64 k, .int .i64 ((k : Int) + 1)] w fun e w' =>
      ∃ v', e = .returned v' ∧ w'.ownsRow B 53 2 v' (g.take k ++ g.drop (k + 1)).length (Wo.cellsG (g.take k ++ g.drop (k + 1))) ∧ w.grownBy w' v.ownBlock := by
  obtain ⟨m, hm⟩ : ∃ m, g.length = k + 1 + m := ⟨g.length - (k + 1), by omega⟩
  have hlen : (g.take k ++ g.drop (k + 1)).length = k + m := by simp; omega
  have hcells : Wo.cellsG (g.take k ++ g.drop (k + 1)) = (Wo.cellsG g).take (k * 2) ++ (Wo.cellsG g).drop ((k + 1) * 2) := by
    rw [Wo.cellsG_append, Wo.cellsG_take, Wo.cellsG_drop]
  rw [hlen, hcells]
  rcases h.1.2 with ⟨hv, h0⟩ | ⟨b, cap, cur, rfl, hBb, hb, hc1, hc2, hc3, htk⟩
  · omega
  · have hone : ∀ u ∈ cur.toList.take ((k + 1 + m) * 2), u.oneCell' = true := by rw [← hm, htk]; exact h.one
    have := Wo.delete_row B b cap k m cur w hBb (by omega) hc2 hb hc3 hone
    rw [← hm, htk] at this
    exact this
end Go.Proofs.Ytdikkknjdbchbaa
