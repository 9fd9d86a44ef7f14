/-
  An argument that is a slice of slices of bytes, opened.
-/
import Derived.Test.YtdikkknjdbchbaaBy
import Derived.ChangeArms
import Derived.ChangeSlices
namespace Go.Proofs.Ytdikkknjdbchbaa
open Go.RowKit
set_option linter.unusedVariables false

/-- Rows of bytes behind each other in memory. -/
def Wf.Rows (w : World) (v : Value) (ds : List ByteArray) : Prop := ∃ ad cap, v = .slice ad ds.length cap ∧ (0 < ds.length → ∃ b off, ad = some ⟨b, off, none⟩ ∧ ds.length ≤ cap ∧ b < w.heap.size ∧ ∀ k, k < ds.length → ∃ dv, w.cell? ⟨b, off + k, none⟩ = some dv ∧ By.In w dv (ds.getD k ⟨#[]⟩))
theorem Wf.Rows.below {w w' : World} {v : Value} {ds : List ByteArray} {B : Nat} (h : Wf.Rows w v ds) (hb : Below B w w') (hB : w.heap.size ≤ B) : Wf.Rows w' v ds := by
  obtain ⟨ad, cap, hv, h1⟩ := h
  refine ⟨ad, cap, hv, fun h0 => ?_⟩
  obtain ⟨b, off, h3, h4, h5, hc⟩ := h1 h0
  refine ⟨b, off, h3, h4, by have := hb.size; omega, fun k hk => ?_⟩
  obtain ⟨dv, c0, hi⟩ := hc k hk
  exact ⟨dv, (hb.cell (p := ⟨b, off + k, none⟩) (by show b < B; omega)).trans c0, hi.below hb hB⟩
theorem Wf.Rows.open {H : Type} {enc : TypeId × Value → H} {P : Program} {w : World} {base : Nat} {spare : Nat → Bool} {held : Bool} {t e q : TypeId} {v : Value} {d : DataW H} {ps : List MemPlace}
    (ht : P.underlying t = some (.slice e)) (he : P.underlying e = some (.slice q)) (hq : P.underlying q = some (.int .u8)) (hce : P.cellsOf e = 1) (hcq : P.cellsOf q = 1)
    (hv : ∃ a len cap, v = .slice a len cap) (hj : DataW.Trod enc P w base spare held t v d ps) : ∃ ds, Wf.Rows w v ds := by
  obtain ⟨a0, len, cap, rfl⟩ := hv
  obtain ⟨fuel, hf⟩ := hj
  rcases DataW.trod_slice ht hf with ⟨hcs, _⟩ | ⟨a, len', cap', elems, rest, n, _, hcs, hx, hb, hl, hm, hlen, hel, _, _⟩
  · have hva : (Value.slice a0 len cap) = .slice none 0 0 := by simpa [Value.cells] using hcs
    rw [hva]
    exact ⟨[], none, 0, rfl, fun h => by simp at h⟩
  · have hva : (Value.slice a0 len cap) = .slice (some a) len' cap' := by simpa [Value.cells] using hcs
    have each : ∀ i, i < len' → ∃ s v, w.cell? (a.add i) = some v ∧ By.In w v s := by
      intro i hi
      have h1 := hel i hi
      have hy : elems[i]? = some elems[i] := List.getElem?_eq_getElem (by omega)
      rw [hy, hce, Nat.mul_one, Option.bind_eq_some_iff] at h1
      obtain ⟨cs', hcs', hy'⟩ := h1
      rcases DataW.trod_slice he hy' with ⟨rfl, _⟩ | ⟨a1, l1, c1, _, _, _, _, rfl, _⟩
      · have hc := Go.ChangeShapes.cell_of_cells?_one hcs'
        exact ⟨⟨#[]⟩, _, hc, .inl ⟨rfl, rfl⟩⟩
      · have hc := Go.ChangeShapes.cell_of_cells?_one hcs'
        obtain ⟨s, hs, _⟩ := By.In.open (enc := enc) (base := base) (spare := spare) (held := held) he hq hcq ⟨_, _, _, rfl⟩ ⟨_, hy'⟩
        exact ⟨s, _, hc, hs⟩
    rcases Nat.eq_zero_or_pos len' with h0 | h0
    · rw [hva, h0]
      exact ⟨[], some a, cap', rfl, fun h => by simp at h⟩
    · obtain ⟨b, off, spot⟩ := a
      obtain ⟨_, v0, hc0, _⟩ := each 0 h0
      have hspot : spot = none := by simpa [Addr.add] using World.cell?_spot hc0
      subst hspot
      have hch : ∀ i : Nat, ∃ s : ByteArray, i < len' → ∃ v, w.cell? ⟨b, off + i, none⟩ = some v ∧ By.In w v s := fun i => by
        by_cases hi : i < len'
        · obtain ⟨s, v, hc, hin⟩ := each i hi
          exact ⟨s, fun _ => ⟨v, by rw [← Go.WideShapes.add_plain]; exact hc, hin⟩⟩
        · exact ⟨⟨#[]⟩, fun h => absurd h hi⟩
      have hbl : b < w.heap.size := by
        have h1 := hc0
        rcases Nat.lt_or_ge b w.heap.size with h | h
        · exact h
        · simp [World.cell?, Addr.add, Array.getElem?_eq_none h] at h1
      refine ⟨(List.range len').map fun i => (hch i).choose, some ⟨b, off, none⟩, cap', ?_, fun _ => ⟨b, off, rfl, ?_, hbl, fun k hk => ?_⟩⟩
      · rw [hva]; simp
      · simpa using hl
      · have hk' : k < len' := by simpa using hk
        obtain ⟨dv, c, hi⟩ := (hch k).choose_spec hk'
        refine ⟨dv, c, ?_⟩
        have : ((List.range len').map fun i => (hch i).choose).getD k ⟨#[]⟩ = (hch k).choose := by simp [List.getD_eq_getElem?_getD, hk']
        rw [this]
        exact hi
end Go.Proofs.Ytdikkknjdbchbaa
