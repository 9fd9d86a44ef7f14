/-
  The plain law of pairs: of each character its capital and its small letter, in plain Lean. No conditions.
-/
import Derived.Test.YtnkbeaeopcemjaaChPlain
namespace Go.Proofs.Ytnkbeaeopcemjaa.Ch

/-- What the law says of r, as one Bool. -/
def pairsB (r : Int) : Bool :=
  (upZ r == r || downZ r == r) &&
  (upZ r == r || r == 962 || r == 383 || downZ (upZ r) == r) && (downZ r == r || upZ (downZ r) == r) &&
  upZ (upZ r) == upZ r && downZ (downZ r) == downZ r &&
  ((upZ r == r && downZ r == r) || (letterB r && letterB (upZ r) && letterB (downZ r)))
theorem pairs_tab : ∀ n : Fin 1300, pairsB (n.val : Int) = true := by decide +kernel
theorem up_out {r : Int} (h : r < 0 ∨ 1300 ≤ r) : upZ r = r := by
  have h2 := pairZ_out h
  unfold upZ
  rw [if_neg (by omega), if_neg (by omega), if_neg (by omega), h2]
theorem down_out {r : Int} (h : r < 0 ∨ 1300 ≤ r) : downZ r = r := by
  have h2 := pairZ_out h
  unfold downZ
  rw [if_neg (by omega), h2]
theorem pairs_all (r : Int) : pairsB r = true := by
  by_cases hr : r < 0 ∨ 1300 ≤ r
  · unfold pairsB
    rw [up_out hr, down_out hr, up_out hr, down_out hr]
    simp
  · obtain ⟨n, rfl⟩ := Int.eq_ofNat_of_zero_le (a := r) (by omega)
    exact pairs_tab ⟨n, by omega⟩

theorem pairs_parts (r : Int) : (upZ r = r ∧ downZ r = r) ∨
    (upZ r ≠ r ∧ downZ r = r ∧ (r = 962 ∨ r = 383 ∨ downZ (upZ r) = r) ∧ upZ (upZ r) = upZ r ∧ letterB r = true ∧ letterB (upZ r) = true) ∨
    (upZ r = r ∧ downZ r ≠ r ∧ upZ (downZ r) = r ∧ downZ (downZ r) = downZ r ∧ letterB r = true ∧ letterB (downZ r) = true) := by
  have h := pairs_all r
  unfold pairsB at h
  simp only [Bool.and_eq_true, Bool.or_eq_true, beq_iff_eq] at h
  obtain ⟨⟨⟨⟨⟨h1, h2⟩, h3⟩, h4⟩, h5⟩, h6⟩ := h
  by_cases hu : upZ r = r
  · by_cases hd : downZ r = r
    · exact .inl ⟨hu, hd⟩
    · refine .inr (.inr ⟨hu, hd, ?_, h5, ?_, ?_⟩)
      · exact h3.resolve_left hd
      · rcases h6 with h6 | h6
        · exact absurd h6.2 hd
        · exact h6.1.1
      · rcases h6 with h6 | h6
        · exact absurd h6.2 hd
        · exact h6.2
  · have hd : downZ r = r := h1.resolve_left hu
    refine .inr (.inl ⟨hu, hd, ?_, h4, ?_, ?_⟩)
    · rcases h2 with ((h2 | h2) | h2) | h2
      · exact absurd h2 hu
      · exact .inl h2
      · exact .inr (.inl h2)
      · exact .inr (.inr h2)
    · rcases h6 with h6 | h6
      · exact absurd h6.1 hu
      · exact h6.1.1
    · rcases h6 with h6 | h6
      · exact absurd h6.1 hu
      · exact h6.1.2
end Go.Proofs.Ytnkbeaeopcemjaa.Ch
