/-
  What Decode hands back is the text of good characters.
-/
import Derived.Test.YtdpbpkggbgfkgaaDoorPoPlain
namespace Go.Proofs.YtdpbpkggbgfkgaaDoor
open Go.RowKit
set_option linter.unusedVariables false

theorem Cd.endsI_len (xs : List Int) : ∀ n k, xs.length - k ≤ n → (Cd.endsI xs k).length ≤ xs.length - k := by
  intro n
  induction n with
  | zero => intro k h; rw [Cd.endsI_end xs k (by omega)]; simp
  | succ n ih =>
    intro k h
    by_cases hk : k < xs.length
    · by_cases h1 : xs.getD k 0 = 13
      · by_cases h2 : k + 1 < xs.length ∧ (xs.getD (k + 1) 0 = 10 ∨ xs.getD (k + 1) 0 = 133)
        · rw [Cd.endsI_two xs k hk _ _ rfl rfl h1 h2.1 h2.2, List.length_cons]
          have := ih (k + 1 + 1) (by omega)
          omega
        · rw [Cd.endsI_cr xs k hk _ _ rfl rfl h1 h2, List.length_cons]
          have := ih (k + 1) (by omega)
          omega
      · by_cases h2 : xs.getD k 0 = 133 ∨ xs.getD k 0 = 8232
        · rw [Cd.endsI_nl xs k hk _ rfl h1 h2, List.length_cons]
          have := ih (k + 1) (by omega)
          omega
        · rw [Cd.endsI_id xs k hk _ rfl h1 h2, List.length_cons]
          have := ih (k + 1) (by omega)
          omega
    · rw [Cd.endsI_end xs k hk]; simp
theorem Cd.endsL_len (l : Int) (xs : List Int) : (Cd.endsL l xs).length ≤ xs.length := by
  unfold Cd.endsL
  split
  · exact Nat.le_refl _
  · exact Cd.endsI_len xs _ 0 (Nat.le_refl _)
/-- What Decode hands back is the text of good characters, no more than there were bytes. -/
theorem Po.dec_text (c l m : Int) (s : ByteArray) : ∃ ys : List Int, (∀ r ∈ ys, Ru.okR r) ∧ Ru.encs ys = (Cd.decG c l m s).1 ∧ ys.length ≤ s.size := by
  unfold Cd.decG
  split
  · exact ⟨[], (fun r h => by cases h), rfl, Nat.zero_le _⟩
  split
  · exact ⟨[], (fun r h => by cases h), rfl, Nat.zero_le _⟩
  · refine ⟨(Cd.endsL l (Cd.feed m (Cd.unitsU c s) [] 0 0).1).map Po.fix, ?_, Po.encs_fix _, ?_⟩
    · intro r h
      obtain ⟨x, _, rfl⟩ := List.mem_map.1 h
      exact Po.fix_ok x
    · have h1 := Cd.endsL_len l (Cd.feed m (Cd.unitsU c s) [] 0 0).1
      have h2 := Cd.feed_len m (Cd.unitsU c s) [] 0 0
      have h3 := Cd.unitsU_len c s
      rw [List.length_map]
      rw [List.length_nil] at h2
      omega
theorem Po.dec_six (c l m : Int) (s : ByteArray) (h : (Cd.decG c l m s).2.2 = 6) : ∃ q : Nat, (Cd.decG c l m s).2.1 = (q : Int) ∧ q < s.size := by
  by_cases hc : Cd.chkN c l m s.size = 0
  · obtain ⟨hg, hs⟩ := Cd.chkN_good c l m _ hc
    unfold Cd.good at hg
    have hc0 : Cd.chkN c l 0 s.size = 0 := by
      have g0 : Cd.good c l 0 := by unfold Cd.good; omega
      unfold Cd.chkN
      rw [if_pos g0, if_neg (by omega)]
    rcases (show m = 0 ∨ m = 1 ∨ m = 2 by omega) with rfl | rfl | rfl
    · rcases Cd.dec_places c l s with ⟨_, h2⟩ | ⟨_, q, h2, h3, _⟩
      · exact absurd h h2
      · exact ⟨q, h2, h3⟩
    · rw [Cd.dec_one c l s hc0] at h; exact absurd (show (0 : Int) = 6 from h) (by decide)
    · rw [Cd.dec_two c l s hc0] at h; exact absurd (show (0 : Int) = 6 from h) (by decide)
  · have e : Cd.decG c l m s = ([], 0, Cd.chkN c l m s.size) := by unfold Cd.decG; rw [if_pos hc]
    rw [e] at h
    have h : Cd.chkN c l m s.size = 6 := h
    unfold Cd.chkN at h
    repeat' split at h
    all_goals omega
end Go.Proofs.YtdpbpkggbgfkgaaDoor
