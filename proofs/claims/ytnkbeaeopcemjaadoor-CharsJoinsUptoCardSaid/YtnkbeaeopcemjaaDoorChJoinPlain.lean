/-
  Two texts, one behind the other, in plain Lean: capitals and folds of both are those of each; with a blank between them also small letters and titles. No conditions.
-/
import Derived.Test.YtnkbeaeopcemjaaDoorChDownPlain
namespace Go.Proofs.YtnkbeaeopcemjaaDoor.Ch
open Ru

theorem mapT_join (F : Int → List Int) (ra rb : List Int) (ha : ∀ r ∈ ra, okR r) (hb : ∀ r ∈ rb, okR r) : mapT F (encs ra ++ encs rb) = mapT F (encs ra) ++ mapT F (encs rb) := by
  unfold mapT
  rw [runes_encs ra _ ha, runes_of_encs rb hb, runes_of_encs ra ha, List.flatMap_append, encs_append]

theorem space_down : downZ 32 = 32 := by decide +kernel
theorem space_letter : letterB 32 = false := by decide +kernel
theorem downF_space : ∀ (b : Bool) (ra rb : List Int), downF b (ra ++ 32 :: rb) = downF b ra ++ 32 :: downF false rb
  | b, [], rb => by
    simp only [List.nil_append, downF, space_letter]
    unfold smallR
    rw [if_neg (by decide), space_down]
  | b, [r], rb => by
    have := downF_space (letterB r) [] rb
    simp only [List.nil_append] at this
    simp only [List.cons_append, List.nil_append, downF, space_letter, List.head?_cons, List.head?_nil]
    unfold smallR sig
    simp [space_letter, space_down]
  | b, r :: q :: ra, rb => by
    have := downF_space (letterB r) (q :: ra) rb
    simp only [List.cons_append] at this ⊢
    simp only [downF, List.head?_cons] at this ⊢
    rw [this]
    rfl
theorem titleF_space : ∀ (b : Bool) (ra rb : List Int), titleF b (ra ++ 32 :: rb) = titleF b ra ++ 32 :: titleF false rb
  | b, [], rb => by
    simp only [List.nil_append, titleF, space_letter]
    unfold smallR
    simp [space_down]
  | b, [r], rb => by
    simp only [List.cons_append, List.nil_append, titleF, space_letter, List.head?_cons, List.head?_nil]
    unfold smallR sig
    simp [space_letter, space_down]
  | b, r :: q :: ra, rb => by
    have := titleF_space (letterB r) (q :: ra) rb
    simp only [List.cons_append] at this ⊢
    rw [titleF, this]
    simp only [titleF, List.head?_cons, List.append_assoc]

theorem encs_space (ra rb : List Int) : encs ra ++ [32] ++ encs rb = encs (ra ++ 32 :: rb) := by
  rw [encs_append, encs_cons, List.append_assoc]
  rfl
theorem ok_space (ra rb : List Int) (ha : ∀ r ∈ ra, okR r) (hb : ∀ r ∈ rb, okR r) : ∀ r ∈ ra ++ 32 :: rb, okR r := by
  intro r hr
  rcases List.mem_append.1 hr with h | h
  · exact ha r h
  · rcases List.mem_cons.1 h with rfl | h
    · unfold okR; omega
    · exact hb r h
theorem downL_join (ra rb : List Int) (ha : ∀ r ∈ ra, okR r) (hb : ∀ r ∈ rb, okR r) : downL (encs ra ++ [32] ++ encs rb) = downL (encs ra) ++ [32] ++ downL (encs rb) := by
  unfold downL
  rw [encs_space, runes_of_encs _ (ok_space ra rb ha hb), runes_of_encs ra ha, runes_of_encs rb hb, downF_space, encs_space]
theorem titleL_join (ra rb : List Int) (ha : ∀ r ∈ ra, okR r) (hb : ∀ r ∈ rb, okR r) : titleL (encs ra ++ [32] ++ encs rb) = titleL (encs ra) ++ [32] ++ titleL (encs rb) := by
  unfold titleL
  rw [encs_space, runes_of_encs _ (ok_space ra rb ha hb), runes_of_encs ra ha, runes_of_encs rb hb, titleF_space, encs_space]
end Go.Proofs.YtnkbeaeopcemjaaDoor.Ch
