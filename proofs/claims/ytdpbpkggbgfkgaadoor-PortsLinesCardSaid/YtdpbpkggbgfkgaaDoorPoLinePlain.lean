/-
  Lines of a port, in plain Lean.
-/
import Derived.Test.YtdpbpkggbgfkgaaDoorPoAwake
import Derived.Lib.IndexMore
import Derived.Lib.IndexLaws
namespace Go.Proofs.YtdpbpkggbgfkgaaDoor
open Go.RowKit
set_option linter.unusedVariables false

/-- UTF-8 without line ends that decodes is its own text. -/
theorem Po.lines_dec (s : ByteArray) (h : (Cd.decG 1 0 0 s).2.2 = 0) : (Cd.decG 1 0 0 s).1 = s.data.toList := by
  have hc : Cd.chkN 1 0 0 s.size = 0 := by
    by_cases hc : Cd.chkN 1 0 0 s.size = 0
    · exact hc
    · exfalso
      have e : Cd.decG 1 0 0 s = ([], 0, Cd.chkN 1 0 0 s.size) := by unfold Cd.decG; rw [if_pos hc]
      rw [e] at h
      exact hc h
  rcases Cd.split_bad (fun u => u.2.1 = true) (Cd.unitsU 1 s) with hg | ⟨pre, u, post, hh, hok, hbad⟩
  · rw [Cd.dec_ok 1 0 0 s hc hg]
    have hu : Cd.unitsU 1 s = Cd.utf8U s 0 := by unfold Cd.unitsU; rw [if_pos rfl]
    have ht := Cd.utf8_text s s.size 0 (by omega) (by rw [← hu]; exact hg)
    rw [List.drop_zero] at ht
    show Ru.encs (Cd.endsL 0 ((Cd.unitsU 1 s).map (·.1))) = _
    rw [hu, ht]
    unfold Cd.endsL
    rw [if_pos rfl]
  · rw [Cd.dec_bad 1 0 s hc u pre post hh hok hbad] at h
    exact absurd (show (6 : Int) = 0 from h) (by decide)

def Po.canon (l : List UInt8) : List UInt8 := if l = [] ∨ l.getLast? = some 10 then l else l ++ [10]
theorem Po.occ_ten (l : List UInt8) (j : Nat) : Lib.occAt l [10] j = true ↔ l[j]? = some 10 := by
  unfold Lib.occAt
  have e : l[j]? = (l.drop j)[0]? := by rw [List.getElem?_drop, Nat.add_zero]
  rw [e]
  cases l.drop j with
  | nil => simp
  | cons a t =>
    rw [List.isPrefixOf_cons_cons, List.isPrefixOf_nil_left, Bool.and_true, beq_iff_eq, List.getElem?_cons_zero, Option.some.injEq]
    exact ⟨fun h => h.symm, fun h => h.symm⟩
/-- What Cut makes of a text at a line feed. -/
theorem Po.cut_cases (l : List UInt8) : (∃ a b, l = a ++ 10 :: b ∧ Lib.cut l [10] = (a, b, true)) ∨ (l.getLast? ≠ some 10 ∧ Lib.cut l [10] = (l, [], false)) := by
  rcases Lib.index_spec l [10] with ⟨h1, h2⟩ | ⟨i, h1, h2, h3, _⟩
  · right
    refine ⟨fun hl => ?_, ?_⟩
    · have hne : l ≠ [] := by rintro rfl; simp at hl
      have hpos : 0 < l.length := List.length_pos_iff.2 hne
      have := h2 (l.length - 1) (by omega)
      rw [List.getLast?_eq_getElem?] at hl
      rw [(Po.occ_ten l _).2 hl] at this
      cases this
    · unfold Lib.cut
      rw [h1, if_neg (by omega)]
  · left
    have h4 := (Po.occ_ten l i).1 h3
    obtain ⟨hlt, h5⟩ := List.getElem?_eq_some_iff.1 h4
    refine ⟨l.take i, l.drop (i + 1), ?_, ?_⟩
    · rw [← h5, ← List.drop_eq_getElem_cons hlt, List.take_append_drop]
    · unfold Lib.cut
      rw [h1, if_pos (by omega)]
      simp
theorem Po.canon_hit (a b : List UInt8) : Po.canon (a ++ 10 :: b) = (a ++ [10]) ++ Po.canon b := by
  unfold Po.canon
  cases b with
  | nil => simp
  | cons x t =>
    have e : (a ++ 10 :: x :: t).getLast? = (x :: t).getLast? := by
      rw [List.getLast?_append, List.getLast?_cons_cons]
      cases h : (x :: t).getLast? with
      | none => simp at h
      | some y => rfl
    rw [e]
    by_cases h : (x :: t).getLast? = some 10
    · rw [if_pos (.inr h), if_pos (.inr h)]
      simp
    · rw [if_neg (by simp [h]), if_neg (by simp [h])]
      simp
theorem Po.canon_miss (l : List UInt8) (h0 : l ≠ []) (h : l.getLast? ≠ some 10) : Po.canon l = l ++ [10] := by
  unfold Po.canon
  rw [if_neg]
  rintro (h1 | h1)
  · exact h0 h1
  · exact h h1
/-- A step: what is handed back, a line feed, and the rest's own. -/
theorem Po.canon_step (l : List UInt8) (h0 : l ≠ []) : Po.canon l = (Lib.cut l [10]).1 ++ [10] ++ Po.canon (Lib.cut l [10]).2.1 ∧ (Lib.cut l [10]).2.1.length < l.length ∧ (Lib.cut l [10]).1.length ≤ l.length := by
  rcases Po.cut_cases l with ⟨a, b, rfl, e⟩ | ⟨h, e⟩
  · rw [e]
    refine ⟨Po.canon_hit a b, ?_, ?_⟩
    · simp only [List.length_append, List.length_cons]; omega
    · simp only [List.length_append, List.length_cons]; omega
  · rw [e]
    refine ⟨?_, List.length_pos_iff.2 h0, Nat.le_refl _⟩
    rw [Po.canon_miss l h0 h]
    simp [Po.canon]
theorem Po.canon_len (l : List UInt8) : (Po.canon l).length ≤ l.length + 1 := by
  unfold Po.canon
  split
  · omega
  · simp
end Go.Proofs.YtdpbpkggbgfkgaaDoor
