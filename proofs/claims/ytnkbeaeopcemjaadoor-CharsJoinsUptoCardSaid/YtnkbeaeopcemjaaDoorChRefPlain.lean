/-
  The document's plain functions for one character (package sextantref01), said as Lean functions on Int, and that the program's are the same at every int32. No program in sight. No conditions beyond the int32's range.
-/
import Derived.Test.YtnkbeaeopcemjaaDoorChPlain
import Derived.WalkKit
namespace Go.Proofs.YtnkbeaeopcemjaaDoor.Ch
open Go.RowKit

def c2 (r : Int) : Prop := ((256 ≤ r ∧ r ≤ 311 ∧ r ≠ 305) ∨ (330 ≤ r ∧ r ≤ 375)) ∧ r % 2 = 1
def c3 (r : Int) : Prop := ((313 ≤ r ∧ r ≤ 328) ∨ (377 ≤ r ∧ r ≤ 382)) ∧ r % 2 = 0
instance (r : Int) : Decidable (c2 r) := by unfold c2; infer_instance
instance (r : Int) : Decidable (c3 r) := by unfold c3; infer_instance
/-- Capital: 0 where r is no small letter of a pair. -/
def capZ (r : Int) : Int := if p1 r then r - 32 else if p3 r then r - 80 else if c2 r then r - 1 else if c3 r then r - 1 else 0
theorem capZ_1 {r : Int} (h : p1 r) : capZ r = r - 32 := by simp [capZ, h]
theorem capZ_3 {r : Int} (h1 : ¬ p1 r) (h : p3 r) : capZ r = r - 80 := by simp [capZ, h1, h]
theorem capZ_c2 {r : Int} (h1 : ¬ p1 r) (h3 : ¬ p3 r) (h : c2 r) : capZ r = r - 1 := by simp [capZ, h1, h3, h]
theorem capZ_c3 {r : Int} (h1 : ¬ p1 r) (h3 : ¬ p3 r) (h2 : ¬ c2 r) (h : c3 r) : capZ r = r - 1 := by simp [capZ, h1, h3, h2, h]
theorem capZ_0 {r : Int} (h1 : ¬ p1 r) (h3 : ¬ p3 r) (h2 : ¬ c2 r) (h4 : ¬ c3 r) : capZ r = 0 := by simp [capZ, h1, h3, h2, h4]
theorem capZ_out {r : Int} (h : r < 97 ∨ 1200 ≤ r) : capZ r = 0 :=
  capZ_0 (by unfold p1; omega) (by unfold p3; omega) (by unfold c2; omega) (by unfold c3; omega)

def hitB (r by_ : Int) : Bool := capZ (wrap32 (r + by_)) != 0 && capZ (wrap32 (r + by_)) == r
def smallZ (r : Int) : Int := if hitB r 1 = true then wrap32 (r + 1) else if hitB r 32 = true then wrap32 (r + 32) else if hitB r 80 = true then wrap32 (r + 80) else 0
def upR (r : Int) : Int := if r = 962 then 931 else if r = 383 then 83 else if r = 255 then 376 else if capZ r ≠ 0 then capZ r else r
def downR (r : Int) : Int := if r = 376 then 255 else if smallZ r ≠ 0 then smallZ r else r
def letterR (r : Int) : Bool := if oddLetter r = true then true else (capZ r != 0 || smallZ r != 0)
def digitR (r : Int) : Int := if 48 ≤ r ∧ r ≤ 57 then r - 48 else if 1632 ≤ r ∧ r ≤ 1641 then r - 1632 else -1
def blankR (r : Int) : Bool := decide (9 ≤ r ∧ r ≤ 13) || r == 32 || r == 133 || r == 160 || r == 8232 || r == 8233

theorem hitB_out {r : Int} (b : Int) (hr : r < 0 ∨ 1300 ≤ r) (h0 : 0 ≤ b) (h1 : b ≤ 80) (g0 : -2147483648 ≤ r) (g1 : r ≤ 2147483647) : hitB r b = false := by
  have : capZ (wrap32 (r + b)) = 0 ∨ capZ (wrap32 (r + b)) ≠ r := by
    refine .inl (capZ_out ?_)
    unfold wrap32
    by_cases h : r < 0
    · omega
    · by_cases h2 : r + b ≤ 2147483647
      · omega
      · omega
  unfold hitB
  rcases this with h | h
  · rw [h]; rfl
  · simp [h]
theorem smallZ_out {r : Int} (hr : r < 0 ∨ 1300 ≤ r) (g0 : -2147483648 ≤ r) (g1 : r ≤ 2147483647) : smallZ r = 0 := by
  simp [smallZ, hitB_out 1 hr (by omega) (by omega) g0 g1, hitB_out 32 hr (by omega) (by omega) g0 g1, hitB_out 80 hr (by omega) (by omega) g0 g1]

theorem up_tab : ∀ n : Fin 1300, upZ (n.val : Int) = upR (n.val : Int) := by decide +kernel
theorem down_tab : ∀ n : Fin 1300, downZ (n.val : Int) = downR (n.val : Int) := by decide +kernel
theorem letter_tab : ∀ n : Fin 1300, letterB (n.val : Int) = letterR (n.val : Int) := by decide +kernel

theorem up_eq (r : Int) : upZ r = upR r := by
  by_cases hr : r < 0 ∨ 1300 ≤ r
  · have h := capZ_out (r := r) (by omega)
    have h2 := pairZ_out hr
    unfold upZ upR
    rw [h, h2]
    simp
  · obtain ⟨n, rfl⟩ := Int.eq_ofNat_of_zero_le (a := r) (by omega)
    exact up_tab ⟨n, by omega⟩
theorem down_eq (r : Int) (g0 : -2147483648 ≤ r) (g1 : r ≤ 2147483647) : downZ r = downR r := by
  by_cases hr : r < 0 ∨ 1300 ≤ r
  · have h := smallZ_out hr g0 g1
    have h2 := pairZ_out hr
    unfold downZ downR
    rw [h, h2]
    simp
  · obtain ⟨n, rfl⟩ := Int.eq_ofNat_of_zero_le (a := r) (by omega)
    exact down_tab ⟨n, by omega⟩
theorem letter_eq (r : Int) (g0 : -2147483648 ≤ r) (g1 : r ≤ 2147483647) : letterB r = letterR r := by
  by_cases hr : r < 0 ∨ 1300 ≤ r
  · have h := smallZ_out hr g0 g1
    have h3 := capZ_out (r := r) (by omega)
    have h2 := pairZ_out hr
    unfold letterB letterR
    rw [h, h2, h3]
    simp
  · obtain ⟨n, rfl⟩ := Int.eq_ofNat_of_zero_le (a := r) (by omega)
    exact letter_tab ⟨n, by omega⟩
theorem digit_eq (r : Int) : digitZ r = digitR r := rfl
theorem blank_eq (r : Int) : blankB r = blankR r := by
  unfold blankB blankR
  by_cases h : 9 ≤ r ∧ r ≤ 13
  · have : r = 9 ∨ r = 10 ∨ r = 11 ∨ r = 12 ∨ r = 13 := by omega
    rcases this with rfl | rfl | rfl | rfl | rfl <;> rfl
  · have h9 : (r == 9) = false := by rw [beq_eq_false_iff_ne]; omega
    have h10 : (r == 10) = false := by rw [beq_eq_false_iff_ne]; omega
    have h11 : (r == 11) = false := by rw [beq_eq_false_iff_ne]; omega
    have h12 : (r == 12) = false := by rw [beq_eq_false_iff_ne]; omega
    have h13 : (r == 13) = false := by rw [beq_eq_false_iff_ne]; omega
    rw [h9, h10, h11, h12, h13, decide_eq_false h]
    rfl
end Go.Proofs.YtnkbeaeopcemjaaDoor.Ch
