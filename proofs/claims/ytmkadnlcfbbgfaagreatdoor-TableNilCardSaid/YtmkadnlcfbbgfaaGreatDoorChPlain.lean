/-
  The characters' plain functions: what package chars computes for one character, said as Lean functions on Int, with no program in sight. No conditions.
-/
import Derived.WalkKit
namespace Go.Proofs.YtmkadnlcfbbgfaaGreatDoor.Ch

def p1 (r : Int) : Prop := (97 ≤ r ∧ r ≤ 122) ∨ (224 ≤ r ∧ r ≤ 254 ∧ r ≠ 247) ∨ (945 ≤ r ∧ r ≤ 969 ∧ r ≠ 962) ∨ (1072 ≤ r ∧ r ≤ 1103)
def p2 (r : Int) : Prop := (65 ≤ r ∧ r ≤ 90) ∨ (192 ≤ r ∧ r ≤ 222 ∧ r ≠ 215) ∨ (913 ≤ r ∧ r ≤ 937 ∧ r ≠ 930) ∨ (1040 ≤ r ∧ r ≤ 1071)
def p3 (r : Int) : Prop := 1104 ≤ r ∧ r ≤ 1119
def p4 (r : Int) : Prop := 1024 ≤ r ∧ r ≤ 1039
def p5 (r : Int) : Prop := (256 ≤ r ∧ r ≤ 311 ∧ r ≠ 304 ∧ r ≠ 305) ∨ (330 ≤ r ∧ r ≤ 375)
def p6 (r : Int) : Prop := (313 ≤ r ∧ r ≤ 328) ∨ (377 ≤ r ∧ r ≤ 382)
instance (r : Int) : Decidable (p1 r) := by unfold p1; infer_instance
instance (r : Int) : Decidable (p2 r) := by unfold p2; infer_instance
instance (r : Int) : Decidable (p3 r) := by unfold p3; infer_instance
instance (r : Int) : Decidable (p4 r) := by unfold p4; infer_instance
instance (r : Int) : Decidable (p5 r) := by unfold p5; infer_instance
instance (r : Int) : Decidable (p6 r) := by unfold p6; infer_instance

/-- The small letter, the capital of the pair that r is in, and whether it is in one. -/
def pairZ (r : Int) : Int × Int × Bool :=
  if p1 r then (r, r - 32, true) else if p2 r then (r + 32, r, true) else if p3 r then (r, r - 80, true) else if p4 r then (r + 80, r, true)
  else if p5 r then (r - r % 2 + 1, r - r % 2, true) else if p6 r then (r - 1 + r % 2 + 1, r - 1 + r % 2, true) else (r, r, false)

def upZ (r : Int) : Int := if r = 962 then 931 else if r = 383 then 83 else if r = 255 then 376 else (pairZ r).2.1
def downZ (r : Int) : Int := if r = 376 then 255 else (pairZ r).1
def oddLetter (r : Int) : Bool := r == 170 || r == 181 || r == 186 || r == 223 || r == 255 || r == 304 || r == 305 || r == 312 || r == 329 || r == 376 || r == 383 || r == 962
def letterB (r : Int) : Bool := if oddLetter r = true then true else (pairZ r).2.2
def digitZ (r : Int) : Int := if 48 ≤ r ∧ r ≤ 57 then r - 48 else if 1632 ≤ r ∧ r ≤ 1641 then r - 1632 else -1
def blankB (r : Int) : Bool := r == 9 || r == 10 || r == 11 || r == 12 || r == 13 || r == 32 || r == 133 || r == 160 || r == 8232 || r == 8233

theorem pairZ_1 {r : Int} (h : p1 r) : pairZ r = (r, r - 32, true) := by simp [pairZ, h]
theorem pairZ_2 {r : Int} (h1 : ¬ p1 r) (h : p2 r) : pairZ r = (r + 32, r, true) := by simp [pairZ, h1, h]
theorem pairZ_3 {r : Int} (h1 : ¬ p1 r) (h2 : ¬ p2 r) (h : p3 r) : pairZ r = (r, r - 80, true) := by simp [pairZ, h1, h2, h]
theorem pairZ_4 {r : Int} (h1 : ¬ p1 r) (h2 : ¬ p2 r) (h3 : ¬ p3 r) (h : p4 r) : pairZ r = (r + 80, r, true) := by simp [pairZ, h1, h2, h3, h]
theorem pairZ_5 {r : Int} (h1 : ¬ p1 r) (h2 : ¬ p2 r) (h3 : ¬ p3 r) (h4 : ¬ p4 r) (h : p5 r) : pairZ r = (r - r % 2 + 1, r - r % 2, true) := by simp [pairZ, h1, h2, h3, h4, h]
theorem pairZ_6 {r : Int} (h1 : ¬ p1 r) (h2 : ¬ p2 r) (h3 : ¬ p3 r) (h4 : ¬ p4 r) (h5 : ¬ p5 r) (h : p6 r) : pairZ r = (r - 1 + r % 2 + 1, r - 1 + r % 2, true) := by simp [pairZ, h1, h2, h3, h4, h5, h]
theorem pairZ_0 {r : Int} (h1 : ¬ p1 r) (h2 : ¬ p2 r) (h3 : ¬ p3 r) (h4 : ¬ p4 r) (h5 : ¬ p5 r) (h6 : ¬ p6 r) : pairZ r = (r, r, false) := by simp [pairZ, h1, h2, h3, h4, h5, h6]

/-- Beyond the table nothing is a pair. -/
theorem pairZ_out {r : Int} (h : r < 0 ∨ 1300 ≤ r) : pairZ r = (r, r, false) :=
  pairZ_0 (by unfold p1; omega) (by unfold p2; omega) (by unfold p3; omega) (by unfold p4; omega) (by unfold p5; omega) (by unfold p6; omega)

theorem pairZ_bound (r : Int) (g0 : -2147483648 ≤ r) (g1 : r ≤ 2147483647) : (-2147483648 ≤ (pairZ r).1 ∧ (pairZ r).1 ≤ 2147483647) ∧ (-2147483648 ≤ (pairZ r).2.1 ∧ (pairZ r).2.1 ≤ 2147483647) := by
  by_cases h1 : p1 r
  · rw [pairZ_1 h1]; unfold p1 at h1; simp only []; omega
  by_cases h2 : p2 r
  · rw [pairZ_2 h1 h2]; unfold p2 at h2; simp only []; omega
  by_cases h3 : p3 r
  · rw [pairZ_3 h1 h2 h3]; unfold p3 at h3; simp only []; omega
  by_cases h4 : p4 r
  · rw [pairZ_4 h1 h2 h3 h4]; unfold p4 at h4; simp only []; omega
  by_cases h5 : p5 r
  · rw [pairZ_5 h1 h2 h3 h4 h5]; unfold p5 at h5; simp only []; omega
  by_cases h6 : p6 r
  · rw [pairZ_6 h1 h2 h3 h4 h5 h6]; unfold p6 at h6; simp only []; omega
  rw [pairZ_0 h1 h2 h3 h4 h5 h6]; simp only []; omega

theorem or1 : ∀ n : Fin 400, bits .or .i32 (n.val : Int) 1 = (n.val : Int) - (n.val : Int) % 2 + 1 := by decide +kernel
theorem an1 : ∀ n : Fin 400, bits .andNot .i32 (n.val : Int) 1 = (n.val : Int) - (n.val : Int) % 2 := by decide +kernel
theorem and1 : ∀ n : Fin 400, bits .and .i32 (n.val : Int) 1 = (n.val : Int) % 2 := by decide +kernel
theorem or_1 (r : Int) (h0 : 0 ≤ r) (h1 : r < 400) : bits .or .i32 r 1 = r - r % 2 + 1 := by
  obtain ⟨n, rfl⟩ := Int.eq_ofNat_of_zero_le h0
  exact or1 ⟨n, by omega⟩
theorem andNot_1 (r : Int) (h0 : 0 ≤ r) (h1 : r < 400) : bits .andNot .i32 r 1 = r - r % 2 := by
  obtain ⟨n, rfl⟩ := Int.eq_ofNat_of_zero_le h0
  exact an1 ⟨n, by omega⟩
theorem and_1 (r : Int) (h0 : 0 ≤ r) (h1 : r < 400) : bits .and .i32 r 1 = r % 2 := by
  obtain ⟨n, rfl⟩ := Int.eq_ofNat_of_zero_le h0
  exact and1 ⟨n, by omega⟩
end Go.Proofs.YtmkadnlcfbbgfaaGreatDoor.Ch
