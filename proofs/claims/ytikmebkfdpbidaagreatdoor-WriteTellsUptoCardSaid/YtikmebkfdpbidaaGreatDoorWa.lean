/-
  Natural numbers as rows of words of 32 bits: plain law.
  Natural numbers as rows of words: the steps of sum, difference, product and of a division by one word.
  Natural numbers as rows of words: the steps of a product; order; the greatest divisor.
  Rows of words in memory.
  Texts and their characters, in plain Lean over the model's own decoding: the characters of a text, and that a text of encoded characters is read back as they were. No conditions.
  Slices of integers that a call reads or has made, and texts of characters, in plain Lean over worlds. No conditions.
  nat.Trim, norm, Sound, Of; slices.Clone of words.
  bits.Add32, bits.Sub32.
  The reference's words and bits of a number.
  An append to a row that the call owns: the row stays where it is, or lies in new memory.
  The reference's Norm of words.
  The reference's Norm of words: the row that it makes.
  Digits and bits of a number in plain Lean; the reference's Size.
  nat.Plus, nat.Less of numbers.
  nat.short: a number over one word.
-/
import Derived.Laws.AppendOwn
import Derived.RowKit
import Derived.Below
import Derived.WalkKit
import Derived.Lib.Hide
import Derived.OwnWalk
import Derived.Lib.MapLaws
import Derived.Lib.RuneBytes
import Derived.Lib.SpaceU
import Derived.Lib.TrimUEq
import Derived.WalkSpells
import Derived.WalkLawsBesides
import Derived.Lib.RuneCount
import Derived.Lib.OthersKept
import Derived.Test.YtikmebkfdpbidaaGreatDoorProg
import Derived.Handy
import Derived.Laws.MakeOwn
import Derived.Lib.SliceRun
import Derived.Deep.LoopGhost
import Derived.BigQuiet
import Derived.Deep.DeepCutAuto
import Derived.Laws.Bits64
namespace Go.Proofs.YtikmebkfdpbidaaGreatDoor
set_option linter.unusedVariables false

/-- The number of a row of words, the least first. -/
def Nt.val : List Nat → Nat
  | [] => 0
  | x :: xs => x + 4294967296 * Nt.val xs
def Nt.Wd (ws : List Nat) : Prop := ∀ x ∈ ws, x < 4294967296
/-- A number's words, without noughts at their end. -/
def Nt.dig (n : Nat) : List Nat := if h : n = 0 then [] else (n % 4294967296) :: Nt.dig (n / 4294967296)
termination_by n
decreasing_by omega
theorem Nt.dig_zero : Nt.dig 0 = [] := by rw [Nt.dig]; simp
theorem Nt.dig_pos {n : Nat} (h : 0 < n) : Nt.dig n = (n % 4294967296) :: Nt.dig (n / 4294967296) := by rw [Nt.dig]; simp; omega
theorem Nt.val_dig (n : Nat) : Nt.val (Nt.dig n) = n := by
  induction n using Nat.strongRecOn with
  | _ n ih =>
    rcases Nat.eq_zero_or_pos n with h | h
    · subst h; rw [Nt.dig_zero]; rfl
    · rw [Nt.dig_pos h, Nt.val, ih (n / 4294967296) (by omega)]
      omega
theorem Nt.dig_wd (n : Nat) : Nt.Wd (Nt.dig n) := by
  induction n using Nat.strongRecOn with
  | _ n ih =>
    rcases Nat.eq_zero_or_pos n with h | h
    · subst h; rw [Nt.dig_zero]; intro x hx; cases hx
    · rw [Nt.dig_pos h]
      intro x hx
      rcases List.mem_cons.1 hx with hx | hx
      · omega
      · exact ih (n / 4294967296) (by omega) x hx
theorem Nt.Wd.tail {x : Nat} {xs : List Nat} (h : Nt.Wd (x :: xs)) : Nt.Wd xs := fun y hy => h y (List.mem_cons_of_mem _ hy)
theorem Nt.Wd.head {x : Nat} {xs : List Nat} (h : Nt.Wd (x :: xs)) : x < 4294967296 := h x (List.mem_cons_self ..)
theorem Nt.Wd.take {ws : List Nat} (h : Nt.Wd ws) (k : Nat) : Nt.Wd (ws.take k) := fun x hx => h x (List.mem_of_mem_take hx)
theorem Nt.Wd.getD {ws : List Nat} (h : Nt.Wd ws) (k : Nat) : ws.getD k 0 < 4294967296 := by
  rw [List.getD_eq_getElem?_getD]
  rcases Nat.lt_or_ge k ws.length with hk | hk
  · rw [List.getElem?_eq_getElem hk, Option.getD_some]
    exact h _ (List.getElem_mem hk)
  · rw [List.getElem?_eq_none hk]
    decide
/-- Rows without a nought at their end are the words of their number. -/
theorem Nt.dig_val : ∀ (ws : List Nat), Nt.Wd ws → (ws ≠ [] → ws.getD (ws.length - 1) 0 ≠ 0) → Nt.dig (Nt.val ws) = ws
  | [], _, _ => Nt.dig_zero
  | x :: xs, hw, ht => by
    have ht := ht (by simp)
    have hx := hw.head
    rcases Nat.eq_zero_or_pos xs.length with h0 | h0
    · have : xs = [] := List.eq_nil_of_length_eq_zero h0
      subst this
      have hx0 : x ≠ 0 := by simpa using ht
      rw [show Nt.val [x] = x by simp [Nt.val], Nt.dig_pos (by omega), show x / 4294967296 = 0 by omega, Nt.dig_zero, show x % 4294967296 = x by omega]
    · have ht2 : xs.getD (xs.length - 1) 0 ≠ 0 := by
        have e : (x :: xs).length - 1 = (xs.length - 1) + 1 := by simp; omega
        rw [e] at ht
        simpa using ht
      have ih := Nt.dig_val xs hw.tail (fun _ => ht2)
      have hv : 0 < Nt.val xs := by
        rcases Nat.eq_zero_or_pos (Nt.val xs) with h | h
        · rw [h, Nt.dig_zero] at ih
          rw [← ih] at h0
          simp at h0
        · exact h
      rw [Nt.val, Nt.dig_pos (by omega), show (x + 4294967296 * Nt.val xs) % 4294967296 = x by omega, show (x + 4294967296 * Nt.val xs) / 4294967296 = Nt.val xs by omega, ih]
theorem Nt.val_append : ∀ (a b : List Nat), Nt.val (a ++ b) = Nt.val a + 4294967296 ^ a.length * Nt.val b
  | [], b => by simp [Nt.val]
  | x :: a, b => by
    rw [List.cons_append, Nt.val, Nt.val_append a b, Nt.val, List.length_cons, Nat.pow_succ]
    rw [Nat.mul_add, ← Nat.mul_assoc, Nat.mul_comm (4294967296 ^ a.length) 4294967296]
    omega
theorem Nt.val_lt : ∀ (ws : List Nat), Nt.Wd ws → Nt.val ws < 4294967296 ^ ws.length
  | [], _ => by simp [Nt.val]
  | x :: xs, hw => by
    have ih := Nt.val_lt xs hw.tail
    have hx := hw.head
    rw [Nt.val, List.length_cons, Nat.pow_succ]
    omega
theorem Nt.val_zeros : ∀ (ws : List Nat), (∀ x ∈ ws, x = 0) → Nt.val ws = 0
  | [], _ => rfl
  | x :: xs, h => by
    rw [Nt.val, Nt.val_zeros xs (fun y hy => h y (List.mem_cons_of_mem _ hy)), h x (List.mem_cons_self ..)]
theorem Nt.take_succ (ws : List Nat) (k : Nat) (hk : k < ws.length) : ws.take (k + 1) = ws.take k ++ [ws.getD k 0] := by
  rw [List.take_add_one, List.getD_eq_getElem?_getD, List.getElem?_eq_getElem hk]
  rfl
theorem Nt.val_take_succ (ws : List Nat) (k : Nat) (hk : k < ws.length) : Nt.val (ws.take (k + 1)) = Nt.val (ws.take k) + 4294967296 ^ k * ws.getD k 0 := by
  rw [Nt.take_succ ws k hk, Nt.val_append, List.length_take, Nat.min_eq_left (by omega)]
  simp [Nt.val]
/-- What is left without noughts. -/
theorem Nt.dig_of {ws : List Nat} {n : Nat} (hw : Nt.Wd ws) (hn : n ≤ ws.length) (hz : ∀ j, n ≤ j → j < ws.length → ws.getD j 0 = 0) (ht : n = 0 ∨ ws.getD (n - 1) 0 ≠ 0) : ws.take n = Nt.dig (Nt.val ws) := by
  have hv : Nt.val ws = Nt.val (ws.take n) := by
    conv => lhs; rw [← List.take_append_drop n ws]
    rw [Nt.val_append, Nt.val_zeros (ws.drop n), Nat.mul_zero, Nat.add_zero]
    intro x hx
    obtain ⟨j, hj, rfl⟩ := List.getElem_of_mem hx
    rw [List.length_drop] at hj
    have := hz (n + j) (by omega) (by omega)
    rw [List.getD_eq_getElem?_getD, List.getElem?_eq_getElem (by omega), Option.getD_some] at this
    rw [List.getElem_drop]
    exact this
  rw [hv]
  refine (Nt.dig_val _ (hw.take n) (fun hne => ?_)).symm
  have hn0 : n ≠ 0 := by
    intro e
    subst e
    simp at hne
  have hl : (ws.take n).length = n := by rw [List.length_take]; omega
  rw [hl, List.getD_eq_getElem?_getD, List.getElem?_take, if_pos (by omega), ← List.getD_eq_getElem?_getD]
  rcases ht with h | h
  · exact absurd h hn0
  · exact h
theorem Nt.trim_ex (ws : List Nat) : ∀ k, k ≤ ws.length → (∀ j, k ≤ j → j < ws.length → ws.getD j 0 = 0) → ∃ m, m ≤ ws.length ∧ (∀ j, m ≤ j → j < ws.length → ws.getD j 0 = 0) ∧ (m = 0 ∨ ws.getD (m - 1) 0 ≠ 0)
  | 0, h, hz => ⟨0, h, hz, .inl rfl⟩
  | k + 1, h, hz => by
    by_cases hx : ws.getD k 0 = 0
    · refine Nt.trim_ex ws k (by omega) (fun j h1 h2 => ?_)
      rcases Nat.lt_or_ge k j with h3 | h3
      · exact hz j (by omega) h2
      · obtain rfl : j = k := by omega
        exact hx
    · exact ⟨k + 1, h, hz, .inr hx⟩
theorem Nt.take_dig {ws : List Nat} (hw : Nt.Wd ws) : (Nt.dig (Nt.val ws)).length ≤ ws.length ∧ ws.take (Nt.dig (Nt.val ws)).length = Nt.dig (Nt.val ws) := by
  obtain ⟨m, hm, hz, ht⟩ := Nt.trim_ex ws ws.length (Nat.le_refl _) (fun j h1 h2 => by omega)
  have h := Nt.dig_of hw hm hz ht
  have hl : (Nt.dig (Nt.val ws)).length = m := by rw [← h, List.length_take]; omega
  rw [hl]
  exact ⟨hm, h⟩
theorem Nt.dig_small {n : Nat} (h : 0 < n) (h2 : n < 4294967296) : Nt.dig n = [n] := by
  rw [Nt.dig_pos h, show n / 4294967296 = 0 by omega, Nt.dig_zero, show n % 4294967296 = n by omega]
theorem Nt.dig_eq_nil {n : Nat} : Nt.dig n = [] ↔ n = 0 := by
  constructor
  · intro h
    have := Nt.val_dig n
    rw [h] at this
    exact this.symm
  · rintro rfl; exact Nt.dig_zero
theorem Nt.dig_len_pos {n : Nat} : 0 < (Nt.dig n).length ↔ 0 < n := by
  rcases Nat.eq_zero_or_pos n with h | h
  · subst h; rw [Nt.dig_zero]; simp
  · rw [Nt.dig_pos h]; simp; omega
/-- The last word is not nought. -/
theorem Nt.dig_last (n : Nat) (h : 0 < n) : (Nt.dig n).getD ((Nt.dig n).length - 1) 0 ≠ 0 := by
  induction n using Nat.strongRecOn with
  | _ n ih =>
    rw [Nt.dig_pos h]
    rcases Nat.eq_zero_or_pos (n / 4294967296) with h0 | h0
    · rw [h0, Nt.dig_zero]
      simp
      omega
    · have := ih (n / 4294967296) (by omega) h0
      have hl := Nt.dig_len_pos.2 h0
      have e : ((n % 4294967296) :: Nt.dig (n / 4294967296)).length - 1 = ((Nt.dig (n / 4294967296)).length - 1) + 1 := by simp; omega
      rw [e]
      simpa using this
end Go.Proofs.YtikmebkfdpbidaaGreatDoor
namespace Go.Proofs.YtikmebkfdpbidaaGreatDoor
set_option linter.unusedVariables false

theorem Nt.getD_ge (ws : List Nat) (k : Nat) (h : ws.length ≤ k) : ws.getD k 0 = 0 := by
  rw [List.getD_eq_getElem?_getD, List.getElem?_eq_none h]; rfl
theorem Nt.val_take_step (ws : List Nat) (k : Nat) : Nt.val (ws.take (k + 1)) = Nt.val (ws.take k) + 4294967296 ^ k * ws.getD k 0 := by
  rcases Nat.lt_or_ge k ws.length with h | h
  · exact Nt.val_take_succ ws k h
  · rw [Nt.getD_ge ws k h, List.take_of_length_le (by omega), List.take_of_length_le h, Nat.mul_zero, Nat.add_zero]
theorem Nt.val_set : ∀ (ws : List Nat) (k x : Nat), k < ws.length → Nt.val (ws.set k x) + 4294967296 ^ k * ws.getD k 0 = Nt.val ws + 4294967296 ^ k * x
  | [], k, x, h => by simp at h
  | w :: ws, 0, x, h => by
    simp only [List.set_cons_zero, Nt.val, Nat.pow_zero, Nat.one_mul]
    simp
    omega
  | w :: ws, k + 1, x, h => by
    have ih := Nt.val_set ws k x (by simpa using h)
    simp only [List.set_cons_succ, Nt.val]
    have e : (w :: ws).getD (k + 1) 0 = ws.getD k 0 := by simp
    rw [e, Nat.pow_succ, Nat.mul_comm (4294967296 ^ k) 4294967296, Nat.mul_assoc, Nat.mul_assoc]
    omega
theorem Nt.set_take (ws : List Nat) (i x k : Nat) (h : k ≤ i) : (ws.set i x).take k = ws.take k := by
  rw [List.take_set]
  exact List.set_eq_of_length_le (by rw [List.length_take]; omega)
theorem Nt.getD_set_self (ws : List Nat) (i x : Nat) (h : i < ws.length) : (ws.set i x).getD i 0 = x := by
  rw [List.getD_eq_getElem?_getD, List.getElem?_set_self h]; rfl
theorem Nt.getD_set_ne (ws : List Nat) (i j x : Nat) (h : i ≠ j) : (ws.set i x).getD j 0 = ws.getD j 0 := by
  rw [List.getD_eq_getElem?_getD, List.getElem?_set_ne h, ← List.getD_eq_getElem?_getD]
theorem Nt.val_set_take (ws : List Nat) (i x : Nat) (h : i < ws.length) : Nt.val ((ws.set i x).take (i + 1)) = Nt.val (ws.take i) + 4294967296 ^ i * x := by
  rw [Nt.val_take_step, Nt.set_take ws i x i (Nat.le_refl _), Nt.getD_set_self ws i x h]
theorem Nt.Wd.set {ws : List Nat} (h : Nt.Wd ws) (i x : Nat) (hx : x < 4294967296) : Nt.Wd (ws.set i x) := fun y hy => by
  rcases List.mem_or_eq_of_mem_set hy with hy | hy
  · exact h y hy
  · rw [hy]; exact hx
theorem Nt.Wd.zeros (n : Nat) : Nt.Wd (List.replicate n 0) := fun x hx => by
  rw [(List.mem_replicate.1 hx).2]; decide
theorem Nt.zeros_getD (n k : Nat) : (List.replicate n 0).getD k 0 = 0 := by
  rw [List.getD_eq_getElem?_getD, List.getElem?_replicate]
  split <;> rfl
theorem Nt.val_replicate (n : Nat) : Nt.val (List.replicate n 0) = 0 := Nt.val_zeros _ (fun x hx => (List.mem_replicate.1 hx).2)

/-- One word of a sum. -/
theorem Nt.plus_step {a b ws : List Nat} {i c : Nat} (h : Nt.val (ws.take i) + 4294967296 ^ i * c = Nt.val (a.take i) + Nt.val (b.take i)) (hi : i < ws.length) :
    Nt.val ((ws.set i ((a.getD i 0 + b.getD i 0 + c) % 4294967296)).take (i + 1)) + 4294967296 ^ (i + 1) * ((a.getD i 0 + b.getD i 0 + c) / 4294967296) = Nt.val (a.take (i + 1)) + Nt.val (b.take (i + 1)) := by
  rw [Nt.val_set_take _ _ _ hi, Nt.val_take_step a, Nt.val_take_step b, Nat.pow_succ]
  have e := Nat.mod_add_div (a.getD i 0 + b.getD i 0 + c) 4294967296
  generalize a.getD i 0 = x at *
  generalize b.getD i 0 = y at *
  generalize (x + y + c) % 4294967296 = m at *
  generalize (x + y + c) / 4294967296 = q at *
  generalize 4294967296 ^ i = P at *
  have e2 : P * m + P * 4294967296 * q = P * x + P * y + P * c := by
    rw [Nat.mul_assoc, ← Nat.mul_add, e, Nat.mul_add, Nat.mul_add]
  omega
/-- One word of a difference: what is borrowed is 0 or 1. -/
theorem Nt.less_step {a b ws : List Nat} {i c : Nat} (h : Nt.val (ws.take i) + Nt.val (b.take i) = Nt.val (a.take i) + 4294967296 ^ i * c) (hi : i < ws.length) (ha : a.getD i 0 < 4294967296) (hb : b.getD i 0 < 4294967296) (hc : c ≤ 1) {d c' : Nat} (hd : d + b.getD i 0 + c = a.getD i 0 + 4294967296 * c') :
    Nt.val ((ws.set i d).take (i + 1)) + Nt.val (b.take (i + 1)) = Nt.val (a.take (i + 1)) + 4294967296 ^ (i + 1) * c' := by
  rw [Nt.val_set_take _ _ _ hi, Nt.val_take_step a, Nt.val_take_step b, Nat.pow_succ]
  generalize a.getD i 0 = x at *
  generalize b.getD i 0 = y at *
  generalize 4294967296 ^ i = P at *
  have e2 : P * d + P * y + P * c = P * x + P * 4294967296 * c' := by
    rw [Nat.mul_assoc, ← Nat.mul_add, ← Nat.mul_add, ← Nat.mul_add, hd]
  omega
/-- A division by one word, from above. -/
theorem Nt.val_drop_step (ws : List Nat) (i : Nat) (h : i < ws.length) : Nt.val (ws.drop i) = ws.getD i 0 + 4294967296 * Nt.val (ws.drop (i + 1)) := by
  rw [List.drop_eq_getElem_cons h, Nt.val, List.getD_eq_getElem?_getD, List.getElem?_eq_getElem h]
  rfl
theorem Nt.short_step {a ws : List Nat} {i r d : Nat} (h : Nt.val (a.drop (i + 1)) = d * Nt.val (ws.drop (i + 1)) + r) (hd : 0 < d) (hi : i < a.length) (hw : i < ws.length) :
    Nt.val (a.drop i) = d * Nt.val ((ws.set i ((4294967296 * r + a.getD i 0) / d)).drop i) + (4294967296 * r + a.getD i 0) % d := by
  have hl : i < (ws.set i ((4294967296 * r + a.getD i 0) / d)).length := by rw [List.length_set]; exact hw
  rw [Nt.val_drop_step a i hi, Nt.val_drop_step _ i hl, Nt.getD_set_self _ _ _ hw]
  have e1 : (ws.set i ((4294967296 * r + a.getD i 0) / d)).drop (i + 1) = ws.drop (i + 1) := by
    rw [List.drop_set]
    rw [if_pos (by omega)]
  rw [e1, h]
  have e := Nat.div_add_mod (4294967296 * r + a.getD i 0) d
  generalize a.getD i 0 = x at *
  generalize (4294967296 * r + x) / d = q at *
  generalize (4294967296 * r + x) % d = m at *
  generalize Nt.val (ws.drop (i + 1)) = V at *
  have e3 : d * (q + 4294967296 * V) = d * q + 4294967296 * (d * V) := by
    rw [Nat.mul_add, Nat.mul_left_comm]
  rw [e3, Nat.mul_add]
  omega
theorem Nt.short_lt {a r d : Nat} (ha : a < 4294967296) (hr : r < d) : (4294967296 * r + a) / d < 4294967296 := by
  rw [Nat.div_lt_iff_lt_mul (by omega)]
  have : 4294967296 * r + 4294967296 ≤ 4294967296 * d := by
    rw [show 4294967296 * r + 4294967296 = 4294967296 * (r + 1) by omega]
    exact Nat.mul_le_mul_left _ hr
  omega
/-- Which of two numbers is the greater, by their words from above. -/
theorem Nt.val_lt_of {a b : List Nat} (ha : Nt.Wd a) (hb : Nt.Wd b) (hl : a.length = b.length) {i : Nat} (hi : i < a.length) (hlt : a.getD i 0 < b.getD i 0) (hs : ∀ j, i < j → j < a.length → a.getD j 0 = b.getD j 0) : Nt.val a < Nt.val b := by
  have hd : a.drop (i + 1) = b.drop (i + 1) := by
    apply List.ext_getElem?
    intro j
    rw [List.getElem?_drop, List.getElem?_drop]
    rcases Nat.lt_or_ge (i + 1 + j) a.length with h | h
    · have := hs (i + 1 + j) (by omega) h
      rw [List.getD_eq_getElem?_getD, List.getD_eq_getElem?_getD, List.getElem?_eq_getElem h, List.getElem?_eq_getElem (by omega)] at this
      rw [List.getElem?_eq_getElem h, List.getElem?_eq_getElem (by omega)]
      simpa using this
    · rw [List.getElem?_eq_none h, List.getElem?_eq_none (by omega)]
  have ea : Nt.val a = Nt.val (a.take i) + 4294967296 ^ i * (a.getD i 0 + 4294967296 * Nt.val (a.drop (i + 1))) := by
    conv => lhs; rw [← List.take_append_drop i a]
    rw [Nt.val_append, List.length_take, Nat.min_eq_left (by omega), Nt.val_drop_step a i hi]
  have eb : Nt.val b = Nt.val (b.take i) + 4294967296 ^ i * (b.getD i 0 + 4294967296 * Nt.val (b.drop (i + 1))) := by
    conv => lhs; rw [← List.take_append_drop i b]
    rw [Nt.val_append, List.length_take, Nat.min_eq_left (by omega), Nt.val_drop_step b i (by omega)]
  rw [ea, eb, hd]
  have h1 := Nt.val_lt (a.take i) (ha.take i)
  rw [List.length_take, Nat.min_eq_left (by omega)] at h1
  generalize a.getD i 0 = x at *
  generalize b.getD i 0 = y at *
  generalize Nt.val (b.drop (i + 1)) = V at *
  generalize 4294967296 ^ i = P at *
  have h2 : P * (x + 4294967296 * V) + P ≤ P * (y + 4294967296 * V) := by
    rw [← Nat.mul_succ]
    exact Nat.mul_le_mul_left _ (by omega)
  omega
theorem Nt.dig_len_lt {m n : Nat} (h : (Nt.dig m).length < (Nt.dig n).length) : m < n := by
  have h1 := Nt.val_lt _ (Nt.dig_wd m)
  rw [Nt.val_dig] at h1
  have hn : 0 < n := Nt.dig_len_pos.1 (by omega)
  have hl := Nt.dig_last n hn
  have h2 : 4294967296 ^ ((Nt.dig n).length - 1) ≤ n := by
    have e := Nt.val_dig n
    have hlen : (Nt.dig n).length - 1 < (Nt.dig n).length := by omega
    have e2 : Nt.val (Nt.dig n) = Nt.val ((Nt.dig n).take ((Nt.dig n).length - 1)) + 4294967296 ^ ((Nt.dig n).length - 1) * (Nt.dig n).getD ((Nt.dig n).length - 1) 0 := by
      rw [← Nt.val_take_succ _ _ hlen, Nat.sub_add_cancel (by omega), List.take_length]
    rw [e] at e2
    have h3 : 4294967296 ^ ((Nt.dig n).length - 1) * 1 ≤ 4294967296 ^ ((Nt.dig n).length - 1) * (Nt.dig n).getD ((Nt.dig n).length - 1) 0 := Nat.mul_le_mul_left _ (by omega)
    omega
  have h4 : 4294967296 ^ (Nt.dig m).length ≤ 4294967296 ^ ((Nt.dig n).length - 1) := Nat.pow_le_pow_right (by decide) (by omega)
  omega
end Go.Proofs.YtikmebkfdpbidaaGreatDoor
namespace Go.Proofs.YtikmebkfdpbidaaGreatDoor
set_option linter.unusedVariables false

theorem Nt.times_bd {c x y o : Nat} (hc : c < 4294967296) (hx : x < 4294967296) (hy : y < 4294967296) (ho : o < 4294967296) : c + x * y + o < 18446744073709551616 ∧ (c + x * y + o) / 4294967296 < 4294967296 := by
  have h : x * y ≤ 4294967295 * 4294967295 := Nat.mul_le_mul (by omega) (by omega)
  constructor <;> omega
theorem Nt.times_step {ws b : List Nat} {i j c x V : Nat} (h : Nt.val ws + 4294967296 ^ (i + j) * c = V + 4294967296 ^ i * (x * Nt.val (b.take j))) (hi : i + j < ws.length) :
    Nt.val (ws.set (i + j) ((c + x * b.getD j 0 + ws.getD (i + j) 0) % 4294967296)) + 4294967296 ^ (i + (j + 1)) * ((c + x * b.getD j 0 + ws.getD (i + j) 0) / 4294967296) = V + 4294967296 ^ i * (x * Nt.val (b.take (j + 1))) := by
  have hs := Nt.val_set ws (i + j) ((c + x * b.getD j 0 + ws.getD (i + j) 0) % 4294967296) hi
  rw [Nt.val_take_step b j]
  have e := Nat.mod_add_div (c + x * b.getD j 0 + ws.getD (i + j) 0) 4294967296
  have ep : 4294967296 ^ (i + (j + 1)) = 4294967296 ^ (i + j) * 4294967296 := by rw [← Nat.add_assoc, Nat.pow_succ]
  have eq : 4294967296 ^ i * (x * (Nt.val (b.take j) + 4294967296 ^ j * b.getD j 0)) = 4294967296 ^ i * (x * Nt.val (b.take j)) + 4294967296 ^ (i + j) * (x * b.getD j 0) := by
    rw [Nat.mul_add, Nat.mul_add, Nat.pow_add]
    congr 1
    rw [Nat.mul_assoc, Nat.mul_left_comm x]
  rw [ep, eq]
  generalize Nt.val (ws.set (i + j) ((c + x * b.getD j 0 + ws.getD (i + j) 0) % 4294967296)) = W at *
  generalize ws.getD (i + j) 0 = o at *
  generalize x * b.getD j 0 = xy at *
  generalize (c + xy + o) % 4294967296 = m at *
  generalize (c + xy + o) / 4294967296 = q at *
  generalize 4294967296 ^ (i + j) = P at *
  have e2 : P * m + P * 4294967296 * q = P * c + P * xy + P * o := by
    rw [Nat.mul_assoc, ← Nat.mul_add, e, Nat.mul_add, Nat.mul_add]
  omega
theorem Nt.times_end {ws a b : List Nat} {i c : Nat} (h : Nt.val ws + 4294967296 ^ (i + b.length) * c = Nt.val (a.take i) * Nt.val b + 4294967296 ^ i * (a.getD i 0 * Nt.val (b.take b.length))) (hi : i + b.length < ws.length) (hz : ws.getD (i + b.length) 0 = 0) :
    Nt.val (ws.set (i + b.length) c) = Nt.val (a.take (i + 1)) * Nt.val b := by
  have hs := Nt.val_set ws (i + b.length) c hi
  rw [hz, Nat.mul_zero, Nat.add_zero] at hs
  rw [hs, h, List.take_length, Nt.val_take_step a i, Nat.add_mul, Nat.mul_assoc]
/-- Order by words, from above. -/
theorem Nt.dig_inj {m n : Nat} (h : Nt.dig m = Nt.dig n) : m = n := by
  rw [← Nt.val_dig m, h, Nt.val_dig]
theorem Nt.dig_same {m n : Nat} (hl : (Nt.dig m).length = (Nt.dig n).length) (h : ∀ j, j < (Nt.dig m).length → (Nt.dig m).getD j 0 = (Nt.dig n).getD j 0) : m = n := by
  refine Nt.dig_inj (List.ext_getElem hl (fun j h1 h2 => ?_))
  have := h j h1
  rw [List.getD_eq_getElem?_getD, List.getD_eq_getElem?_getD, List.getElem?_eq_getElem h1, List.getElem?_eq_getElem h2] at this
  simpa using this
def Nt.cmp (m n : Nat) : Int := if m < n then -1 else if m = n then 0 else 1
theorem Nt.cmp_lt {m n : Nat} (h : m < n) : Nt.cmp m n = -1 := by simp [Nt.cmp, h]
theorem Nt.cmp_gt {m n : Nat} (h : n < m) : Nt.cmp m n = 1 := by simp [Nt.cmp]; omega
theorem Nt.cmp_eq (m : Nat) : Nt.cmp m m = 0 := by simp [Nt.cmp]
theorem Nt.cmp_neg {m n : Nat} : Nt.cmp m n < 0 ↔ m < n := by
  unfold Nt.cmp
  split
  · simp; assumption
  · split <;> simp <;> omega
theorem Nt.gcd_step (a b : Nat) : Nat.gcd b (a % b) = Nat.gcd a b := by
  rw [Nat.gcd_comm a b, Nat.gcd_rec b a, Nat.gcd_comm]
end Go.Proofs.YtikmebkfdpbidaaGreatDoor
namespace Go.Proofs.YtikmebkfdpbidaaGreatDoor
open Go.RowKit
set_option linter.unusedVariables false

/-- The slice v reads as the words ws. -/
def Nt.In (w : World) (v : Value) (ws : List Nat) : Prop :=
  (v = .slice none 0 0 ∧ ws = []) ∨ (∃ a cap, v = .slice (some a) 0 cap ∧ ws = []) ∨
  (0 < ws.length ∧ ∃ b off cap, v = .slice (some ⟨b, off, none⟩) ws.length cap ∧ ws.length ≤ cap ∧ b < w.heap.size ∧ ∀ j, j < ws.length → w.cell? ⟨b, off + j, none⟩ = some (.int .u32 (ws.getD j 0 : Nat)))
/-- It reads as the number n. -/
def Nt.N (w : World) (v : Value) (n : Nat) : Prop := Nt.In w v (Nt.dig n)
theorem Nt.In.below {w w' : World} {v : Value} {ws : List Nat} {B : Nat} (h : Nt.In w v ws) (hb : Below B w w') (hB : w.heap.size ≤ B) : Nt.In w' v ws := by
  rcases h with h | h | ⟨h0, b, off, cap, hv, hc, hl, hcell⟩
  · exact .inl h
  · exact .inr (.inl h)
  · exact .inr (.inr ⟨h0, b, off, cap, hv, hc, by have := hb.size; omega, fun j hj => (hb.cell (p := ⟨b, off + j, none⟩) (by show b < B; omega)).trans (hcell j hj)⟩)
theorem Nt.N.below {w w' : World} {v : Value} {n : Nat} {B : Nat} (h : Nt.N w v n) (hb : Below B w w') (hB : w.heap.size ≤ B) : Nt.N w' v n := Nt.In.below h hb hB
theorem Nt.In.slice {w : World} {v : Value} {ws : List Nat} (h : Nt.In w v ws) : ∃ ad cap, v = .slice ad ws.length cap := by
  rcases h with ⟨rfl, rfl⟩ | ⟨a, cap, rfl, rfl⟩ | ⟨_, b, off, cap, rfl, _⟩
  · exact ⟨_, _, rfl⟩
  · exact ⟨_, _, rfl⟩
  · exact ⟨_, _, rfl⟩
theorem Nt.In.at {w : World} {ad : Option Addr} {n cap : Nat} {ws : List Nat} (h : Nt.In w (.slice ad n cap) ws) (h0 : 0 < ws.length) : ∃ b off, ad = some ⟨b, off, none⟩ ∧ n = ws.length ∧ ws.length ≤ cap ∧ b < w.heap.size ∧ ∀ j, j < ws.length → w.cell? ⟨b, off + j, none⟩ = some (.int .u32 (ws.getD j 0 : Nat)) := by
  rcases h with ⟨_, rfl⟩ | ⟨_, _, _, rfl⟩ | ⟨_, b, off, c, hv, hc, hl, hcell⟩
  · simp at h0
  · simp at h0
  · simp only [Value.slice.injEq] at hv
    obtain ⟨rfl, rfl, rfl⟩ := hv
    exact ⟨b, off, rfl, rfl, hc, hl, hcell⟩
theorem Nt.In.cap {w : World} {ad : Option Addr} {n cap : Nat} {ws : List Nat} (h : Nt.In w (.slice ad n cap) ws) : n = ws.length ∧ ws.length ≤ cap := by
  rcases h with ⟨hv, rfl⟩ | ⟨a, c, hv, rfl⟩ | ⟨_, b, off, c, hv, hc, _⟩
  · simp only [Value.slice.injEq] at hv; exact ⟨by simpa using hv.2.1, Nat.zero_le _⟩
  · simp only [Value.slice.injEq] at hv; exact ⟨by simpa using hv.2.1, Nat.zero_le _⟩
  · simp only [Value.slice.injEq] at hv; obtain ⟨_, rfl, rfl⟩ := hv; exact ⟨rfl, hc⟩
theorem Nt.In.nil (w : World) : Nt.In w (.slice none 0 0) [] := .inl ⟨rfl, rfl⟩
theorem Nt.N.zero (w : World) : Nt.N w (.slice none 0 0) 0 := by unfold Nt.N; rw [Nt.dig_zero]; exact Nt.In.nil w
/-- The first words, as a slice expression leaves them. -/
theorem Nt.In.takeN {w : World} {ad : Option Addr} {cap : Nat} {ws : List Nat} (h : Nt.In w (.slice ad ws.length cap) ws) (n : Nat) (hn : n ≤ ws.length) : Nt.In w (.slice ad n cap) (ws.take n) := by
  rcases h with ⟨hv, rfl⟩ | ⟨a, c, hv, rfl⟩ | ⟨h0, b, off, c, hv, hc, hl, hcell⟩
  · obtain rfl : n = 0 := by simpa using hn
    simp only [Value.slice.injEq] at hv
    obtain ⟨rfl, _, rfl⟩ := hv
    exact .inl ⟨rfl, rfl⟩
  · obtain rfl : n = 0 := by simpa using hn
    simp only [Value.slice.injEq] at hv
    obtain ⟨rfl, _, rfl⟩ := hv
    exact .inr (.inl ⟨a, cap, rfl, rfl⟩)
  · simp only [Value.slice.injEq] at hv
    obtain ⟨rfl, _, rfl⟩ := hv
    rcases Nat.eq_zero_or_pos n with hz | hz
    · subst hz
      exact .inr (.inl ⟨_, cap, rfl, by simp⟩)
    · have hlen : (ws.take n).length = n := by rw [List.length_take]; omega
      refine .inr (.inr ⟨by omega, b, off, cap, by rw [hlen], by omega, hl, fun j hj => ?_⟩)
      rw [hlen] at hj
      rw [hcell j (by omega), List.getD_eq_getElem?_getD, List.getD_eq_getElem?_getD, List.getElem?_take, if_pos hj]
/-- A row that the call has made. -/
def Nt.row (ws : List Nat) : Array Value := (ws.map fun (x : Nat) => Value.int .u32 (x : Int)).toArray
theorem Nt.row_size (ws : List Nat) : (Nt.row ws).size = ws.length := by simp [Nt.row]
theorem Nt.row_at (ws : List Nat) (k : Nat) (hk : k < ws.length) : (Nt.row ws)[k]? = some (.int .u32 (ws.getD k 0 : Nat)) := by
  rw [List.getD_eq_getElem?_getD, List.getElem?_eq_getElem hk]
  simp [Nt.row, List.getElem?_eq_getElem hk]
theorem Nt.row_set (ws : List Nat) (k x : Nat) : (Nt.row ws).set! k (.int .u32 (x : Int)) = Nt.row (ws.set k x) := by
  simp [Nt.row, List.map_set]
theorem Nt.cell_row {w : World} {T : Nat} {t : TypeId} {ws : List Nat} (h : w.heap[T]? = some (.cells (Nt.row ws) t (0, 0))) (k : Nat) (hk : k < ws.length) : w.cell? ⟨T, k, none⟩ = some (.int .u32 (ws.getD k 0 : Nat)) := by
  have e : w.cell? ⟨T, k, none⟩ = (Nt.row ws)[k]? := by simp [World.cell?, h]
  rw [e, Nt.row_at ws k hk]
theorem Nt.frozen_row {w : World} {T : Nat} {t : TypeId} {ws : List Nat} (h : w.heap[T]? = some (.cells (Nt.row ws) t (0, 0))) (k : Nat) : w.frozen? ⟨T, k, none⟩ = false := by
  simp [World.frozen?, h]
theorem Nt.set_row {w : World} {T : Nat} {t : TypeId} {ws : List Nat} (h : w.heap[T]? = some (.cells (Nt.row ws) t (0, 0))) (k x : Nat) : (w.setCell ⟨T, k, none⟩ (.int .u32 (x : Int))).heap[T]? = some (.cells (Nt.row (ws.set k x)) t (0, 0)) := by
  obtain ⟨hlt, hk⟩ := Array.getElem?_eq_some_iff.1 h
  rw [← Nt.row_set]
  show (w.heap.modify T _)[T]? = _
  rw [Array.getElem?_eq_getElem (by rw [Array.size_modify]; exact hlt), Array.getElem_modify_self, hk]
  rfl
theorem Nt.In.of_row {w : World} {T : Nat} {t : TypeId} {ws : List Nat} (h : w.heap[T]? = some (.cells (Nt.row ws) t (0, 0))) : Nt.In w (.slice (some ⟨T, 0, none⟩) ws.length ws.length) ws := by
  rcases Nat.eq_zero_or_pos ws.length with h0 | h0
  · have : ws = [] := List.eq_nil_of_length_eq_zero h0
    subst this
    exact .inr (.inl ⟨_, 0, rfl, rfl⟩)
  · refine .inr (.inr ⟨h0, T, 0, ws.length, rfl, Nat.le_refl _, (Array.getElem?_eq_some_iff.1 h).1, fun j hj => ?_⟩)
    rw [Nat.zero_add]
    exact Nt.cell_row h j hj
/-- A row of noughts, made. -/
theorem Nt.made_zeros (n : Nat) : madeCells (Value.int .u32 0).cells n = Nt.row (List.replicate n 0) := by
  apply Array.ext
  · simp [madeCells, Nt.row]
  · intro i h1 h2
    simp [madeCells, Value.cells, Nt.row, Nat.mod_one]
end Go.Proofs.YtikmebkfdpbidaaGreatDoor
namespace Go.Proofs.YtikmebkfdpbidaaGreatDoor.Ru
open Go.Lib

/-- Is it a character's number? -/
def okR (r : Int) : Prop := (0 ≤ r ∧ r < 55296) ∨ (57344 ≤ r ∧ r ≤ 1114111)
instance (r : Int) : Decidable (okR r) := by unfold okR; infer_instance

def unitsF : Nat → List UInt8 → List (Nat × Nat)
  | 0, _ => []
  | f + 1, l => if l = [] then [] else decodeL l :: unitsF f (l.drop (decodeL l).2)
/-- The characters of a text, each with its width (a bad byte: U+FFFD, 1). -/
def units (l : List UInt8) : List (Nat × Nat) := unitsF l.length l
def runes (l : List UInt8) : List Int := (units l).map fun u => (u.1 : Int)

theorem width_pos (l : List UInt8) (_h : l ≠ []) : 1 ≤ (decodeL l).2 := decodeL_width l
theorem width_le (l : List UInt8) (h : l ≠ []) : (decodeL l).2 ≤ l.length := decodeL_le l h

theorem unitsF_enough : ∀ (f g : Nat) (l : List UInt8), l.length ≤ f → l.length ≤ g → unitsF f l = unitsF g l
  | 0, g, l, h, _ => by
    have : l = [] := List.length_eq_zero_iff.1 (by omega)
    subst this
    cases g <;> simp [unitsF]
  | f + 1, 0, l, _, h => by
    have : l = [] := List.length_eq_zero_iff.1 (by omega)
    subst this
    simp [unitsF]
  | f + 1, g + 1, l, h1, h2 => by
    unfold unitsF
    by_cases hl : l = []
    · simp [hl]
    · rw [if_neg hl, if_neg hl]
      have := width_pos l hl
      rw [unitsF_enough f g (l.drop (decodeL l).2) (by simp; omega) (by simp; omega)]

theorem units_nil : units [] = [] := rfl
theorem units_step (l : List UInt8) (h : l ≠ []) : units l = decodeL l :: units (l.drop (decodeL l).2) := by
  have hl : 0 < l.length := List.length_pos_iff.2 h
  unfold units
  obtain ⟨n, hn⟩ : ∃ n, l.length = n + 1 := ⟨l.length - 1, by omega⟩
  rw [hn]
  show (if l = [] then [] else _) = _
  rw [if_neg h]
  have := width_pos l h
  rw [unitsF_enough n (l.drop (decodeL l).2).length _ (by simp; omega) (by simp)]
theorem runes_nil : runes [] = [] := rfl
theorem runes_step (l : List UInt8) (h : l ≠ []) : runes l = ((decodeL l).1 : Int) :: runes (l.drop (decodeL l).2) := by
  unfold runes; rw [units_step l h]; rfl

theorem decode_ok (l : List UInt8) (_hne : l ≠ []) : okR ((decodeL l).1 : Int) := by
  unfold okR
  rw [decodeL_N]
  have k0 := (l.getD 0 0).toNat_lt
  have k1 := (l.getD 1 0).toNat_lt
  have k2 := (l.getD 2 0).toNat_lt
  have k3 := (l.getD 3 0).toNat_lt
  rcases decodeN_shape l.length (l.getD 0 0).toNat (l.getD 1 0).toNat (l.getD 2 0).toNat (l.getD 3 0).toNat with ⟨c, e⟩ | ⟨c1, c2, c3, cv, e⟩ | ⟨c1, c2, c3, c4, cv, cs, e⟩ | ⟨c1, c2, c3, c4, c5, cv, cw, e⟩ | e <;> rw [e] <;> simp only [] <;> omega

theorem runes_ok : ∀ (f : Nat) (l : List UInt8), l.length ≤ f → ∀ r ∈ runes l, okR r
  | 0, l, h, r, hr => by
    have : l = [] := List.length_eq_zero_iff.1 (by omega)
    subst this
    cases hr
  | f + 1, l, h, r, hr => by
    by_cases hl : l = []
    · subst hl; cases hr
    · rw [runes_step l hl] at hr
      have := width_pos l hl
      rcases List.mem_cons.1 hr with rfl | hr
      · exact decode_ok l hl
      · exact runes_ok f _ (by simp; omega) r hr
theorem runes_okR (l : List UInt8) : ∀ r ∈ runes l, okR r := runes_ok l.length l (Nat.le_refl _)

/-- A bad number is encoded as U+FFFD is. -/
theorem encode_bad {r : Int} (h : ¬ okR r) : encodeRune r = encodeRune 65533 := by
  unfold okR at h
  unfold encodeRune
  rw [encodeRuneZ_bad (by omega), encodeRuneZ_three (r := 65533) (by omega)]
  rfl

def encs (rs : List Int) : List UInt8 := rs.flatMap encodeRune
theorem encs_nil : encs [] = [] := rfl
theorem encs_cons (r : Int) (rs : List Int) : encs (r :: rs) = encodeRune r ++ encs rs := by simp [encs]
theorem encs_append (a b : List Int) : encs (a ++ b) = encs a ++ encs b := by simp [encs]
theorem encode_ne (r : Int) : encodeRune r ≠ [] := by
  have := (encodeRuneZ_length r).1
  intro h
  have h2 := congrArg List.length h
  simp [encodeRune] at h2
  rw [h2] at this
  simp at this
theorem encode_length (r : Int) : 1 ≤ (encodeRune r).length ∧ (encodeRune r).length ≤ 4 := by
  have := encodeRuneZ_length r
  simpa [encodeRune] using this

theorem byteNat (z : Int) (_h0 : 0 ≤ z) (h1 : z < 256) : (z.toNat.toUInt8).toNat = z.toNat := by
  simp
  omega

set_option maxHeartbeats 1000000 in
/-- THE ENCODING OF A CHARACTER IS READ AS THAT CHARACTER, whatever stands behind it. -/
theorem decode_encode (r : Int) (h : okR r) (t : List UInt8) : decodeL (encodeRune r ++ t) = (r.toNat, (encodeRune r).length) := by
  unfold okR at h
  rw [decodeL_N]
  unfold encodeRune
  by_cases c1 : r ≤ 127
  · rw [encodeRuneZ_one (by omega) c1]
    have e0 := byteNat r (by omega) (by omega)
    simp only [List.map_cons, List.map_nil, List.cons_append, List.nil_append, List.getD_cons_zero, e0, List.length_cons, List.length_nil]
    unfold decodeN
    rw [if_pos (by omega)]
  by_cases c2 : r ≤ 2047
  · rw [encodeRuneZ_two (by omega) c2]
    have e0 := byteNat (192 + r / 64) (by omega) (by omega)
    have e1 := byteNat (128 + r % 64) (by omega) (by omega)
    simp only [List.map_cons, List.map_nil, List.cons_append, List.nil_append, List.getD_cons_zero, List.getD_cons_succ, e0, e1, List.length_cons, List.length_nil]
    unfold decodeN
    rw [if_neg (by omega), if_pos (by omega), if_pos (by omega)]
    refine Prod.ext ?_ rfl
    simp only []
    omega
  by_cases c3 : r ≤ 65535
  · rw [encodeRuneZ_three (by omega)]
    have e0 := byteNat (224 + r / 4096) (by omega) (by omega)
    have e1 := byteNat (128 + r / 64 % 64) (by omega) (by omega)
    have e2 := byteNat (128 + r % 64) (by omega) (by omega)
    simp only [List.map_cons, List.map_nil, List.cons_append, List.nil_append, List.getD_cons_zero, List.getD_cons_succ, e0, e1, e2, List.length_cons, List.length_nil]
    unfold decodeN
    rw [if_neg (by omega), if_neg (by omega), if_pos (by omega), if_pos (by omega)]
    refine Prod.ext ?_ rfl
    simp only []
    omega
  · rw [encodeRuneZ_four (by omega) (by omega)]
    have e0 := byteNat (240 + r / 262144) (by omega) (by omega)
    have e1 := byteNat (128 + r / 4096 % 64) (by omega) (by omega)
    have e2 := byteNat (128 + r / 64 % 64) (by omega) (by omega)
    have e3 := byteNat (128 + r % 64) (by omega) (by omega)
    simp only [List.map_cons, List.map_nil, List.cons_append, List.nil_append, List.getD_cons_zero, List.getD_cons_succ, e0, e1, e2, e3, List.length_cons, List.length_nil]
    unfold decodeN
    rw [if_neg (by omega), if_neg (by omega), if_neg (by omega), if_pos (by omega), if_pos (by omega)]
    refine Prod.ext ?_ rfl
    simp only []
    omega

theorem runes_encode (r : Int) (h : okR r) (t : List UInt8) : runes (encodeRune r ++ t) = r :: runes t := by
  rw [runes_step _ (by simp [encode_ne]), decode_encode r h t]
  simp only [List.drop_left]
  have : ((r.toNat : Nat) : Int) = r := by unfold okR at h; omega
  rw [this]
/-- Encoded characters, and what stands behind, are read as those characters and what stands behind. -/
theorem runes_encs : ∀ (rs : List Int) (t : List UInt8), (∀ r ∈ rs, okR r) → runes (encs rs ++ t) = rs ++ runes t
  | [], t, _ => rfl
  | r :: rs, t, h => by
    rw [encs_cons, List.append_assoc, runes_encode r (h r (by simp)), runes_encs rs t (fun x hx => h x (by simp [hx]))]
    rfl
theorem runes_of_encs (rs : List Int) (h : ∀ r ∈ rs, okR r) : runes (encs rs) = rs := by
  have := runes_encs rs [] h
  simpa [runes_nil] using this

/-- The model's decoding at a place is the list's. -/
theorem decode_drop (s : ByteArray) (pos : Nat) : Utf8.decode s pos = decodeL (s.data.toList.drop pos) := (decodeL_drop s pos).symm

/-- A text, character for character. -/
def mapT (F : Int → List Int) (l : List UInt8) : List UInt8 := encs ((runes l).flatMap F)
theorem mapT_nil (F : Int → List Int) : mapT F [] = [] := rfl
theorem mapT_step (F : Int → List Int) (l : List UInt8) (h : l ≠ []) : mapT F l = encs (F ((decodeL l).1 : Int)) ++ mapT F (l.drop (decodeL l).2) := by
  unfold mapT
  rw [runes_step l h, List.flatMap_cons, encs_append]
theorem mapT_at (F : Int → List Int) (s : ByteArray) (pos : Nat) (h : pos < s.size) :
    mapT F (s.data.toList.drop pos) = encs (F ((Utf8.decode s pos).1 : Int)) ++ mapT F (s.data.toList.drop (pos + (Utf8.decode s pos).2)) := by
  have hs : s.data.toList.length = s.size := by simp
  rw [mapT_step F _ (by intro h2; have := congrArg List.length h2; simp at this; omega), decode_drop, List.drop_drop]
theorem mapT_end (F : Int → List Int) (s : ByteArray) (pos : Nat) (h : ¬ pos < s.size) : mapT F (s.data.toList.drop pos) = [] := by
  have hs : s.data.toList.length = s.size := by simp
  rw [List.drop_eq_nil_of_le (by omega)]
  rfl
end Go.Proofs.YtikmebkfdpbidaaGreatDoor.Ru
namespace Go.Proofs.YtikmebkfdpbidaaGreatDoor.Sl
open Go.RowKit

theorem addr_add (b off j : Nat) : (⟨b, off, none⟩ : Addr).add j = ⟨b, off + j, none⟩ := by
  unfold Addr.add
  split <;> simp_all

/-- The slice value v can be read as the integers xs. -/
def IntsAt (k : IntKind) (w : World) (v : Value) (xs : List Int) : Prop :=
  (v = .slice none 0 0 ∧ xs = []) ∨ ∃ b off cap, v = .slice (some ⟨b, off, none⟩) xs.length cap ∧ b < w.heap.size ∧ ∀ i, i < xs.length → w.cell? ⟨b, off + i, none⟩ = some (.int k (xs.getD i 0))

theorem IntsAt.below {k : IntKind} {w w' : World} {v : Value} {xs : List Int} {B : Nat} (h : IntsAt k w v xs) (hb : Below B w w') (hB : w.heap.size ≤ B) : IntsAt k w' v xs := by
  rcases h with h | ⟨b, off, cap, hv, hlt, hc⟩
  · exact .inl h
  · refine .inr ⟨b, off, cap, hv, by have := hb.size; omega, fun i hi => ?_⟩
    rw [hb.cell (p := ⟨b, off + i, none⟩) (by show b < B; omega)]
    exact hc i hi
theorem IntsAt.alloc {k : IntKind} {w : World} {v : Value} {xs : List Int} (h : IntsAt k w v xs) (o : Obj) : IntsAt k (w.alloc o) v xs :=
  h.below ((Below.refl w.heap.size w).alloc (Nat.le_refl _) o) (Nat.le_refl _)

theorem IntsAt.of_own {k : IntKind} {w : World} {B : Nat} {t : TypeId} {v : Value} {xs : List Int} (h : w.ownsRow B t 1 v xs.length (xs.map (Value.int k))) : IntsAt k w v xs := by
  rcases h.2 with ⟨hv, h0⟩ | ⟨g, cap, cur, hv, hB, hg, hn, hm, hs, ht⟩
  · exact .inl ⟨hv, List.length_eq_zero_iff.1 h0⟩
  · refine .inr ⟨g, 0, cap, hv, (Array.getElem?_eq_some_iff.1 hg).1, fun i hi => ?_⟩
    have := h.cells (g := g) (by rw [hv]; rfl) i (.int k (xs.getD i 0)) (by simp [hi])
    rw [← this, addr_add]

theorem own_below {w w' : World} {B B2 : Nat} {t : TypeId} {v : Value} {n : Nat} {xs : List Value} (h : w.ownsRow B t 1 v n xs) (hb : Below B2 w w') (hB : w.heap.size ≤ B2) : w'.ownsRow B t 1 v n xs := by
  refine ⟨h.1, ?_⟩
  rcases h.2 with hv | ⟨g, cap, cur, hv, hB', hg, rest⟩
  · exact .inl hv
  · have hlt := (Array.getElem?_eq_some_iff.1 hg).1
    exact .inr ⟨g, cap, cur, hv, hB', by rw [hb.block g (by omega)]; exact hg, rest⟩

/-- What is owned stays owned while an iterator of a text moves on. -/
theorem own_iterAt {w : World} {B : Nat} {t : TypeId} {v : Value} {n : Nat} {xs : List Value} (h : w.ownsRow B t 1 v n xs) {k : Nat} {s : ByteArray} {pos : Nat} (hk : w.heap[k]? = some (.stringIter s pos)) (pos' : Nat) : (w.iterAt k s pos').ownsRow B t 1 v n xs := by
  refine ⟨h.1, ?_⟩
  rcases h.2 with hv | ⟨g, cap, cur, hv, hB', hg, rest⟩
  · exact .inl hv
  · refine .inr ⟨g, cap, cur, hv, hB', ?_, rest⟩
    rw [Lib.iterAt_other]
    · exact hg
    · intro e
      rw [e, hk] at hg
      cases hg

/-- An iterator stands where it stood behind a write to a row that is owned. -/
theorem iter_grown {w w' : World} {B : Nat} {t : TypeId} {v : Value} {n : Nat} {xs : List Value} (h : w.ownsRow B t 1 v n xs) (hg : w.grownBy w' v.ownBlock) {k : Nat} {s : ByteArray} {pos : Nat} (hk : w.heap[k]? = some (.stringIter s pos)) : w'.heap[k]? = some (.stringIter s pos) := by
  have hlt := (Array.getElem?_eq_some_iff.1 hk).1
  rw [hg.block k hlt ?_]
  · exact hk
  · intro hc
    rcases h.2 with ⟨hv, _⟩ | ⟨g, cap, cur, hv, _, hgg, _⟩
    · rw [hv] at hc; cases hc
    · rw [hv] at hc
      simp [Value.ownBlock] at hc
      subst hc
      rw [hk] at hgg
      cases hgg

theorem own_empty (w : World) (t : TypeId) : (w.alloc (.cells #[] t)).ownsRow w.heap.size t 1 (.slice (some ⟨w.heap.size, 0, none⟩) 0 0) 0 [] :=
  ⟨by simp, .inr ⟨w.heap.size, 0, #[], rfl, Nat.le_refl _, heap_alloc_new w _, Nat.le_refl _, Nat.zero_le _, by simp, by simp⟩⟩
theorem below_own {B B2 : Nat} {w wr w' : World} {t : TypeId} {v : Value} {n : Nat} {xs : List Value} (hb : Below B w wr) (ho : wr.ownsRow B2 t 1 v n xs) (hg : wr.grownBy w' v.ownBlock) (h2 : B ≤ B2) (h3 : B2 ≤ wr.heap.size) : Below B w w' :=
  hb.grown hg (by omega) (fun k hk => by have := (ho.lt k hk).1; omega)

theorem one_new (w : World) (v : Value) (t : TypeId) : ∀ (j : Nat) (u : Value), ([v] : List Value)[j]? = some u → (w.alloc (.cells #[v] t)).cell? ((⟨w.heap.size, 0, none⟩ : Addr).add j) = some u := by
  intro j u hj
  match j, hj with
  | 0, hj => simp at hj; subst hj; simp [Addr.add]
theorem two_new (w : World) (v x : Value) (t : TypeId) : ∀ (j : Nat) (u : Value), ([v, x] : List Value)[j]? = some u → (w.alloc (.cells #[v, x] t)).cell? ((⟨w.heap.size, 0, none⟩ : Addr).add j) = some u := by
  intro j u hj
  match j, hj with
  | 0, hj => simp at hj; subst hj; simp [Addr.add]
  | 1, hj => simp at hj; subst hj; simp [Addr.add]

theorem ub (n : Nat) (z : Int) (h : z.toNat = n) : UInt8.ofNat n = z.toNat.toUInt8 := by subst h; rfl
theorem encode_ok (n : Nat) (h : Ru.okR (n : Int)) : Utf8.encode (n : Int) = ⟨(Lib.encodeRune (n : Int)).toArray⟩ := by
  have hv : Utf8.valid (n : Int) = true := by
    unfold Ru.okR at h
    unfold Utf8.valid
    simp only [Bool.or_eq_true, Bool.and_eq_true, decide_eq_true_eq]
    omega
  unfold Utf8.encode Lib.encodeRune
  unfold Ru.okR at h
  simp only [hv, if_true, Int.toNat_natCast]
  by_cases c1 : n < 128
  · rw [if_pos c1, Lib.encodeRuneZ_one (by omega) (by omega), ub n (n : Int) (by omega)]
    rfl
  rw [if_neg c1]
  by_cases c2 : n < 2048
  · rw [if_pos c2, Lib.encodeRuneZ_two (by omega) (by omega), ub _ (192 + (n : Int) / 64) (by omega), ub _ (128 + (n : Int) % 64) (by omega)]
    rfl
  rw [if_neg c2]
  by_cases c3 : n < 65536
  · rw [if_pos c3, Lib.encodeRuneZ_three (by omega), ub _ (224 + (n : Int) / 4096) (by omega), ub _ (128 + (n : Int) / 64 % 64) (by omega), ub _ (128 + (n : Int) % 64) (by omega)]
    rfl
  rw [if_neg c3, Lib.encodeRuneZ_four (by omega) (by omega), ub _ (240 + (n : Int) / 262144) (by omega), ub _ (128 + (n : Int) / 4096 % 64) (by omega), ub _ (128 + (n : Int) / 64 % 64) (by omega), ub _ (128 + (n : Int) % 64) (by omega)]
  rfl
theorem encode_no (r : Int) (h : ¬ Ru.okR r) : Utf8.encode r = Utf8.encode 65533 := by
  have hv : Utf8.valid r = false := by
    unfold Ru.okR at h
    unfold Utf8.valid
    rw [Bool.eq_false_iff]
    simp only [ne_eq, Bool.or_eq_true, Bool.and_eq_true, decide_eq_true_eq]
    omega
  unfold Utf8.encode
  rw [hv]
  rfl
theorem encode_eq (r : Int) : Utf8.encode r = ⟨(Lib.encodeRune r).toArray⟩ := by
  by_cases h : Ru.okR r
  · obtain ⟨n, rfl⟩ := Int.eq_ofNat_of_zero_le (a := r) (by unfold Ru.okR at h; omega)
    exact encode_ok n h
  · rw [encode_no r h, Ru.encode_bad h]
    exact encode_ok 65533 (by unfold Ru.okR; omega)

theorem runesBytes_foldl : ∀ (rs : List Int) (a : ByteArray), rs.foldl (fun r n => r ++ Utf8.encode n) a = ⟨a.data ++ (Ru.encs rs).toArray⟩
  | [], a => by simp [Ru.encs]
  | r :: rs, a => by
    rw [List.foldl_cons, runesBytes_foldl rs, Ru.encs_cons, encode_eq]
    simp
theorem runesBytes_eq (rs : List Int) : runesBytes rs = ⟨(Ru.encs rs).toArray⟩ := by
  unfold runesBytes
  rw [runesBytes_foldl]
  simp

/-- 'string(rs)' of characters that can be read. -/
theorem run_string {P : Program} (w : World) (src dst e : TypeId) (v : Value) (rs : List Int) (hs : P.underlying src = some (.slice e)) (he : P.underlying e = some (.int .i32)) (hd : P.underlying dst = some .string) (h : IntsAt .i32 w v rs) :
    (convert src dst v).run P w = .ok (.string ⟨(Ru.encs rs).toArray⟩) w := by
  rcases h with ⟨rfl, rfl⟩ | ⟨b, off, cap, rfl, _, hc⟩
  · exact run_convert_runes_nil w src dst e 0 0 hs he hd
  · have := run_convert_runes w src dst e ⟨b, off, none⟩ rs.length cap rs (Nat.le_refl _) hs he hd (fun j hj => by
      rw [addr_add]
      exact hc j hj)
    rw [List.take_length, runesBytes_eq] at this
    exact this
end Go.Proofs.YtikmebkfdpbidaaGreatDoor.Sl
namespace Go.Proofs.YtikmebkfdpbidaaGreatDoor
open Go.RowKit
set_option linter.unusedVariables false
set_option linter.unusedSimpArgs false

theorem Nt.infoWord : (Tryz.prog.info? 144).map (fun i => (i.zero, i.size, i.bytes)) = some (some (.int .u32 0), 1, 4) := by kernel_rfl
theorem Nt.In.of_own {w : World} {B : Nat} {t : TypeId} {v : Value} {ws : List Nat} (h : w.ownsRow B t 1 v ws.length (ws.map fun (x : Nat) => Value.int .u32 (x : Int))) : Nt.In w v ws := by
  rcases h.2 with ⟨hv, h0⟩ | ⟨g, cap, cur, rfl, hB, hg, hn, _⟩
  · have : ws = [] := List.eq_nil_of_length_eq_zero h0
    subst this
    exact .inl ⟨hv, rfl⟩
  · rcases Nat.eq_zero_or_pos ws.length with h0 | h0
    · have : ws = [] := List.eq_nil_of_length_eq_zero h0
      subst this
      exact .inr (.inl ⟨_, cap, rfl, rfl⟩)
    · refine .inr (.inr ⟨h0, g, 0, cap, rfl, hn, (Array.getElem?_eq_some_iff.1 hg).1, fun j hj => ?_⟩)
      have := h.cells (g := g) rfl j (.int .u32 (ws.getD j 0 : Nat)) (by rw [List.getD_eq_getElem?_getD, List.getElem?_map, List.getElem?_eq_getElem hj]; rfl)
      rwa [Sl.addr_add] at this

set_option maxHeartbeats 4000000 in
set_option maxRecDepth 1000000 in
theorem Nt.Trim_same (ws : List Nat) (v : Value) (w : World) (h : Nt.In w v ws) (hw : Nt.Wd ws) (hl : ws.length ≤ 4611686018427387904) : Calls Tryz.prog 131 #[v] w fun e w' => e = .returned (.int .i64 ((Nt.dig (Nt.val ws)).length : Nat)) ∧ w = w' := by
  obtain ⟨ad, cap, rfl⟩ := h.slice
  have H := Lib.hid h
  have HW := Lib.hid hw
  clear h hw
  go_enter Tryz.func131, Tryz.ntmps131
  go_wp2_with fail
  go_loopw [3] (fun i wr => wr = w ∧ ∃ n : Nat, i = .int .i64 n ∧ n ≤ ws.length ∧ ∀ j, n ≤ j → j < ws.length → ws.getD j 0 = 0) (fun i _ => (intOf i).toNat)
  case atStart => exact ⟨rfl, ws.length, rfl, Nat.le_refl _, fun j h1 h2 => by omega⟩
  case round =>
    obtain ⟨hwr, n, rfl, hn, hz⟩ := hrel
    subst hwr
    have HZ := Lib.hid hz
    clear hz
    have fin : (n = 0 ∨ ws.getD (n - 1) 0 ≠ 0) → (Nt.dig (Nt.val ws)).length = n := fun ht => by
      rw [← Nt.dig_of HW.out hn HZ.out ht, List.length_take]; omega
    have FIN := Lib.hid fin
    clear fin
    rcases n with _ | n
    · have hr := FIN.out (.inl rfl)
      go_wp2_with fail
      go_ret
      exact ⟨by first | rfl | (rw [hr]; rfl), rfl⟩
    · obtain ⟨b, off, rfl, _, hcap, hbl, hcell⟩ := H.out.at (by omega)
      have c0 := hcell n (by omega)
      clear hcell
      by_cases hx : ws.getD n 0 = 0
      · rw [hx] at c0
        have HX := Lib.hid hx
        clear hx
        go_wp2_with fail
        go_roundw
        case rel =>
          refine ⟨by first | rfl | trivial, n, by first | rfl | go_num | (simp; try omega), by omega, fun j h1 h2 => ?_⟩
          rcases Nat.lt_or_ge n j with h | h
          · exact HZ.out j (by omega) h2
          · obtain rfl : j = n := by omega
            exact HX.out
        case measure => simp [intOf]
      · have hr := FIN.out (.inr hx)
        have hx0 : ((ws.getD n 0 : Nat) == (0 : Int)) = false := by simp; exact hx
        generalize ws.getD n 0 = x at *
        clear hx
        go_wp2_with fail
        go_ret
        exact ⟨by first | rfl | (rw [hr]; rfl), rfl⟩
theorem Nt.Trim_any (ws : List Nat) (v : Value) (w : World) (h : Nt.In w v ws) (hw : Nt.Wd ws) (hl : ws.length ≤ 4611686018427387904) : Calls Tryz.prog 131 #[v] w fun e w' => e = .returned (.int .i64 ((Nt.dig (Nt.val ws)).length : Nat)) ∧ Below w.heap.size w w' :=
  (Nt.Trim_same ws v w h hw hl).mono fun _ _ ⟨he, hw⟩ => ⟨he, hw ▸ Below.refl _ _⟩
set_option maxHeartbeats 4000000 in
set_option maxRecDepth 1000000 in
theorem Nt.norm_same (ws : List Nat) (ad : Option Addr) (cap : Nat) (w : World) (h : Nt.In w (.slice ad ws.length cap) ws) (hw : Nt.Wd ws) (hl : ws.length ≤ 4611686018427387904) : Calls Tryz.prog 85 #[.slice ad ws.length cap] w fun e w' => e = .returned (.slice ad (Nt.dig (Nt.val ws)).length cap) ∧ w = w' := by
  have KT := fun w h => Nt.Trim_same ws (.slice ad ws.length cap) w h hw hl
  have H := Lib.hid h
  have hcap := h.cap.2
  obtain ⟨n, hn⟩ : ∃ n, (Nt.dig (Nt.val ws)).length = n := ⟨_, rfl⟩
  rw [hn] at KT
  have hnl : n ≤ ws.length := hn ▸ (Nt.take_dig hw).1
  have h1 : (0 : Int) ≤ (n : Int) := by omega
  have h2 : (n : Int) ≤ (cap : Int) := by omega
  have HN := Lib.hid hn
  clear h hn
  go_enter Tryz.func85, Tryz.ntmps85
  go_wp2_with fail
  refine (KT _ H.out).mono ?_
  rintro x w1 ⟨rfl, hw1⟩
  subst hw1
  go_wp2_with fail
  go_ret
  exact ⟨by rw [HN.out]; rfl, rfl⟩
theorem Nt.norm_eq (ws : List Nat) (ad : Option Addr) (cap : Nat) (w : World) (h : Nt.In w (.slice ad ws.length cap) ws) (hw : Nt.Wd ws) (hl : ws.length ≤ 4611686018427387904) : Calls Tryz.prog 85 #[.slice ad ws.length cap] w fun e w' => e = .returned (.slice ad (Nt.dig (Nt.val ws)).length cap) ∧ Below w.heap.size w w' :=
  (Nt.norm_same ws ad cap w h hw hl).mono fun _ _ ⟨he, hw⟩ => ⟨he, hw ▸ Below.refl _ _⟩
theorem Nt.norm_any (ws : List Nat) (v : Value) (w : World) (h : Nt.In w v ws) (hw : Nt.Wd ws) (hl : ws.length ≤ 4611686018427387904) : Calls Tryz.prog 85 #[v] w fun e w' => ∃ v', e = .returned v' ∧ Nt.N w' v' (Nt.val ws) ∧ Below w.heap.size w w' := by
  obtain ⟨ad, cap, rfl⟩ := h.slice
  refine (Nt.norm_eq ws ad cap w h hw hl).mono fun e w' ⟨he, hb⟩ => ⟨_, he, ?_, hb⟩
  unfold Nt.N
  have := (h.below hb (Nat.le_refl _)).takeN _ (Nt.take_dig hw).1
  rwa [(Nt.take_dig hw).2] at this
/-- The cells of words. -/
def Nt.vs (ws : List Nat) : List Value := ws.map fun (x : Nat) => Value.int .u32 (x : Int)
theorem Nt.norm_own (ws : List Nat) (v : Value) (w : World) {B : Nat} {t : TypeId} (h : w.ownsRow B t 1 v ws.length (Nt.vs ws)) (hw : Nt.Wd ws) (hl : ws.length ≤ 4611686018427387904) : Calls Tryz.prog 85 #[v] w fun e w' => ∃ v', e = .returned v' ∧ w'.ownsRow B t 1 v' (Nt.dig (Nt.val ws)).length (Nt.vs (Nt.dig (Nt.val ws))) ∧ Below w.heap.size w w' := by
  have hin := Nt.In.of_own h
  obtain ⟨ad, cap, rfl⟩ := hin.slice
  refine (Nt.norm_eq ws ad cap w hin hw hl).mono fun e w' ⟨he, hb⟩ => ⟨_, he, ?_, hb⟩
  have h' := Sl.own_below h hb (Nat.le_refl _)
  obtain ⟨h1, h2⟩ := Nt.take_dig hw
  generalize Nt.dig (Nt.val ws) = ds at *
  refine ⟨by simp [Nt.vs], ?_⟩
  rcases h'.2 with ⟨hv, h0⟩ | ⟨g, c, cur, hv, hB, hg, hn, hm, hs, ht⟩
  · have : ds.length = 0 := by omega
    simp only [Value.slice.injEq] at hv
    exact .inl ⟨by rw [hv.1, hv.2.2, this], this⟩
  · simp only [Value.slice.injEq] at hv
    obtain ⟨rfl, _, rfl⟩ := hv
    refine .inr ⟨g, cap, cur, rfl, hB, hg, by omega, hm, hs, ?_⟩
    have e : cur.toList.take (ds.length * 1) = (cur.toList.take (ws.length * 1)).take ds.length := by
      rw [List.take_take, Nat.min_eq_left (by omega), Nat.mul_one]
    rw [e, ht, ← h2]
    simp [Nt.vs, List.map_take]

def Nt.sound (ws : List Nat) : Bool := decide (ws.length ≤ 512) && decide ((Nt.dig (Nt.val ws)).length = ws.length)
theorem Nt.sound_dig (n : Nat) : Nt.sound (Nt.dig n) = decide ((Nt.dig n).length ≤ 512) := by
  unfold Nt.sound
  rw [Nt.val_dig]
  simp
theorem Nt.sound_eq {ws : List Nat} (hw : Nt.Wd ws) (h : Nt.sound ws = true) : ws = Nt.dig (Nt.val ws) ∧ ws.length ≤ 512 := by
  unfold Nt.sound at h
  simp only [Bool.and_eq_true, decide_eq_true_eq] at h
  have := (Nt.take_dig hw).2
  rw [h.2, List.take_length] at this
  exact ⟨this, h.1⟩
set_option maxHeartbeats 4000000 in
set_option maxRecDepth 1000000 in
theorem Nt.Sound_any (ws : List Nat) (v : Value) (w : World) (h : Nt.In w v ws) (hw : Nt.Wd ws) (hl : ws.length ≤ 4611686018427387904) : Calls Tryz.prog 210 #[v] w fun e w' => e = .returned (.bool (Nt.sound ws)) ∧ Below w.heap.size w w' := by
  have KT := fun w h => Nt.Trim_any ws v w h hw hl
  obtain ⟨ad, cap, rfl⟩ := h.slice
  have H := Lib.hid h
  clear h
  have hs : Nt.sound ws = (decide (ws.length ≤ 512) && decide ((Nt.dig (Nt.val ws)).length = ws.length)) := rfl
  rw [hs]
  generalize (Nt.dig (Nt.val ws)).length = n at *
  clear hs hw hl
  by_cases h1 : ws.length ≤ 512
  · have h1I : (ws.length : Int) ≤ 512 := by omega
    rw [decide_eq_true h1]
    go_enter Tryz.func210, Tryz.ntmps210
    go_wp2_with fail
    refine (KT _ H.out).mono ?_
    rintro x w1 ⟨rfl, hb1⟩
    have HB1 := Lib.hid hb1
    clear hb1
    by_cases h2 : n = ws.length
    · subst h2
      go_wp2_with fail
      go_ret
      exact ⟨by simp, HB1.out⟩
    · have h2I : ((n : Int) == (ws.length : Int)) = false := by simp; omega
      go_wp2_with fail
      go_ret
      exact ⟨by simp [h2], HB1.out⟩
  · have h1I : ¬ (ws.length : Int) ≤ 512 := by omega
    rw [decide_eq_false h1]
    go_enter Tryz.func210, Tryz.ntmps210
    go_wp2_with fail
    go_ret
    exact ⟨by simp, Below.refl _ _⟩
set_option maxHeartbeats 4000000 in
set_option maxRecDepth 1000000 in
theorem Nt.Of_any (u : Nat) (w : World) (hu : u < 18446744073709551616) : Calls Tryz.prog 51 #[.int .u64 (u : Nat)] w fun e w' => ∃ v', e = .returned v' ∧ Nt.N w' v' u ∧ Below w.heap.size w w' := by
  have hin : Nt.In (w.alloc (.cells #[.int .u32 ((u : Int) % 4294967296), .int .u32 ((u : Int) / 4294967296)] 144)) (.slice (some ⟨w.heap.size, 0, none⟩) 2 2) [u % 4294967296, u / 4294967296] := by
    have e : (#[.int .u32 ((u : Int) % 4294967296), .int .u32 ((u : Int) / 4294967296)] : Array Value) = Nt.row [u % 4294967296, u / 4294967296] := by
      simp [Nt.row]
    rw [e]
    exact Nt.In.of_row (heap_alloc_new w _)
  have hwd : Nt.Wd [u % 4294967296, u / 4294967296] := by
    intro x hx
    simp only [List.mem_cons, List.not_mem_nil, or_false] at hx
    omega
  have hval : Nt.val [u % 4294967296, u / 4294967296] = u := by simp [Nt.val]; omega
  have hb0 : Below w.heap.size w (w.alloc (.cells #[.int .u32 ((u : Int) % 4294967296), .int .u32 ((u : Int) / 4294967296)] 144)) := (Below.refl _ _).alloc (Nat.le_refl _) _
  have KN := fun w v h => Nt.norm_any [u % 4294967296, u / 4294967296] v w h hwd (by simp)
  rw [hval] at KN
  have HIN := Lib.hid hin
  have HB0 := Lib.hid hb0
  clear hin hwd hval hb0
  go_enter Tryz.func51, Tryz.ntmps51
  go_wp2_with fail
  refine (KN _ _ HIN.out).mono ?_
  rintro x w1 ⟨v1, rfl, hn1, hb1⟩
  have HN1 := Lib.hid hn1
  have HB1 := Lib.hid (HB0.out.trans (hb1.mono HB0.out.size))
  clear hn1 hb1
  go_wp2_with fail
  go_ret
  exact ⟨_, rfl, HN1.out, HB1.out⟩
set_option maxHeartbeats 4000000 in
set_option maxRecDepth 1000000 in
theorem Nt.Clone_own (ws : List Nat) (v : Value) (w : World) (h : Nt.In w v ws) (hl : ws.length ≤ 1000000) : Calls Tryz.prog 173 #[v] w fun e w' => ∃ v', e = .returned v' ∧ w'.ownsRow w.heap.size 144 1 v' ws.length (ws.map fun (x : Nat) => Value.int .u32 (x : Int)) ∧ Below w.heap.size w w' := by
  obtain ⟨i0, hi0, hz0, hz1, hz2⟩ := info_parts Nt.infoWord
  have q22 : ∀ (w : World) (a : Option Addr) (n c n' c' : Nat), (binOp .eql 22 (.slice a n c) (.slice none n' c')).run Tryz.prog w = .ok (.bool a.isNone) w := fun w a n c n' c' => Lib.run_eql_slice_nil w _ _ a n c n' c' Tryz.underlying22
  rcases id h with ⟨rfl, rfl⟩ | ⟨a, cap, rfl, rfl⟩ | ⟨h0, b, off, cap, rfl, hc, hbl, hcell⟩
  · clear h
    go_enter Tryz.func173, Tryz.ntmps173
    go_wp2_with fail
    go_ret
    exact ⟨_, rfl, ⟨by simp, .inl ⟨rfl, rfl⟩⟩, Below.refl _ _⟩
  · clear h
    have hb1 : Below w.heap.size w (w.alloc (.cells #[] 144)) := (Below.refl _ _).alloc (Nat.le_refl _) _
    have hown := Sl.own_empty w 144
    have HB1 := Lib.hid hb1
    go_enter Tryz.func173, Tryz.ntmps173
    go_wp2_with (at_builtin; refine wpList_append_own _ rfl _ _ 22 rfl w.heap.size 144 i0 (.int .u32 0) 1 4 Tryz.underlying22 hi0 hz0 hz1 hz2 rfl (by decide) _ 0 _ rfl hown a 0 cap [] rfl rfl (fun j u hj => by simp at hj) (fun u hu => by cases hu) (by decide) (by decide) ?c4 ?_)
    case c4 => exact HB1.out.size
    intro v9 w9 hown9 hgr9 _
    have HB9 := Lib.hid (HB1.out.grown hgr9 HB1.out.size (fun k hk => (hown.lt k hk).1))
    have HO9 := Lib.hid hown9
    clear hown9 hgr9 hown hb1
    go_wp2_with fail
    go_ret
    exact ⟨_, rfl, HO9.out, HB9.out⟩
  · clear h
    have hb1 : Below w.heap.size w (w.alloc (.cells #[] 144)) := (Below.refl _ _).alloc (Nat.le_refl _) _
    have hown := Sl.own_empty w 144
    have HB1 := Lib.hid hb1
    have hnews : ∀ j u, (ws.map fun (x : Nat) => Value.int .u32 (x : Int))[j]? = some u → (w.alloc (.cells #[] 144)).cell? ((⟨b, off, none⟩ : Addr).add j) = some u := by
      intro j u hj
      have hjl : j < ws.length := by simpa using (List.getElem?_eq_some_iff.1 hj).1
      rw [Sl.addr_add]
      refine (hb1.cell (p := ⟨b, off + j, none⟩) hbl).trans ((hcell j hjl).trans ?_)
      rw [← hj, List.getD_eq_getElem?_getD, List.getElem?_map, List.getElem?_eq_getElem hjl]
      rfl
    have hl2 : (ws.map fun (x : Nat) => Value.int .u32 (x : Int)).length = ws.length * 1 := by simp
    have h1c : ∀ u ∈ (ws.map fun (x : Nat) => Value.int .u32 (x : Int)), u.oneCell' = true := by
      intro u hu
      obtain ⟨x, _, rfl⟩ := List.mem_map.1 hu
      rfl
    have HNE := Lib.hid hnews
    have HL2 := Lib.hid hl2
    have H1C := Lib.hid h1c
    have hne : ws ≠ [] := by intro e; subst e; simp at h0
    clear hnews hl2 h1c hcell
    go_enter Tryz.func173, Tryz.ntmps173
    go_wp2_with (at_builtin; refine wpList_append_own _ rfl _ _ 22 rfl w.heap.size 144 i0 (.int .u32 0) 1 4 Tryz.underlying22 hi0 hz0 hz1 hz2 rfl (by decide) _ 0 _ rfl hown ⟨b, off, none⟩ ws.length cap (ws.map fun (x : Nat) => Value.int .u32 (x : Int)) rfl HL2.out HNE.out H1C.out ?c2 ?c3 ?c4 ?_)
    case c2 => unfold maxLen; omega
    case c3 => omega
    case c4 => exact HB1.out.size
    intro v9 w9 hown9 hgr9 _
    have HB9 := Lib.hid (HB1.out.grown hgr9 HB1.out.size (fun k hk => (hown.lt k hk).1))
    try rw [Nat.zero_add, List.nil_append] at hown9
    have HO9 := Lib.hid hown9
    clear hown9 hgr9 hown hb1
    go_wp2_with fail
    go_ret
    exact ⟨_, rfl, HO9.out, HB9.out⟩
theorem Nt.Clone_any (ws : List Nat) (v : Value) (w : World) (h : Nt.In w v ws) (hl : ws.length ≤ 1000000) : Calls Tryz.prog 173 #[v] w fun e w' => ∃ v', e = .returned v' ∧ Nt.In w' v' ws ∧ Below w.heap.size w w' :=
  (Nt.Clone_own ws v w h hl).mono fun _ _ ⟨v', he, ho, hb⟩ => ⟨v', he, Nt.In.of_own ho, hb⟩
end Go.Proofs.YtikmebkfdpbidaaGreatDoor
namespace Go.Proofs.YtikmebkfdpbidaaGreatDoor
open Go.RowKit
set_option linter.unusedVariables false
set_option linter.unusedSimpArgs false

theorem Nt.bits_u32 (a b : Nat) (ha : a < 4294967296) (hb : b < 4294967296) : bits .and .u32 (a : Int) (b : Int) = ((a &&& b : Nat) : Int) ∧ bits .or .u32 (a : Int) (b : Int) = ((a ||| b : Nat) : Int) ∧ bits .xor .u32 (a : Int) (b : Int) = ((a ^^^ b : Nat) : Int) := by
  have hk : ∀ n : Int, 0 ≤ n → n < 2 ^ 32 → IntKind.u32.wrap n = n := fun n h0 h1 => by rw [IntKind.wrap_u32]; omega
  obtain ⟨h1, h2⟩ := bits_nat .u32 32 (by decide) hk a b ha hb
  refine ⟨h1, h2, ?_⟩
  have ha' : a % 2 ^ IntKind.u32.bits = a := Nat.mod_eq_of_lt ha
  have hb' : b % 2 ^ IntKind.u32.bits = b := Nat.mod_eq_of_lt hb
  simp only [bits, BitVec.ofInt_natCast, BitVec.toNat_xor, BitVec.toNat_ofNat, ha', hb']
  have : a ^^^ b < 2 ^ 32 := Nat.xor_lt_two_pow ha hb
  exact hk _ (by omega) (by omega)
theorem Nt.top_bit {n : Nat} (h : n < 4294967296) : n / 2147483648 = (n.testBit 31).toNat := by
  rw [Nat.testBit_eq_decide_div_mod_eq]
  have e : (2 : Nat) ^ 31 = 2147483648 := by decide
  rw [e]
  have : n / 2147483648 < 2 := by omega
  rcases Nat.lt_or_ge (n / 2147483648) 1 with h | h
  · have : n / 2147483648 = 0 := by omega
    simp [this]
  · have : n / 2147483648 = 1 := by omega
    simp [this]
theorem Nt.not_lt {n : Nat} (h : n < 4294967296) : 4294967295 ^^^ n < 4294967296 := Nat.xor_lt_two_pow (n := 32) (by decide) h
/-- The borrow, as its bits are reckoned. -/
theorem Nt.borrow {x y c d : Nat} (hx : x < 4294967296) (hy : y < 4294967296) (hc : c ≤ 1) (hd : (d : Int) = ((x : Int) - (y : Int) - (c : Int)) % 4294967296) :
    d < 4294967296 ∧ ((4294967295 ^^^ x) &&& y ||| (4294967295 ^^^ (x ^^^ y)) &&& d) / 2147483648 ≤ 1 ∧ d + y + c = x + 4294967296 * (((4294967295 ^^^ x) &&& y ||| (4294967295 ^^^ (x ^^^ y)) &&& d) / 2147483648) := by
  have hdl : d < 4294967296 := by omega
  have hE : (4294967295 ^^^ x) &&& y ||| (4294967295 ^^^ (x ^^^ y)) &&& d < 4294967296 := Nat.or_lt_two_pow (n := 32) (Nat.and_lt_two_pow _ hy) (Nat.and_lt_two_pow _ hdl)
  rw [Nt.top_bit hE]
  have hmax : Nat.testBit 4294967295 31 = true := by decide
  rw [Nat.testBit_or, Nat.testBit_and, Nat.testBit_and, Nat.testBit_xor, Nat.testBit_xor, Nat.testBit_xor, hmax]
  have e : ∀ n : Nat, n.testBit 31 = decide (n / 2147483648 % 2 = 1) := fun n => by
    rw [Nat.testBit_eq_decide_div_mod_eq]
  rw [e x, e y, e d]
  refine ⟨hdl, ?_, ?_⟩
  · cases decide (x / 2147483648 % 2 = 1) <;> cases decide (y / 2147483648 % 2 = 1) <;> cases decide (d / 2147483648 % 2 = 1) <;> decide
  · by_cases h1 : x / 2147483648 % 2 = 1 <;> by_cases h2 : y / 2147483648 % 2 = 1 <;> by_cases h3 : d / 2147483648 % 2 = 1 <;> simp only [h1, h2, h3, decide_true, decide_false] <;> simp <;> omega
set_option maxHeartbeats 4000000 in
set_option maxRecDepth 1000000 in
theorem Nt.Add32_any (x y c : Nat) (w : World) (hx : x < 4294967296) (hy : y < 4294967296) (hc : c ≤ 1) : Calls Tryz.prog 177 #[.int .u32 x, .int .u32 y, .int .u32 c] w fun e w' => e = .returned (.tuple #[.int .u32 ((x + y + c) % 4294967296 : Nat), .int .u32 ((x + y + c) / 4294967296 : Nat)]) ∧ w' = w := by
  have h1 : ((x : Int) + (y : Int)) % 18446744073709551616 = (x : Int) + (y : Int) := by omega
  have h2 : ((x : Int) + (y : Int) + (c : Int)) % 18446744073709551616 = (x : Int) + (y : Int) + (c : Int) := by omega
  go_enter Tryz.func177, Tryz.ntmps177
  go_wp2_with fail
  go_ret2
  refine ⟨?_, rfl⟩
  rw [show (((x + y + c) % 4294967296 : Nat) : Int) = ((x : Int) + (y : Int) + (c : Int)) % 4294967296 by omega, show (((x + y + c) / 4294967296 : Nat) : Int) = ((x : Int) + (y : Int) + (c : Int)) / 4294967296 by omega]
  rfl
set_option maxHeartbeats 4000000 in
set_option maxRecDepth 1000000 in
theorem Nt.Sub32_any (x y c : Nat) (w : World) (hx : x < 4294967296) (hy : y < 4294967296) (hc : c ≤ 1) : Calls Tryz.prog 211 #[.int .u32 x, .int .u32 y, .int .u32 c] w fun e w' => ∃ d c' : Nat, e = .returned (.tuple #[.int .u32 d, .int .u32 c']) ∧ d < 4294967296 ∧ c' ≤ 1 ∧ d + y + c = x + 4294967296 * c' ∧ w' = w := by
  obtain ⟨d, hd⟩ : ∃ d : Nat, (d : Int) = ((x : Int) - (y : Int) - (c : Int)) % 4294967296 := ⟨(((x : Int) - (y : Int) - (c : Int)) % 4294967296).toNat, by omega⟩
  obtain ⟨hdl, hb1, hb2⟩ := Nt.borrow hx hy hc hd
  have hd' := hd.symm
  have b1 := (Nt.bits_u32 4294967295 x (by decide) hx).2.2
  have b2 := (Nt.bits_u32 (4294967295 ^^^ x) y (Nt.not_lt hx) hy).1
  have hxy : x ^^^ y < 4294967296 := Nat.xor_lt_two_pow (n := 32) hx hy
  have b3 := (Nt.bits_u32 x y hx hy).2.2
  have b4 := (Nt.bits_u32 4294967295 (x ^^^ y) (by decide) hxy).2.2
  have b5 := (Nt.bits_u32 (4294967295 ^^^ (x ^^^ y)) d (Nt.not_lt hxy) hdl).1
  have b6 := (Nt.bits_u32 ((4294967295 ^^^ x) &&& y) ((4294967295 ^^^ (x ^^^ y)) &&& d) (Nat.and_lt_two_pow (n := 32) _ hy) (Nat.and_lt_two_pow (n := 32) _ hdl)).2.1
  have hm : IntKind.u32.max = ((4294967295 : Nat) : Int) := by decide
  have HB := Lib.hid (And.intro hb1 hb2)
  clear hb1 hb2 hd
  rw [← hm] at b1 b4
  clear hm
  go_enter Tryz.func211, Tryz.ntmps211
  go_wp2_with fail
  go_ret2
  exact ⟨d, _, rfl, hdl, HB.out.1, HB.out.2, rfl⟩
end Go.Proofs.YtikmebkfdpbidaaGreatDoor
namespace Go.Proofs.YtikmebkfdpbidaaGreatDoor
open Go.RowKit
set_option linter.unusedVariables false
set_option linter.unusedSimpArgs false

set_option maxHeartbeats 2000000 in
set_option maxRecDepth 1000000 in
theorem Rn.word_any (ws : List Nat) (v : Value) (i : Nat) (w : World) (h : Nt.In w v ws) (hw : Nt.Wd ws) :
    Calls Tryz.prog 234 #[v, .int .i64 i] w fun e w' => e = .returned (.int .u64 (ws.getD i 0 : Nat)) ∧ Below w.heap.size w w' := by
  obtain ⟨ad, cap, rfl⟩ := h.slice
  by_cases hlt : i < ws.length
  · obtain ⟨b, o, rfl, _, _, _, hc⟩ := h.at (by omega)
    have c0 := hc i hlt
    have hx := hw.getD i
    have hltI : (i : Int) < (ws.length : Int) := by omega
    clear hc h hw
    generalize ws.getD i 0 = x at *
    go_enter Tryz.func234, Tryz.ntmps234
    go_wp2_with fail
    go_ret
    refine ⟨?_, Below.refl _ _⟩
    first | rfl | (go_num) | (simp; omega)
  · have hltI : ¬ (i : Int) < (ws.length : Int) := by omega
    have h0 := Nt.getD_ge ws i (by omega)
    go_enter Tryz.func234, Tryz.ntmps234
    go_wp2_with fail
    go_ret
    exact ⟨by first | rfl | (rw [h0]; rfl), Below.refl _ _⟩
theorem Rn.low_bit (x s : Nat) : bits .and .u32 ((x : Int) / 2 ^ s % 4294967296) 1 = ((x / 2 ^ s % 2 : Nat) : Int) := by
  have e : ((x : Int) / 2 ^ s % 4294967296) = ((x / 2 ^ s % 4294967296 : Nat) : Int) := by
    rw [Int.natCast_emod, Int.natCast_ediv, Int.natCast_pow]
    rfl
  rw [e, show (1 : Int) = ((1 : Nat) : Int) from rfl, (Nt.bits_u32 _ 1 (Nat.mod_lt _ (by decide)) (by decide)).1, Nat.and_one_is_mod]
  congr 1
  omega
set_option maxHeartbeats 2000000 in
set_option maxRecDepth 1000000 in
theorem Rn.Bit_any (ws : List Nat) (v : Value) (k : Nat) (w : World) (h : Nt.In w v ws) (hw : Nt.Wd ws) (hk : k ≤ 4611686018427387904) :
    Calls Tryz.prog 229 #[v, .int .i64 k] w fun e w' => e = .returned (.int .u32 (ws.getD (k / 32) 0 / 2 ^ (k % 32) % 2 : Nat)) ∧ Below w.heap.size w w' := by
  have KW := Rn.word_any ws v (k / 32) w h hw
  have hx := hw.getD (k / 32)
  obtain ⟨ad, cap, rfl⟩ := h.slice
  generalize ws.getD (k / 32) 0 = x at *
  rw [show ((k / 32 : Nat) : Int) = (k : Int) / 32 by omega] at KW
  go_enter Tryz.func229, Tryz.ntmps229
  go_wp2_with fail
  refine KW.mono ?_
  rintro z w2 ⟨rfl, hb⟩
  have HB := Lib.hid hb
  clear hb KW h
  go_wp2_with fail
  go_ret
  exact ⟨by rw [← Rn.low_bit]; rfl, HB.out⟩
end Go.Proofs.YtikmebkfdpbidaaGreatDoor
namespace Go.Proofs.YtikmebkfdpbidaaGreatDoor
open Go.RowKit
set_option linter.unusedVariables false
set_option linter.unusedSimpArgs false

section
variable {P : Program} (w : World)
/-- Where the row lies behind the append. -/
def Ls.Fresh (w : World) (v v' : Value) : Prop := ∀ q, v'.ownBlock = some q → v.ownBlock = some q ∨ w.heap.size ≤ q
theorem Ls.run_append (base : Nat) (t ty e : TypeId) (i : TypeInfo) (z : Value) (size bytes : Nat) (ht : P.underlying t = some (.slice e)) (hi : P.info? e = some i) (hz : i.zero = some z)
    (hsize : i.size = size) (hby : i.bytes = bytes) (hzs : z.cells.size = size) (hsz : 0 < size)
    (v : Value) (n : Nat) (xs : List Value) (hown : w.ownsRow base e size v n xs)
    (a : Addr) (m c : Nat) (news : List Value) (hl : news.length = m * size) (hnews : ∀ j u, news[j]? = some u → w.cell? (a.add j) = some u) (h1 : ∀ u ∈ news, u.oneCell' = true)
    (h63 : n + m ≤ maxLen) (hbytes : (n + m) * bytes ≤ 140737488355328) (hbase : base ≤ w.heap.size) :
    ∃ v' w', (Builtin.append_ #[t, t] ty #[v, .slice (some a) m c]).run P w = .ok v' w' ∧ w'.ownsRow base e size v' (n + m) (xs ++ news) ∧ w.grownBy w' v.ownBlock ∧ Ls.Fresh w v v' := by
  obtain ⟨v', w', hr, ho, hg, hiff⟩ := run_append_own (P := P) w base t ty e i z size bytes ht hi hz hsize hby hzs hsz v n xs hown a m c news hl hnews h1 h63 hbytes hbase
  refine ⟨v', w', hr, ho, hg, ?_⟩
  have hlen := hown.1
  rcases hown.2 with ⟨rfl, rfl⟩ | ⟨g, cap, cur, rfl, hbg, hgc, hnc, hcm, hcs, htake⟩
  · have hx : xs = [] := List.eq_nil_of_length_eq_zero (by simpa using hlen)
    subst hx
    obtain ⟨v2, w2, hr2, ho2, _, _⟩ := run_append_own (P := P) w w.heap.size t ty e i z size bytes ht hi hz hsize hby hzs hsz _ 0 [] (World.ownsRow_nil w w.heap.size e size) a m c news hl hnews h1 h63 hbytes (Nat.le_refl _)
    rw [hr] at hr2
    cases hr2
    intro q hq
    exact .inr (ho2.lt q hq).1
  · subst hsize
    subst hby
    by_cases hroom : n + m ≤ cap
    · have hfit : n * i.size + news.length ≤ cur.size := by rw [hl, hcs, ← Nat.add_mul]; exact Nat.mul_le_mul_right _ hroom
      have hr2 := run_append_room (P := P) w t ty e i ht hi g n cap cur hgc a m c news hl hnews h1 hroom hfit
      rw [hr] at hr2
      cases hr2
      intro q hq
      exact .inl hq
    · have holds : ∀ j u, xs[j]? = some u → w.cell? ((⟨g, 0, none⟩ : Addr).add j) = some u := by
        exact World.ownsRow.cells (w := w) (base := base) (e := e) (size := i.size) (v := .slice (some ⟨g, 0, none⟩) n cap) (n := n) (xs := xs) ⟨hlen, .inr ⟨g, cap, cur, rfl, hbg, hgc, hnc, hcm, hcs, htake⟩⟩ rfl
      have hr2 := run_append_grow (P := P) w t ty e i z ht hi hz ⟨g, 0, none⟩ n cap xs hlen holds a m c news hl hnews (by omega) (by simp only [maxLen] at h63; omega) (growslice_fits (by omega) hbytes)
      rw [hr] at hr2
      cases hr2
      intro q hq
      simp only [Value.ownBlock, Option.some.injEq] at hq
      exact .inr (by omega)
/-- Nothing is appended. -/
theorem Ls.run_none (base : Nat) (t ty e : TypeId) (i : TypeInfo) (size : Nat) (ht : P.underlying t = some (.slice e)) (hi : P.info? e = some i)
    (v : Value) (n : Nat) (xs : List Value) (hown : w.ownsRow base e size v n xs) :
    (Builtin.append_ #[t, t] ty #[v, .slice none 0 0]).run P w = .ok v w := by
  rcases hown.2 with ⟨rfl, rfl⟩ | ⟨g, cap, cur, rfl, hbg, hgc, hnc, hcm, hcs, htake⟩
  · simp [Builtin.append_, run_underlying ht, sizeOf, typeInfo, hi, Builtin.lenOf, Builtin.firstCells, loadCells, loadCellsFrom]
  · simp [Builtin.append_, run_underlying ht, sizeOf, typeInfo, hi, Builtin.lenOf, Builtin.firstCells, loadCells, loadCellsFrom, hnc, storeCells]
/-- What an append may be of: nothing at all, or so many elements in memory. -/
def Ls.Src (w : World) (size : Nat) (x : Value) (m : Nat) (news : List Value) : Prop :=
  (x = .slice none 0 0 ∧ m = 0 ∧ news = []) ∨ ∃ ad c, x = .slice (some ad) m c ∧ news.length = m * size ∧ ∀ j u, news[j]? = some u → w.cell? (ad.add j) = some u
theorem Ls.run_src (base : Nat) (t ty e : TypeId) (i : TypeInfo) (z : Value) (size bytes : Nat) (ht : P.underlying t = some (.slice e)) (hi : P.info? e = some i) (hz : i.zero = some z)
    (hsize : i.size = size) (hby : i.bytes = bytes) (hzs : z.cells.size = size) (hsz : 0 < size)
    (v : Value) (n : Nat) (xs : List Value) (hown : w.ownsRow base e size v n xs)
    (x : Value) (m : Nat) (news : List Value) (hx : Ls.Src w size x m news) (h1 : ∀ u ∈ news, u.oneCell' = true)
    (h63 : n + m ≤ maxLen) (hbytes : (n + m) * bytes ≤ 140737488355328) (hbase : base ≤ w.heap.size) :
    ∃ v' w', (Builtin.append_ #[t, t] ty #[v, x]).run P w = .ok v' w' ∧ w'.ownsRow base e size v' (n + m) (xs ++ news) ∧ w.grownBy w' v.ownBlock ∧ Ls.Fresh w v v' := by
  rcases hx with ⟨rfl, rfl, rfl⟩ | ⟨ad, c, rfl, hl, hn⟩
  · refine ⟨v, w, Ls.run_none w base t ty e i size ht hi v n xs hown, ?_, ⟨rfl, rfl, rfl, Nat.le_refl _, fun _ _ _ => rfl⟩, fun q hq => .inl hq⟩
    rw [Nat.add_zero, List.append_nil]
    exact hown
  · exact Ls.run_append w base t ty e i z size bytes ht hi hz hsize hby hzs hsz v n xs hown ad m c news hl hn h1 h63 hbytes hbase
theorem Ls.wp_append {o : Oper} {a : Act} {K : Act → World → Prop} {Q : Exit → Act → World → Prop} (s x : Operand) (t : TypeId)
    (ho : o.op = .call { callee := .builtin .append, args := #[s, x], argTypes := #[t, t] })
    (base : Nat) (e : TypeId) (i : TypeInfo) (z : Value) (size bytes : Nat) (ht : P.underlying t = some (.slice e)) (hi : P.info? e = some i) (hz : i.zero = some z)
    (hsize : i.size = size) (hby : i.bytes = bytes) (hzs : z.cells.size = size) (hsz : 0 < size)
    (v : Value) (n : Nat) (xs : List Value) (hs : a.eval s = v) (hown : w.ownsRow base e size v n xs)
    (xv : Value) (m : Nat) (news : List Value) (hxv : a.eval x = xv) (hx : Ls.Src w size xv m news) (h1 : ∀ u ∈ news, u.oneCell' = true)
    (h63 : n + m ≤ maxLen) (hbytes : (n + m) * bytes ≤ 140737488355328) (hbase : base ≤ w.heap.size)
    (h : ∀ v' w', w'.ownsRow base e size v' (n + m) (xs ++ news) → w.grownBy w' v.ownBlock → Ls.Fresh w v v' → K (a.put o.dst v') w') : o.wp P a w K Q := by
  obtain ⟨v', w', hr, h2, h3, h4⟩ := Ls.run_src (P := P) w base t o.type e i z size bytes ht hi hz hsize hby hzs hsz v n xs hown xv m news hx h1 h63 hbytes hbase
  unfold Oper.wp execOp
  simp only [ho, resolve, invoke, builtin, Sem.run_bind, Sem.run_pure, Result.andThen_ok, List.map_toArray, List.map_cons, List.map_nil, hs, hxv, hr]
  exact h v' w' h2 h3 h4
theorem Ls.wpList_append {ops : Array Oper} {rest : List Oper} {o : Oper} {a : Act} {Q : Exit → Act → World → Prop} (hgd : o.guard = none) (s x : Operand) (t : TypeId)
    (ho : o.op = .call { callee := .builtin .append, args := #[s, x], argTypes := #[t, t] })
    (base : Nat) (e : TypeId) (i : TypeInfo) (z : Value) (size bytes : Nat) (ht : P.underlying t = some (.slice e)) (hi : P.info? e = some i) (hz : i.zero = some z)
    (hsize : i.size = size) (hby : i.bytes = bytes) (hzs : z.cells.size = size) (hsz : 0 < size)
    (v : Value) (n : Nat) (xs : List Value) (hs : a.eval s = v) (hown : w.ownsRow base e size v n xs)
    (xv : Value) (m : Nat) (news : List Value) (hxv : a.eval x = xv) (hx : Ls.Src w size xv m news) (h1 : ∀ u ∈ news, u.oneCell' = true)
    (h63 : n + m ≤ maxLen) (hbytes : (n + m) * bytes ≤ 140737488355328) (hbase : base ≤ w.heap.size)
    (h : ∀ v' w', w'.ownsRow base e size v' (n + m) (xs ++ news) → w.grownBy w' v.ownBlock → Ls.Fresh w v v' → wpList P ops Q rest (a.put o.dst v') w') : wpList P ops Q (o :: rest) a w :=
  wpList_plain hgd fun _ hK => Ls.wp_append w s x t ho base e i z size bytes ht hi hz hsize hby hzs hsz v n xs hs hown xv m news hxv hx h1 h63 hbytes hbase fun v' w' h2 h3 h4 => hK _ _ (h v' w' h2 h3 h4)
/-- The same at a step of a region. -/
theorem Ls.step_append {ops : Array Oper} {o : Oper} {a : Act} {Q : Exit → Act → World → Prop} {K : Act → World → Prop} {E : Prop} (hgd : o.guard = none) (s x : Operand) (t : TypeId)
    (ho : o.op = .call { callee := .builtin .append, args := #[s, x], argTypes := #[t, t] })
    (base : Nat) (e : TypeId) (i : TypeInfo) (z : Value) (size bytes : Nat) (ht : P.underlying t = some (.slice e)) (hi : P.info? e = some i) (hz : i.zero = some z)
    (hsize : i.size = size) (hby : i.bytes = bytes) (hzs : z.cells.size = size) (hsz : 0 < size)
    (v : Value) (n : Nat) (xs : List Value) (hs : a.eval s = v) (hown : w.ownsRow base e size v n xs)
    (xv : Value) (m : Nat) (news : List Value) (hxv : a.eval x = xv) (hx : Ls.Src w size xv m news) (h1 : ∀ u ∈ news, u.oneCell' = true)
    (h63 : n + m ≤ maxLen) (hbytes : (n + m) * bytes ≤ 140737488355328) (hbase : base ≤ w.heap.size)
    (h : ∀ v' w', w'.ownsRow base e size v' (n + m) (xs ++ news) → w.grownBy w' v.ownBlock → Ls.Fresh w v v' → K (a.put o.dst v') w') :
    if Region.wanted o (yielded ops a.tmps) = true then Oper.wp P o a w K Q else E := by
  have hw : Region.wanted o (yielded ops a.tmps) = true := by simp [Region.wanted, hgd]
  rw [if_pos hw]
  exact Ls.wp_append w s x t ho base e i z size bytes ht hi hz hsize hby hzs hsz v n xs hs hown xv m news hxv hx h1 h63 hbytes hbase h
end
end Go.Proofs.YtikmebkfdpbidaaGreatDoor
namespace Go.Proofs.YtikmebkfdpbidaaGreatDoor
open Go.RowKit
set_option linter.unusedVariables false
set_option linter.unusedSimpArgs false

/-- Words as what an append takes. -/
theorem Rn.src {w : World} {v : Value} {us : List Nat} (h : Nt.In w v us) : Ls.Src w 1 v us.length (Nt.vs us) := by
  rcases h with ⟨rfl, rfl⟩ | ⟨a, cap, rfl, rfl⟩ | ⟨h0, b, off, cap, rfl, hc, hl, hcell⟩
  · exact .inl ⟨rfl, rfl, rfl⟩
  · exact .inr ⟨a, cap, rfl, rfl, fun j u h => by simp [Nt.vs] at h⟩
  · refine .inr ⟨⟨b, off, none⟩, cap, rfl, by simp [Nt.vs], fun j u hj => ?_⟩
    have hlt : j < us.length := by
      have := (List.getElem?_eq_some_iff.1 hj).1
      simpa [Nt.vs] using this
    have e : (⟨b, off, none⟩ : Addr).add j = ⟨b, off + j, none⟩ := by unfold Addr.add; split <;> simp_all
    rw [e, hcell j hlt]
    simp only [Nt.vs, List.getElem?_map] at hj
    rw [← hj, List.getD_eq_getElem?_getD, List.getElem?_eq_getElem hlt]
    rfl
theorem Rn.vs_one (us : List Nat) : ∀ u ∈ Nt.vs us, u.oneCell' = true := by
  intro u hu
  simp only [Nt.vs, List.mem_map] at hu
  obtain ⟨x, _, rfl⟩ := hu
  rfl
theorem Rn.norm_end {w' : World} {v' : Value} {ws : List Nat} {k B : Nat} (hk : k ≤ ws.length) (htk : ws.take k = Nt.dig (Nt.val ws)) (hown : w'.ownsRow B 144 1 v' k (Nt.vs (ws.take k))) : Nt.N w' v' (Nt.val ws) := by
  rw [htk] at hown
  have hlen : (Nt.dig (Nt.val ws)).length = k := by rw [← htk, List.length_take]; omega
  unfold Nt.N
  exact Nt.In.of_own (B := B) (t := 144) (by rw [hlen]; exact hown)
set_option maxHeartbeats 2000000 in
set_option maxRecDepth 1000000 in
theorem Rn.Norm_any (ws : List Nat) (v : Value) (w : World) (h : Nt.In w v ws) (hw : Nt.Wd ws) (hl : ws.length ≤ 1000000) :
    Calls Tryz.prog 204 #[v] w fun e w' => ∃ v', e = .returned v' ∧ Nt.N w' v' (Nt.val ws) ∧ Below w.heap.size w w' := by
  obtain ⟨ad, cap, rfl⟩ := h.slice
  have hcap := h.cap.2
  have H := Lib.hid h
  have HW := Lib.hid hw
  obtain ⟨i0, hi, hz0, hz1, hz2⟩ := info_parts Nt.infoWord
  clear h hw
  go_enter Tryz.func204, Tryz.ntmps204
  go_wp2_with fail
  go_loopw [3] (fun i wr => ∃ k : Nat, i = .int .i64 k ∧ k ≤ ws.length ∧ (∀ j, k ≤ j → j < ws.length → ws.getD j 0 = 0) ∧ wr = w) (fun i _ => (intOf i).toNat)
  case atStart => exact ⟨ws.length, rfl, Nat.le_refl _, fun j h1 h2 => by omega, rfl⟩
  case round =>
    obtain ⟨k, rfl, hk, hz, rfl⟩ := hrel
    have HZ := Lib.hid hz
    clear hz
    have HEND : Hid ((k = 0 ∨ ws.getD (k - 1) 0 ≠ 0) → ws.take k = Nt.dig (Nt.val ws)) := Lib.hid (fun h => Nt.dig_of HW.out hk HZ.out h)
    rcases k with _ | k
    · have HTK := Lib.hid (HEND.out (.inl rfl))
      have hin := H.out.takeN 0 hk
      have hsrc := Rn.src (hin.below ((Below.refl wr.heap.size wr).alloc (Nat.le_refl _) (.cells #[] 144)) (Nat.le_refl _))
      rw [show (ws.take (0)).length = 0 by rw [List.length_take]; omega] at hsrc
      clear hin
      go_wp2_with (at_builtin; refine Ls.wpList_append _ rfl _ _ 22 rfl wr.heap.size 144 i0 (.int .u32 0) 1 4 Tryz.underlying22 hi hz0 hz1 hz2 rfl (by decide) _ 0 [] rfl (World.ownsRow_made wr #[] 0 (Nat.le_refl _) (by decide) rfl) _ (0) (Nt.vs (ws.take (0))) rfl hsrc (Rn.vs_one _) (by simp only [maxLen]; omega) (by omega) (by simp) ?_)
      intro v' w' hown hg _
      have hN : Nt.N w' v' (Nt.val ws) := Rn.norm_end hk HTK.out (by first | exact hown | simpa using hown)
      have hB : Below wr.heap.size wr w' := ((Below.refl wr.heap.size wr).alloc (Nat.le_refl _) (.cells #[] 144)).grown hg (by simp) (fun q hq => by simp [Value.ownBlock] at hq; omega)
      have HN := Lib.hid (And.intro hN hB)
      clear hsrc hown hg hN hB
      go_wp2_with fail
      go_ret
      exact ⟨_, rfl, HN.out.1, HN.out.2⟩
    · obtain ⟨b, off, rfl, _, _, hbl, hcell⟩ := H.out.at (by omega)
      have c0 := hcell k (by omega)
      clear hcell
      by_cases hx : ws.getD k 0 = 0
      · rw [hx] at c0
        have HX := Lib.hid hx
        clear hx
        go_wp2_with fail
        go_roundw
        case rel =>
          refine ⟨k, by first | rfl | go_num | (simp; try omega), by omega, fun j h1 h2 => ?_, by first | rfl | trivial⟩
          rcases Nat.lt_or_ge k j with h | h
          · exact HZ.out j (by omega) h2
          · obtain rfl : j = k := by omega
            exact HX.out
        case measure => simp [intOf]
      · have hx0 : ((ws.getD k 0 : Nat) == (0 : Int)) = false := by simp; exact hx
        have HTK := Lib.hid (HEND.out (.inr hx))
        clear hx
        have hin := H.out.takeN (k + 1) hk
        have hsrc := Rn.src (hin.below ((Below.refl wr.heap.size wr).alloc (Nat.le_refl _) (.cells #[] 144)) (Nat.le_refl _))
        rw [show (ws.take (k + 1)).length = k + 1 by rw [List.length_take]; omega] at hsrc
        clear hin
        generalize ws.getD k 0 = x at *
        go_wp2_with (at_builtin; refine Ls.wpList_append _ rfl _ _ 22 rfl wr.heap.size 144 i0 (.int .u32 0) 1 4 Tryz.underlying22 hi hz0 hz1 hz2 rfl (by decide) _ 0 [] rfl (World.ownsRow_made wr #[] 0 (Nat.le_refl _) (by decide) rfl) _ (k + 1) (Nt.vs (ws.take (k + 1))) rfl hsrc (Rn.vs_one _) (by simp only [maxLen]; omega) (by omega) (by simp) ?_)
        intro v' w' hown hg _
        have hN : Nt.N w' v' (Nt.val ws) := Rn.norm_end hk HTK.out (by first | exact hown | simpa using hown)
        have hB : Below wr.heap.size wr w' := ((Below.refl wr.heap.size wr).alloc (Nat.le_refl _) (.cells #[] 144)).grown hg (by simp) (fun q hq => by simp [Value.ownBlock] at hq; omega)
        have HN := Lib.hid (And.intro hN hB)
        clear hsrc hown hg hN hB
        go_wp2_with fail
        go_ret
        exact ⟨_, rfl, HN.out.1, HN.out.2⟩
end Go.Proofs.YtikmebkfdpbidaaGreatDoor
namespace Go.Proofs.YtikmebkfdpbidaaGreatDoor
open Go.RowKit
set_option linter.unusedVariables false
set_option linter.unusedSimpArgs false

theorem Rn.norm_own {w' : World} {v' : Value} {ws : List Nat} {k B : Nat} (hk : k ≤ ws.length) (htk : ws.take k = Nt.dig (Nt.val ws)) (hown : w'.ownsRow B 144 1 v' k (Nt.vs (ws.take k))) : w'.ownsRow B 144 1 v' (Nt.dig (Nt.val ws)).length (Nt.vs (Nt.dig (Nt.val ws))) := by
  have hlen : (Nt.dig (Nt.val ws)).length = k := by rw [← htk, List.length_take]; omega
  rw [hlen, ← htk]
  exact hown
set_option maxHeartbeats 2000000 in
set_option maxRecDepth 1000000 in
theorem Rn.Norm_own (ws : List Nat) (v : Value) (w : World) (h : Nt.In w v ws) (hw : Nt.Wd ws) (hl : ws.length ≤ 1000000) :
    Calls Tryz.prog 204 #[v] w fun e w' => ∃ v', e = .returned v' ∧ w'.ownsRow w.heap.size 144 1 v' (Nt.dig (Nt.val ws)).length (Nt.vs (Nt.dig (Nt.val ws))) ∧ Below w.heap.size w w' := by
  obtain ⟨ad, cap, rfl⟩ := h.slice
  have hcap := h.cap.2
  have H := Lib.hid h
  have HW := Lib.hid hw
  obtain ⟨i0, hi, hz0, hz1, hz2⟩ := info_parts Nt.infoWord
  clear h hw
  go_enter Tryz.func204, Tryz.ntmps204
  go_wp2_with fail
  go_loopw [3] (fun i wr => ∃ k : Nat, i = .int .i64 k ∧ k ≤ ws.length ∧ (∀ j, k ≤ j → j < ws.length → ws.getD j 0 = 0) ∧ wr = w) (fun i _ => (intOf i).toNat)
  case atStart => exact ⟨ws.length, rfl, Nat.le_refl _, fun j h1 h2 => by omega, rfl⟩
  case round =>
    obtain ⟨k, rfl, hk, hz, rfl⟩ := hrel
    have HZ := Lib.hid hz
    clear hz
    have HEND : Hid ((k = 0 ∨ ws.getD (k - 1) 0 ≠ 0) → ws.take k = Nt.dig (Nt.val ws)) := Lib.hid (fun h => Nt.dig_of HW.out hk HZ.out h)
    rcases k with _ | k
    · have HTK := Lib.hid (HEND.out (.inl rfl))
      have hin := H.out.takeN 0 hk
      have hsrc := Rn.src (hin.below ((Below.refl wr.heap.size wr).alloc (Nat.le_refl _) (.cells #[] 144)) (Nat.le_refl _))
      rw [show (ws.take (0)).length = 0 by rw [List.length_take]; omega] at hsrc
      clear hin
      go_wp2_with (at_builtin; refine Ls.wpList_append _ rfl _ _ 22 rfl wr.heap.size 144 i0 (.int .u32 0) 1 4 Tryz.underlying22 hi hz0 hz1 hz2 rfl (by decide) _ 0 [] rfl (World.ownsRow_made wr #[] 0 (Nat.le_refl _) (by decide) rfl) _ (0) (Nt.vs (ws.take (0))) rfl hsrc (Rn.vs_one _) (by simp only [maxLen]; omega) (by omega) (by simp) ?_)
      intro v' w' hown hg _
      have hN : w'.ownsRow wr.heap.size 144 1 v' (Nt.dig (Nt.val ws)).length (Nt.vs (Nt.dig (Nt.val ws))) := Rn.norm_own hk HTK.out (by first | exact hown | simpa using hown)
      have hB : Below wr.heap.size wr w' := ((Below.refl wr.heap.size wr).alloc (Nat.le_refl _) (.cells #[] 144)).grown hg (by simp) (fun q hq => by simp [Value.ownBlock] at hq; omega)
      have HN := Lib.hid (And.intro hN hB)
      clear hsrc hown hg hN hB
      go_wp2_with fail
      go_ret
      exact ⟨_, rfl, HN.out.1, HN.out.2⟩
    · obtain ⟨b, off, rfl, _, _, hbl, hcell⟩ := H.out.at (by omega)
      have c0 := hcell k (by omega)
      clear hcell
      by_cases hx : ws.getD k 0 = 0
      · rw [hx] at c0
        have HX := Lib.hid hx
        clear hx
        go_wp2_with fail
        go_roundw
        case rel =>
          refine ⟨k, by first | rfl | go_num | (simp; try omega), by omega, fun j h1 h2 => ?_, by first | rfl | trivial⟩
          rcases Nat.lt_or_ge k j with h | h
          · exact HZ.out j (by omega) h2
          · obtain rfl : j = k := by omega
            exact HX.out
        case measure => simp [intOf]
      · have hx0 : ((ws.getD k 0 : Nat) == (0 : Int)) = false := by simp; exact hx
        have HTK := Lib.hid (HEND.out (.inr hx))
        clear hx
        have hin := H.out.takeN (k + 1) hk
        have hsrc := Rn.src (hin.below ((Below.refl wr.heap.size wr).alloc (Nat.le_refl _) (.cells #[] 144)) (Nat.le_refl _))
        rw [show (ws.take (k + 1)).length = k + 1 by rw [List.length_take]; omega] at hsrc
        clear hin
        generalize ws.getD k 0 = x at *
        go_wp2_with (at_builtin; refine Ls.wpList_append _ rfl _ _ 22 rfl wr.heap.size 144 i0 (.int .u32 0) 1 4 Tryz.underlying22 hi hz0 hz1 hz2 rfl (by decide) _ 0 [] rfl (World.ownsRow_made wr #[] 0 (Nat.le_refl _) (by decide) rfl) _ (k + 1) (Nt.vs (ws.take (k + 1))) rfl hsrc (Rn.vs_one _) (by simp only [maxLen]; omega) (by omega) (by simp) ?_)
        intro v' w' hown hg _
        have hN : w'.ownsRow wr.heap.size 144 1 v' (Nt.dig (Nt.val ws)).length (Nt.vs (Nt.dig (Nt.val ws))) := Rn.norm_own hk HTK.out (by first | exact hown | simpa using hown)
        have hB : Below wr.heap.size wr w' := ((Below.refl wr.heap.size wr).alloc (Nat.le_refl _) (.cells #[] 144)).grown hg (by simp) (fun q hq => by simp [Value.ownBlock] at hq; omega)
        have HN := Lib.hid (And.intro hN hB)
        clear hsrc hown hg hN hB
        go_wp2_with fail
        go_ret
        exact ⟨_, rfl, HN.out.1, HN.out.2⟩
end Go.Proofs.YtikmebkfdpbidaaGreatDoor
namespace Go.Proofs.YtikmebkfdpbidaaGreatDoor
open Go.RowKit
set_option linter.unusedVariables false
set_option linter.unusedSimpArgs false

theorem Rn.digit : ∀ (q : Nat) (ws : List Nat), Nt.Wd ws → Nt.val ws / 4294967296 ^ q % 4294967296 = ws.getD q 0
  | q, [], _ => by simp [Nt.val]
  | 0, x :: r, h => by
    have := h.head
    simp only [Nt.val, Nat.pow_zero, Nat.div_one, List.getD_cons_zero]
    omega
  | q + 1, x :: r, h => by
    have hx := h.head
    rw [List.getD_cons_succ, ← Rn.digit q r h.tail, Nat.pow_succ', ← Nat.div_div_eq_div_mul]
    congr 2
    simp only [Nt.val]
    omega
theorem Rn.b32 (q : Nat) : (4294967296 : Nat) ^ q = 2 ^ (32 * q) := by rw [show (4294967296 : Nat) = 2 ^ 32 by decide, ← Nat.pow_mul]
theorem Rn.mod_bit (x r : Nat) (h : r < 32) : x % 4294967296 / 2 ^ r % 2 = x / 2 ^ r % 2 := by
  have e : (4294967296 : Nat) = 2 ^ r * 2 ^ (32 - r) := by rw [← Nat.pow_add, show r + (32 - r) = 32 by omega]
  rw [e, Nat.mod_mul_right_div_self, Nat.mod_mod_of_dvd]
  exact Nat.pow_dvd_pow 2 (show 1 ≤ 32 - r by omega)
theorem Rn.bit_val {ws : List Nat} (h : Nt.Wd ws) (k : Nat) : ws.getD (k / 32) 0 / 2 ^ (k % 32) % 2 = Nt.val ws / 2 ^ k % 2 := by
  rw [← Rn.digit (k / 32) ws h, Rn.mod_bit _ _ (Nat.mod_lt _ (by decide)), Nat.div_div_eq_div_mul, Rn.b32, ← Nat.pow_add, Nat.div_add_mod]
theorem Rn.lt_step {v k : Nat} (h : v < 2 ^ (k + 1)) (h0 : v / 2 ^ k % 2 = 0) : v < 2 ^ k := by
  rw [Nat.pow_succ] at h
  have h1 : v / 2 ^ k < 2 := Nat.div_lt_of_lt_mul h
  have h3 : ∀ z : Nat, z < 2 → z % 2 = 0 → z = 0 := by omega
  have h2 : v / 2 ^ k = 0 := h3 _ h1 h0
  exact (Nat.div_eq_zero_iff_lt (Nat.two_pow_pos k)).1 h2
theorem Rn.ge_step {v k : Nat} (h1 : v / 2 ^ k % 2 ≠ 0) : 2 ^ k ≤ v := by
  rcases Nat.lt_or_ge v (2 ^ k) with h | h
  · rw [Nat.div_eq_of_lt h] at h1
    exact absurd rfl h1
  · exact h
set_option maxHeartbeats 2000000 in
set_option maxRecDepth 1000000 in
/-- Size: how many bits. -/
theorem Rn.Size_any (ws : List Nat) (v : Value) (w : World) (h : Nt.In w v ws) (hw : Nt.Wd ws) (hl : ws.length ≤ 1000000) :
    Calls Tryz.prog 231 #[v] w fun e w' => ∃ s : Nat, e = .returned (.int .i64 s) ∧ Nt.val ws < 2 ^ s ∧ (s = 0 ∨ 2 ^ (s - 1) ≤ Nt.val ws) ∧ Below w.heap.size w w' := by
  obtain ⟨ad, cap, rfl⟩ := h.slice
  have HV : Hid (Nt.val ws < 2 ^ (32 * ws.length)) := Lib.hid (by have := Nt.val_lt ws hw; rw [Rn.b32] at this; exact this)
  have HB := Lib.hid (fun w' (hb : Below w.heap.size w w') k hk => Rn.Bit_any ws _ k w' (h.below hb (Nat.le_refl _)) hw hk)
  have HBV := Lib.hid (fun k => Rn.bit_val hw k)
  clear h hw
  go_enter Tryz.func231, Tryz.ntmps231
  go_wp2_with fail
  go_loopw [3] (fun i wr => ∃ k : Nat, i = .int .i64 k ∧ k ≤ 32 * ws.length ∧ Nt.val ws < 2 ^ k ∧ Below w.heap.size w wr) (fun i _ => (intOf i).toNat)
  case atStart => exact ⟨32 * ws.length, by first | rfl | go_num | (simp; try omega), Nat.le_refl _, HV.out, Below.refl _ _⟩
  case round =>
    obtain ⟨k, rfl, hk, hlt, hb⟩ := hrel
    obtain ⟨wo, hwo⟩ : ∃ z, z = wr := ⟨_, rfl⟩
    subst hwo
    have HLT := Lib.hid hlt
    have HBW := Lib.hid hb
    clear hlt hb
    rcases k with _ | k
    · go_wp2_with fail
      go_ret
      exact ⟨0, rfl, HLT.out, .inl rfl, HBW.out⟩
    · have KB := HB.out wo HBW.out k (by omega)
      rw [HBV.out] at KB
      have hk1 : (((k + 1 : Nat) : Int) - 1) = (k : Int) := by omega
      by_cases hx : Nt.val ws / 2 ^ k % 2 = 0
      · rw [hx] at KB
        have HX := Lib.hid hx
        clear hx
        go_wp2_with fail
        refine KB.mono ?_
        rintro z w2 ⟨rfl, hb2⟩
        have HB2 := Lib.hid (HBW.out.trans (hb2.mono HBW.out.size))
        clear hb2 KB
        go_wp2_with fail
        go_roundw
        case rel => exact ⟨k, by first | rfl | go_num | (simp; try omega), by omega, Rn.lt_step HLT.out HX.out, HB2.out⟩
        case measure => simp [intOf]
      · have HX := Lib.hid hx
        have hx1 : Nt.val ws / 2 ^ k % 2 = 1 := by
          have h3 : ∀ z : Nat, ¬ z % 2 = 0 → z % 2 = 1 := by omega
          exact h3 _ hx
        rw [hx1] at KB
        clear hx hx1
        go_wp2_with fail
        refine KB.mono ?_
        rintro z w2 ⟨rfl, hb2⟩
        have HB2 := Lib.hid (HBW.out.trans (hb2.mono HBW.out.size))
        clear hb2 KB
        go_wp2_with fail
        go_ret
        exact ⟨k + 1, rfl, HLT.out, .inr (Rn.ge_step HX.out), HB2.out⟩
end Go.Proofs.YtikmebkfdpbidaaGreatDoor
namespace Go.Proofs.YtikmebkfdpbidaaGreatDoor
open Go.RowKit
set_option linter.unusedVariables false
set_option linter.unusedSimpArgs false

/-- A row of n noughts is made. -/
theorem Nt.make (n : Nat) (w : World) (hn : n ≤ 1000000) : (Instr.makeSlice 22 (.int .i64 (n : Int)) (.int .i64 (n : Int))).run Tryz.prog w = .ok (.slice (some ⟨w.heap.size, 0, none⟩) n n) (w.alloc (.cells (Nt.row (List.replicate n 0)) 144)) := by
  obtain ⟨i0, hi, hz0, hz1, hz2⟩ := info_parts Nt.infoWord
  have := run_makeSlice (P := Tryz.prog) w 22 144 i0 (.int .u32 0) Tryz.underlying22 hi hz0 .i64 .i64 n n (by omega) (by omega) (by rw [hz1]; omega) (by rw [hz2]; omega) (by omega)
  rw [this, hz1, show ((n : Int).toNat * 1) = n by omega, Nt.made_zeros]
  rfl
/-- A store into a row that the call has made. -/
theorem Nt.store {w : World} {T B : Nat} {w0 : World} {t : TypeId} {ws : List Nat} (h : w.heap[T]? = some (.cells (Nt.row ws) t (0, 0))) (k x : Nat) (hk : k < ws.length) (hb : Below B w0 w) (hB : B ≤ T) :
    ∃ W, w.setCell ⟨T, k, none⟩ (.int .u32 (x : Int)) = W ∧ w.cell? ⟨T, k, none⟩ = some (.int .u32 (ws.getD k 0 : Nat)) ∧ w.frozen? ⟨T, k, none⟩ = false ∧ W.heap[T]? = some (.cells (Nt.row (ws.set k x)) t (0, 0)) ∧ Below B w0 W ∧ W.heap.size = w.heap.size :=
  ⟨_, rfl, Nt.cell_row h k hk, Nt.frozen_row h k, Nt.set_row h k x, hb.setCell (p := ⟨T, k, none⟩) hB _, by simp⟩

set_option maxHeartbeats 4000000 in
set_option maxRecDepth 1000000 in
theorem Nt.plus_ws (a0 b0 : List Nat) (v v2 : Value) (w : World) (h : Nt.In w v a0) (h2 : Nt.In w v2 b0) (ha : Nt.Wd a0) (hb : Nt.Wd b0) (hl : a0.length ≤ 500000) (hll : b0.length ≤ 500000) : Calls Tryz.prog 168 #[v, v2] w fun e w' => ∃ v', e = .returned v' ∧ Nt.N w' v' (Nt.val a0 + Nt.val b0) ∧ Below w.heap.size w w' := by
  obtain ⟨ad, cap, rfl⟩ := h.slice
  obtain ⟨ad2, cap2, rfl⟩ := h2.slice
  have H0 := Lib.hid h
  have H02 := Lib.hid h2
  have HA0 := Lib.hid ha
  have HB0 := Lib.hid hb
  clear h h2 ha hb
  go_enter Tryz.func168, Tryz.ntmps168
  go_upto_if 13 with (fail)
  go_cut [0, 1] (fun s t wx => wx = w ∧ ∃ (a b : List Nat) (ad ad2 : Option Addr) (cap cap2 : Nat), s = .slice ad a.length cap ∧ t = .slice ad2 b.length cap2 ∧ Nt.In w s a ∧ Nt.In w t b ∧ Nt.Wd a ∧ Nt.Wd b ∧ a.length ≤ 500000 ∧ b.length ≤ a.length ∧ Nt.val a + Nt.val b = Nt.val a0 + Nt.val b0)
  case first =>
    by_cases hlt : a0.length < b0.length
    · have hltI : (a0.length : Int) < (b0.length : Int) := by omega
      go_wp2_with fail
      go_meet
      exact ⟨rfl, b0, a0, _, _, _, _, rfl, rfl, H02.out, H0.out, HB0.out, HA0.out, hll, by omega, Nat.add_comm _ _⟩
    · have hltI : ¬ (a0.length : Int) < (b0.length : Int) := by omega
      go_wp2_with fail
      go_meet
      exact ⟨rfl, a0, b0, _, _, _, _, rfl, rfl, H0.out, H02.out, HA0.out, HB0.out, hl, by omega, rfl⟩
  case rest =>
  clear H0 H02 HA0 HB0 hl hll
  obtain ⟨rfl, a, b, ad, ad2, cap, cap2, rfl, rfl, h, h2, ha, hb, hl, hll, hsum⟩ := hcut
  have H := Lib.hid h
  have H2 := Lib.hid h2
  have HA := Lib.hid ha
  have HB := Lib.hid hb
  have HSUM := Lib.hid hsum
  have hmk := Nt.make (a.length + 1) wc (by omega)
  have hcast : (((a.length + 1 : Nat) : Int)) = (a.length : Int) + 1 := by omega
  rw [hcast] at hmk
  clear h h2 ha hb hsum hcast
  obtain ⟨T, hT⟩ : ∃ T, wc.heap.size = T := ⟨_, rfl⟩
  obtain ⟨w2, hw2⟩ : ∃ z, wc.alloc (.cells (Nt.row (List.replicate (a.length + 1) 0)) 144) = z := ⟨_, rfl⟩
  have q2 : w2.heap[T]? = some (.cells (Nt.row (List.replicate (a.length + 1) 0)) 144 (0, 0)) := by rw [← hw2, ← hT]; exact heap_alloc_new wc _
  have hb2 : Below wc.heap.size wc w2 := hw2 ▸ (Below.refl _ _).alloc (Nat.le_refl _) _
  rw [hT, hw2] at hmk
  have HT := Lib.hid hT
  have HB2 := Lib.hid hb2
  have HQ2 := Lib.hid q2
  clear hT hw2 hb2 q2
  go_wp2_with fail
  go_loopw [6, 22] (fun cv i wr => ∃ (k c : Nat) (ws : List Nat), i = .int .i64 k ∧ cv = .int .u32 c ∧ k ≤ a.length ∧ c ≤ 1 ∧ ws.length = a.length + 1 ∧ Nt.Wd ws ∧ (∀ j, k ≤ j → ws.getD j 0 = 0) ∧ Nt.val (ws.take k) + 4294967296 ^ k * c = Nt.val (a.take k) + Nt.val (b.take k) ∧ wr.heap[T]? = some (.cells (Nt.row ws) 144 (0, 0)) ∧ Below wc.heap.size wc wr) (fun _ i _ => a.length - (intOf i).toNat)
  case atStart => exact ⟨0, 0, List.replicate (a.length + 1) 0, rfl, rfl, Nat.zero_le _, by decide, by simp, Nt.Wd.zeros _, fun j _ => Nt.zeros_getD _ _, by simp [Nt.val], HQ2.out, HB2.out⟩
  case round =>
    obtain ⟨k, c, ws, rfl, rfl, hk, hc1, hwl, hwd, hz, hval, hq, hbw⟩ := hrel
    obtain ⟨wo, hwo⟩ : ∃ z, z = wr := ⟨_, rfl⟩
    subst hwo
    have HZ := Lib.hid hz
    have HWD := Lib.hid hwd
    have HV := Lib.hid hval
    have HQ := Lib.hid hq
    have HBW := Lib.hid hbw
    have HWL := Lib.hid hwl
    clear hz hwd hval hq hbw hwl
    by_cases hlt : k < a.length
    · obtain ⟨b1, o1, rfl, _, hcap1, hbl1, hcell1⟩ := (H.out.below HBW.out (Nat.le_refl _)).at (by omega)
      have c1 := hcell1 k hlt
      have hxb := HA.out.getD k
      have hyb := HB.out.getD k
      have hz0 : ws.getD k 0 = 0 := HZ.out k (Nat.le_refl _)
      have hstep := Nt.plus_step (a := a) (b := b) (ws := ws) (i := k) (c := c) HV.out (by have := HWL.out; omega)
      obtain ⟨W, hW, e1, e2, hQ9, hB9, hS9⟩ := Nt.store HQ.out k ((a.getD k 0 + b.getD k 0 + c) % 4294967296) (by have := HWL.out; omega) HBW.out (by have := HT.out; omega)
      have HSTEP := Lib.hid hstep
      have HQ9 := Lib.hid hQ9
      have HB9 := Lib.hid hB9
      have hyb2 : k < b.length → ∃ b2 o2, ad2 = some ⟨b2, o2, none⟩ ∧ wo.cell? ⟨b2, o2 + k, none⟩ = some (.int .u32 (b.getD k 0 : Nat)) := fun h => by
        obtain ⟨b2, o2, e, _, _, _, hcell2⟩ := (H2.out.below HBW.out (Nat.le_refl _)).at (by omega)
        exact ⟨b2, o2, e, hcell2 k h⟩
      have hyb3 : ¬ k < b.length → b.getD k 0 = 0 := fun h => Nt.getD_ge b k (by omega)
      have HY2 := Lib.hid hyb2
      have HY3 := Lib.hid hyb3
      clear hcell1 hstep hQ9 hB9 hyb2 hyb3
      have HX := Lib.hid (And.intro hxb hyb)
      clear hxb hyb hz0
      generalize a.getD k 0 = x at *
      generalize b.getD k 0 = y at *
      have KA := fun w => Nt.Add32_any x y c w HX.out.1 HX.out.2 hc1
      have hc2 : (x + y + c) / 4294967296 ≤ 1 := by have := HX.out; omega
      have HC2 := Lib.hid hc2
      clear hc2
      have hks : ws.length = a.length + 1 := HWL.out
      have hkT : (k : Int) < (a.length : Int) + 1 := by omega
      obtain ⟨s, hs⟩ : ∃ s, (x + y + c) % 4294967296 = s := ⟨_, rfl⟩
      have hsl : s < 4294967296 := by omega
      rw [hs] at hW KA HQ9 HSTEP
      have HSL := Lib.hid hsl
      clear hs hsl hks
      have HNX : Hid (∀ j, k + 1 ≤ j → (ws.set k s).getD j 0 = 0) := Lib.hid (fun j hj => by rw [Nt.getD_set_ne ws k j s (by omega)]; exact HZ.out j (by omega))
      by_cases hlt2 : k < b.length
      · obtain ⟨b2, o2, rfl, c2⟩ := HY2.out hlt2
        have hlt2I : (k : Int) < (b.length : Int) := by omega
        go_wp2_with fail
        refine (KA _).mono ?_
        rintro z wz ⟨rfl, hwz⟩
        subst hwz
        go_wp2_with fail
        go_roundw
        case rel => exact ⟨k + 1, _, _, by first | rfl | go_num | (simp; try omega), rfl, by omega, HC2.out, by rw [List.length_set]; exact HWL.out, HWD.out.set k s HSL.out, HNX.out, HSTEP.out, HQ9.out, HB9.out⟩
        case measure => simp [intOf]; omega
      · obtain rfl := HY3.out hlt2
        have hlt2I : ¬ (k : Int) < (b.length : Int) := by omega
        go_wp2_with fail
        refine (KA _).mono ?_
        rintro z wz ⟨rfl, hwz⟩
        subst hwz
        go_wp2_with fail
        go_roundw
        case rel => exact ⟨k + 1, _, _, by first | rfl | go_num | (simp; try omega), rfl, by omega, HC2.out, by rw [List.length_set]; exact HWL.out, HWD.out.set k s HSL.out, HNX.out, HSTEP.out, HQ9.out, HB9.out⟩
        case measure => simp [intOf]; omega
    · obtain rfl : k = a.length := by omega
      have hlenw := HWL.out
      obtain ⟨W, hW, e1, e2, hQ9, hB9, hS9⟩ := Nt.store HQ.out a.length c (by omega) HBW.out (by have := HT.out; omega)
      have hval : Nt.val (ws.set a.length c) = Nt.val a0 + Nt.val b0 := by
        have h1 := Nt.val_set_take ws a.length c (by omega)
        rw [show (ws.set a.length c).take (a.length + 1) = ws.set a.length c by rw [List.take_of_length_le]; rw [List.length_set]; omega] at h1
        have h2 := HV.out
        rw [List.take_length, List.take_of_length_le hll] at h2
        rw [h1, h2, HSUM.out]
      have hin : Nt.In W (.slice (some ⟨T, 0, none⟩) (a.length + 1) (a.length + 1)) (ws.set a.length c) := by
        have := Nt.In.of_row hQ9
        rw [List.length_set, hlenw] at this
        exact this
      have KN := Nt.norm_any (ws.set a.length c) _ W hin (HWD.out.set _ _ (by omega)) (by rw [List.length_set]; omega)
      rw [hval] at KN
      have HB9 := Lib.hid hB9
      have hnlt : decide ((a.length : Int) < (a.length : Int)) = false := decide_eq_false (by omega)
      have hkT : (a.length : Int) < (a.length : Int) + 1 := by omega
      clear hval hin hQ9 hB9 hlenw
      go_wp2_with fail
      refine KN.mono ?_
      rintro z w8 ⟨v8, rfl, hn8, hb8⟩
      have HN8 := Lib.hid hn8
      have HB8 := Lib.hid (HB9.out.trans (hb8.mono HB9.out.size))
      clear hn8 hb8
      go_wp2_with fail
      go_ret
      exact ⟨_, rfl, HN8.out, HB8.out⟩
end Go.Proofs.YtikmebkfdpbidaaGreatDoor
namespace Go.Proofs.YtikmebkfdpbidaaGreatDoor
open Go.RowKit
set_option linter.unusedVariables false
set_option linter.unusedSimpArgs false

theorem Nt.join64 (r a : Nat) (hr : r < 4294967296) (ha : a < 4294967296) : bits .or .u64 ((r : Int) * 4294967296) (a : Int) = ((4294967296 * r + a : Nat) : Int) := by
  have h := bits_join .u64 64 (by decide) (fun n h0 h1 => by rw [IntKind.wrap_u64]; omega) 32 ((r : Int) * 4294967296) (a : Int) (by omega) (by omega) (by omega) (by omega) (by omega) (by omega)
  rw [h]
  omega
set_option maxHeartbeats 4000000 in
set_option maxRecDepth 1000000 in
theorem Nt.short_ws (a : List Nat) (d : Nat) (v : Value) (w : World) (h : Nt.In w v a) (ha : Nt.Wd a) (hl : a.length ≤ 500000) (hd0 : 0 < d) (hd : d < 4294967296) : Calls Tryz.prog 174 #[v, .int .u32 d] w fun e w' => ∃ v', e = .returned (.tuple #[v', .int .u32 (Nt.val a % d : Nat)]) ∧ Nt.N w' v' (Nt.val a / d) ∧ Below w.heap.size w w' := by
  obtain ⟨ad, cap, rfl⟩ := h.slice
  have H := Lib.hid h
  have HA := Lib.hid ha
  have hmk := Nt.make a.length w (by omega)
  clear h ha
  obtain ⟨T, hT⟩ : ∃ T, w.heap.size = T := ⟨_, rfl⟩
  obtain ⟨w2, hw2⟩ : ∃ z, w.alloc (.cells (Nt.row (List.replicate a.length 0)) 144) = z := ⟨_, rfl⟩
  have q2 : w2.heap[T]? = some (.cells (Nt.row (List.replicate a.length 0)) 144 (0, 0)) := by rw [← hw2, ← hT]; exact heap_alloc_new w _
  have hb2 : Below w.heap.size w w2 := hw2 ▸ (Below.refl _ _).alloc (Nat.le_refl _) _
  rw [hT, hw2] at hmk
  have HT := Lib.hid hT
  have HB2 := Lib.hid hb2
  have HQ2 := Lib.hid q2
  clear hT hw2 hb2 q2
  go_enter Tryz.func174, Tryz.ntmps174
  go_wp2_with fail
  go_loopw [7, 8] (fun rv i wr => ∃ (k r : Nat) (ws : List Nat), i = .int .i64 ((k : Int) - 1) ∧ rv = .int .u64 r ∧ k ≤ a.length ∧ r < d ∧ ws.length = a.length ∧ Nt.Wd ws ∧ Nt.val (a.drop k) = d * Nt.val (ws.drop k) + r ∧ wr.heap[T]? = some (.cells (Nt.row ws) 144 (0, 0)) ∧ Below w.heap.size w wr) (fun _ i _ => (intOf i + 1).toNat)
  case atStart => exact ⟨a.length, 0, List.replicate a.length 0, by first | rfl | go_num | (simp; try omega), rfl, Nat.le_refl _, hd0, by simp, Nt.Wd.zeros _, by rw [List.drop_length, List.drop_eq_nil_of_le (by simp)]; simp [Nt.val], HQ2.out, HB2.out⟩
  case round =>
    obtain ⟨k, r, ws, rfl, rfl, hk, hr, hwl, hwd, hval, hq, hbw⟩ := hrel
    obtain ⟨wo, hwo⟩ : ∃ z, z = wr := ⟨_, rfl⟩
    subst hwo
    have HWD := Lib.hid hwd
    have HV := Lib.hid hval
    have HQ := Lib.hid hq
    have HBW := Lib.hid hbw
    have HWL := Lib.hid hwl
    clear hwd hval hq hbw hwl
    rcases k with _ | k
    · have hval := HV.out
      rw [List.drop_zero, List.drop_zero] at hval
      have hq : Nt.val ws = Nt.val a / d := by
        rw [hval, Nat.mul_add_div hd0, Nat.div_eq_of_lt hr, Nat.add_zero]
      have hm : r = Nt.val a % d := by
        rw [hval, Nat.mul_add_mod, Nat.mod_eq_of_lt hr]
      have hin : Nt.In wo (.slice (some ⟨T, 0, none⟩) a.length a.length) ws := by
        have := Nt.In.of_row HQ.out
        rw [HWL.out] at this
        exact this
      have KN := Nt.norm_any ws _ wo hin HWD.out (by have := HWL.out; omega)
      rw [hq] at KN
      have HM := Lib.hid hm
      have hrw : (r : Int) % 4294967296 = (r : Int) := by omega
      clear hval hq hm hin
      go_wp2_with fail
      refine KN.mono ?_
      rintro z w8 ⟨v8, rfl, hn8, hb8⟩
      have HN8 := Lib.hid hn8
      have HB8 := Lib.hid (HBW.out.trans (hb8.mono HBW.out.size))
      clear hn8 hb8
      go_wp2_with fail
      go_ret2
      exact ⟨_, by rw [← HM.out]; rfl, HN8.out, HB8.out⟩
    · have hk1 : (((k + 1 : Nat) : Int) - 1) = (k : Int) := by omega
      rw [hk1]
      have hkk : k < a.length := by omega
      obtain ⟨b1, o1, rfl, _, hcap1, hbl1, hcell1⟩ := (H.out.below HBW.out (Nat.le_refl _)).at (by omega)
      have c1 := hcell1 k hkk
      have hxb := HA.out.getD k
      have hstep := Nt.short_step (a := a) (ws := ws) (i := k) (r := r) (d := d) HV.out hd0 hkk (by have := HWL.out; omega)
      have hqlt := Nt.short_lt (a := a.getD k 0) (r := r) (d := d) hxb hr
      have HSTEP := Lib.hid hstep
      clear hcell1 hstep
      generalize a.getD k 0 = x at *
      have hj := Nt.join64 r x (by omega) hxb
      obtain ⟨N, hN⟩ : ∃ N, 4294967296 * r + x = N := ⟨_, rfl⟩
      rw [hN] at HSTEP hqlt hj
      have hNl : N < 18446744073709551616 := by omega
      have hsh : ((r : Int) * 4294967296) % 18446744073709551616 = (r : Int) * 4294967296 := by omega
      obtain ⟨q, hq⟩ : ∃ q, N / d = q := ⟨_, rfl⟩
      obtain ⟨m, hm⟩ : ∃ m, N % d = m := ⟨_, rfl⟩
      rw [hq] at HSTEP hqlt
      rw [hm] at HSTEP
      have hml : m < d := hm ▸ Nat.mod_lt _ hd0
      have hqI : (N : Int) / (d : Int) = (q : Int) := by rw [← hq]; rfl
      have hmI : (N : Int) % (d : Int) = (m : Int) := by rw [← hm]; rfl
      have hqw : (q : Int) % 4294967296 = (q : Int) := by omega
      obtain ⟨W, hW, e1, e2, hQ9, hB9, hS9⟩ := Nt.store HQ.out k q (by have := HWL.out; omega) HBW.out (by have := HT.out; omega)
      have hdz : ((d : Int) == 0) = false := by simp; omega
      have HQL := Lib.hid hqlt
      have HQ9 := Lib.hid hQ9
      have HB9 := Lib.hid hB9
      have HML := Lib.hid hml
      clear hN hq hm hqlt hQ9 hB9 hml hS9
      go_wp2_with fail
      go_roundw
      case rel => exact ⟨k, m, _, by first | rfl | go_num | (simp; try omega), by first | rfl | rw [hmI], by omega, HML.out, by rw [List.length_set]; exact HWL.out, HWD.out.set _ _ HQL.out, HSTEP.out, HQ9.out, HB9.out⟩
      case measure => simp [intOf]
end Go.Proofs.YtikmebkfdpbidaaGreatDoor
