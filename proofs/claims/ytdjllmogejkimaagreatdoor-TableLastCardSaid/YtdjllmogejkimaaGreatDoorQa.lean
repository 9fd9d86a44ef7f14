/-
  Natural numbers as rows of words of 32 bits: plain law. Natural numbers as rows of words: the steps of sum, difference, product and of a division by one word. Natural numbers as rows of words: the steps of a product; order; the greatest divisor.
-/
import Derived.Laws.AppendOwn
import Derived.RowKit
import Derived.Below
import Derived.WalkKit
import Derived.Lib.Hide
import Derived.OwnWalk
import Derived.Lib.MapLaws
import Derived.Lib.RuneBytes
import Derived.Lib.SpaceU
import Derived.Lib.TrimUEq
import Derived.WalkSpells
import Derived.WalkLawsBesides
import Derived.Lib.RuneCount
import Derived.Lib.OthersKept
import Derived.Laws.AppendOwnNone
import Derived.ChangeSlices
import Derived.RegionTactic
import Derived.OpenShut
import Derived.SizedLaws
import Derived.ProofKit
import Derived.Lib.SmallJoins
import Derived.Test.YtdjllmogejkimaaGreatDoorProg
import Derived.Handy
import Derived.Laws.MakeOwn
import Derived.Lib.SliceRun
import Derived.Lib.ValidU
import Derived.WalkMore
import Derived.BigQuiet
import Derived.Deep.DeepCutAuto
import Derived.Test.YtdjllmogejkimaaGreatDoorShelfQ
set_option linter.unusedVariables false
set_option linter.unusedSimpArgs false
namespace Go.Proofs.YtdjllmogejkimaaGreatDoor

/-- The number of a row of words, the least first. -/
def Nt.val : List Nat → Nat
  | [] => 0
  | x :: xs => x + 4294967296 * Nt.val xs
def Nt.Wd (ws : List Nat) : Prop := ∀ x ∈ ws, x < 4294967296
/-- A number's words, without noughts at their end. -/
def Nt.dig (n : Nat) : List Nat := if h : n = 0 then [] else (n % 4294967296) :: Nt.dig (n / 4294967296)
termination_by n
decreasing_by omega
theorem Nt.dig_zero : Nt.dig 0 = [] := by rw [Nt.dig]; simp
theorem Nt.dig_pos {n : Nat} (h : 0 < n) : Nt.dig n = (n % 4294967296) :: Nt.dig (n / 4294967296) := by rw [Nt.dig]; simp; omega
theorem Nt.val_dig (n : Nat) : Nt.val (Nt.dig n) = n := by
  induction n using Nat.strongRecOn with
  | _ n ih =>
    rcases Nat.eq_zero_or_pos n with h | h
    · subst h; rw [Nt.dig_zero]; rfl
    · rw [Nt.dig_pos h, Nt.val, ih (n / 4294967296) (by omega)]
      omega
theorem Nt.dig_wd (n : Nat) : Nt.Wd (Nt.dig n) := by
  induction n using Nat.strongRecOn with
  | _ n ih =>
    rcases Nat.eq_zero_or_pos n with h | h
    · subst h; rw [Nt.dig_zero]; intro x hx; cases hx
    · rw [Nt.dig_pos h]
      intro x hx
      rcases List.mem_cons.1 hx with hx | hx
      · omega
      · exact ih (n / 4294967296) (by omega) x hx
theorem Nt.Wd.tail {x : Nat} {xs : List Nat} (h : Nt.Wd (x :: xs)) : Nt.Wd xs := fun y hy => h y (List.mem_cons_of_mem _ hy)
theorem Nt.Wd.head {x : Nat} {xs : List Nat} (h : Nt.Wd (x :: xs)) : x < 4294967296 := h x (List.mem_cons_self ..)
theorem Nt.Wd.take {ws : List Nat} (h : Nt.Wd ws) (k : Nat) : Nt.Wd (ws.take k) := fun x hx => h x (List.mem_of_mem_take hx)
theorem Nt.Wd.getD {ws : List Nat} (h : Nt.Wd ws) (k : Nat) : ws.getD k 0 < 4294967296 := by
  rw [List.getD_eq_getElem?_getD]
  rcases Nat.lt_or_ge k ws.length with hk | hk
  · rw [List.getElem?_eq_getElem hk, Option.getD_some]
    exact h _ (List.getElem_mem hk)
  · rw [List.getElem?_eq_none hk]
    decide
/-- Rows without a nought at their end are the words of their number. -/
theorem Nt.dig_val : ∀ (ws : List Nat), Nt.Wd ws → (ws ≠ [] → ws.getD (ws.length - 1) 0 ≠ 0) → Nt.dig (Nt.val ws) = ws
  | [], _, _ => Nt.dig_zero
  | x :: xs, hw, ht => by
    have ht := ht (by simp)
    have hx := hw.head
    rcases Nat.eq_zero_or_pos xs.length with h0 | h0
    · have : xs = [] := List.eq_nil_of_length_eq_zero h0
      subst this
      have hx0 : x ≠ 0 := by simpa using ht
      rw [show Nt.val [x] = x by simp [Nt.val], Nt.dig_pos (by omega), show x / 4294967296 = 0 by omega, Nt.dig_zero, show x % 4294967296 = x by omega]
    · have ht2 : xs.getD (xs.length - 1) 0 ≠ 0 := by
        have e : (x :: xs).length - 1 = (xs.length - 1) + 1 := by simp; omega
        rw [e] at ht
        simpa using ht
      have ih := Nt.dig_val xs hw.tail (fun _ => ht2)
      have hv : 0 < Nt.val xs := by
        rcases Nat.eq_zero_or_pos (Nt.val xs) with h | h
        · rw [h, Nt.dig_zero] at ih
          rw [← ih] at h0
          simp at h0
        · exact h
      rw [Nt.val, Nt.dig_pos (by omega), show (x + 4294967296 * Nt.val xs) % 4294967296 = x by omega, show (x + 4294967296 * Nt.val xs) / 4294967296 = Nt.val xs by omega, ih]
theorem Nt.val_append : ∀ (a b : List Nat), Nt.val (a ++ b) = Nt.val a + 4294967296 ^ a.length * Nt.val b
  | [], b => by simp [Nt.val]
  | x :: a, b => by
    rw [List.cons_append, Nt.val, Nt.val_append a b, Nt.val, List.length_cons, Nat.pow_succ]
    rw [Nat.mul_add, ← Nat.mul_assoc, Nat.mul_comm (4294967296 ^ a.length) 4294967296]
    omega
theorem Nt.val_lt : ∀ (ws : List Nat), Nt.Wd ws → Nt.val ws < 4294967296 ^ ws.length
  | [], _ => by simp [Nt.val]
  | x :: xs, hw => by
    have ih := Nt.val_lt xs hw.tail
    have hx := hw.head
    rw [Nt.val, List.length_cons, Nat.pow_succ]
    omega
theorem Nt.val_zeros : ∀ (ws : List Nat), (∀ x ∈ ws, x = 0) → Nt.val ws = 0
  | [], _ => rfl
  | x :: xs, h => by
    rw [Nt.val, Nt.val_zeros xs (fun y hy => h y (List.mem_cons_of_mem _ hy)), h x (List.mem_cons_self ..)]
theorem Nt.take_succ (ws : List Nat) (k : Nat) (hk : k < ws.length) : ws.take (k + 1) = ws.take k ++ [ws.getD k 0] := by
  rw [List.take_add_one, List.getD_eq_getElem?_getD, List.getElem?_eq_getElem hk]
  rfl
theorem Nt.val_take_succ (ws : List Nat) (k : Nat) (hk : k < ws.length) : Nt.val (ws.take (k + 1)) = Nt.val (ws.take k) + 4294967296 ^ k * ws.getD k 0 := by
  rw [Nt.take_succ ws k hk, Nt.val_append, List.length_take, Nat.min_eq_left (by omega)]
  simp [Nt.val]
/-- What is left without noughts. -/
theorem Nt.dig_of {ws : List Nat} {n : Nat} (hw : Nt.Wd ws) (hn : n ≤ ws.length) (hz : ∀ j, n ≤ j → j < ws.length → ws.getD j 0 = 0) (ht : n = 0 ∨ ws.getD (n - 1) 0 ≠ 0) : ws.take n = Nt.dig (Nt.val ws) := by
  have hv : Nt.val ws = Nt.val (ws.take n) := by
    conv => lhs; rw [← List.take_append_drop n ws]
    rw [Nt.val_append, Nt.val_zeros (ws.drop n), Nat.mul_zero, Nat.add_zero]
    intro x hx
    obtain ⟨j, hj, rfl⟩ := List.getElem_of_mem hx
    rw [List.length_drop] at hj
    have := hz (n + j) (by omega) (by omega)
    rw [List.getD_eq_getElem?_getD, List.getElem?_eq_getElem (by omega), Option.getD_some] at this
    rw [List.getElem_drop]
    exact this
  rw [hv]
  refine (Nt.dig_val _ (hw.take n) (fun hne => ?_)).symm
  have hn0 : n ≠ 0 := by
    intro e
    subst e
    simp at hne
  have hl : (ws.take n).length = n := by rw [List.length_take]; omega
  rw [hl, List.getD_eq_getElem?_getD, List.getElem?_take, if_pos (by omega), ← List.getD_eq_getElem?_getD]
  rcases ht with h | h
  · exact absurd h hn0
  · exact h
theorem Nt.trim_ex (ws : List Nat) : ∀ k, k ≤ ws.length → (∀ j, k ≤ j → j < ws.length → ws.getD j 0 = 0) → ∃ m, m ≤ ws.length ∧ (∀ j, m ≤ j → j < ws.length → ws.getD j 0 = 0) ∧ (m = 0 ∨ ws.getD (m - 1) 0 ≠ 0)
  | 0, h, hz => ⟨0, h, hz, .inl rfl⟩
  | k + 1, h, hz => by
    by_cases hx : ws.getD k 0 = 0
    · refine Nt.trim_ex ws k (by omega) (fun j h1 h2 => ?_)
      rcases Nat.lt_or_ge k j with h3 | h3
      · exact hz j (by omega) h2
      · obtain rfl : j = k := by omega
        exact hx
    · exact ⟨k + 1, h, hz, .inr hx⟩
theorem Nt.take_dig {ws : List Nat} (hw : Nt.Wd ws) : (Nt.dig (Nt.val ws)).length ≤ ws.length ∧ ws.take (Nt.dig (Nt.val ws)).length = Nt.dig (Nt.val ws) := by
  obtain ⟨m, hm, hz, ht⟩ := Nt.trim_ex ws ws.length (Nat.le_refl _) (fun j h1 h2 => by omega)
  have h := Nt.dig_of hw hm hz ht
  have hl : (Nt.dig (Nt.val ws)).length = m := by rw [← h, List.length_take]; omega
  rw [hl]
  exact ⟨hm, h⟩
theorem Nt.dig_small {n : Nat} (h : 0 < n) (h2 : n < 4294967296) : Nt.dig n = [n] := by
  rw [Nt.dig_pos h, show n / 4294967296 = 0 by omega, Nt.dig_zero, show n % 4294967296 = n by omega]
theorem Nt.dig_len_pos {n : Nat} : 0 < (Nt.dig n).length ↔ 0 < n := by
  rcases Nat.eq_zero_or_pos n with h | h
  · subst h; rw [Nt.dig_zero]; simp
  · rw [Nt.dig_pos h]; simp; omega
/-- The last word is not nought. -/
theorem Nt.dig_last (n : Nat) (h : 0 < n) : (Nt.dig n).getD ((Nt.dig n).length - 1) 0 ≠ 0 := by
  induction n using Nat.strongRecOn with
  | _ n ih =>
    rw [Nt.dig_pos h]
    rcases Nat.eq_zero_or_pos (n / 4294967296) with h0 | h0
    · rw [h0, Nt.dig_zero]
      simp
      omega
    · have := ih (n / 4294967296) (by omega) h0
      have hl := Nt.dig_len_pos.2 h0
      have e : ((n % 4294967296) :: Nt.dig (n / 4294967296)).length - 1 = ((Nt.dig (n / 4294967296)).length - 1) + 1 := by simp; omega
      rw [e]
      simpa using this

theorem Nt.getD_ge (ws : List Nat) (k : Nat) (h : ws.length ≤ k) : ws.getD k 0 = 0 := by
  rw [List.getD_eq_getElem?_getD, List.getElem?_eq_none h]; rfl
theorem Nt.val_take_step (ws : List Nat) (k : Nat) : Nt.val (ws.take (k + 1)) = Nt.val (ws.take k) + 4294967296 ^ k * ws.getD k 0 := by
  rcases Nat.lt_or_ge k ws.length with h | h
  · exact Nt.val_take_succ ws k h
  · rw [Nt.getD_ge ws k h, List.take_of_length_le (by omega), List.take_of_length_le h, Nat.mul_zero, Nat.add_zero]
theorem Nt.val_set : ∀ (ws : List Nat) (k x : Nat), k < ws.length → Nt.val (ws.set k x) + 4294967296 ^ k * ws.getD k 0 = Nt.val ws + 4294967296 ^ k * x
  | [], k, x, h => by simp at h
  | w :: ws, 0, x, h => by
    simp only [List.set_cons_zero, Nt.val, Nat.pow_zero, Nat.one_mul]
    simp
    omega
  | w :: ws, k + 1, x, h => by
    have ih := Nt.val_set ws k x (by simpa using h)
    simp only [List.set_cons_succ, Nt.val]
    have e : (w :: ws).getD (k + 1) 0 = ws.getD k 0 := by simp
    rw [e, Nat.pow_succ, Nat.mul_comm (4294967296 ^ k) 4294967296, Nat.mul_assoc, Nat.mul_assoc]
    omega
theorem Nt.set_take (ws : List Nat) (i x k : Nat) (h : k ≤ i) : (ws.set i x).take k = ws.take k := by
  rw [List.take_set]
  exact List.set_eq_of_length_le (by rw [List.length_take]; omega)
theorem Nt.getD_set_self (ws : List Nat) (i x : Nat) (h : i < ws.length) : (ws.set i x).getD i 0 = x := by
  rw [List.getD_eq_getElem?_getD, List.getElem?_set_self h]; rfl
theorem Nt.getD_set_ne (ws : List Nat) (i j x : Nat) (h : i ≠ j) : (ws.set i x).getD j 0 = ws.getD j 0 := by
  rw [List.getD_eq_getElem?_getD, List.getElem?_set_ne h, ← List.getD_eq_getElem?_getD]
theorem Nt.val_set_take (ws : List Nat) (i x : Nat) (h : i < ws.length) : Nt.val ((ws.set i x).take (i + 1)) = Nt.val (ws.take i) + 4294967296 ^ i * x := by
  rw [Nt.val_take_step, Nt.set_take ws i x i (Nat.le_refl _), Nt.getD_set_self ws i x h]
theorem Nt.Wd.set {ws : List Nat} (h : Nt.Wd ws) (i x : Nat) (hx : x < 4294967296) : Nt.Wd (ws.set i x) := fun y hy => by
  rcases List.mem_or_eq_of_mem_set hy with hy | hy
  · exact h y hy
  · rw [hy]; exact hx
theorem Nt.Wd.zeros (n : Nat) : Nt.Wd (List.replicate n 0) := fun x hx => by
  rw [(List.mem_replicate.1 hx).2]; decide
theorem Nt.zeros_getD (n k : Nat) : (List.replicate n 0).getD k 0 = 0 := by
  rw [List.getD_eq_getElem?_getD, List.getElem?_replicate]
  split <;> rfl
theorem Nt.val_replicate (n : Nat) : Nt.val (List.replicate n 0) = 0 := Nt.val_zeros _ (fun x hx => (List.mem_replicate.1 hx).2)

/-- One word of a sum. -/
theorem Nt.plus_step {a b ws : List Nat} {i c : Nat} (h : Nt.val (ws.take i) + 4294967296 ^ i * c = Nt.val (a.take i) + Nt.val (b.take i)) (hi : i < ws.length) :
    Nt.val ((ws.set i ((a.getD i 0 + b.getD i 0 + c) % 4294967296)).take (i + 1)) + 4294967296 ^ (i + 1) * ((a.getD i 0 + b.getD i 0 + c) / 4294967296) = Nt.val (a.take (i + 1)) + Nt.val (b.take (i + 1)) := by
  rw [Nt.val_set_take _ _ _ hi, Nt.val_take_step a, Nt.val_take_step b, Nat.pow_succ]
  have e := Nat.mod_add_div (a.getD i 0 + b.getD i 0 + c) 4294967296
  generalize a.getD i 0 = x at *
  generalize b.getD i 0 = y at *
  generalize (x + y + c) % 4294967296 = m at *
  generalize (x + y + c) / 4294967296 = q at *
  generalize 4294967296 ^ i = P at *
  have e2 : P * m + P * 4294967296 * q = P * x + P * y + P * c := by
    rw [Nat.mul_assoc, ← Nat.mul_add, e, Nat.mul_add, Nat.mul_add]
  omega
/-- One word of a difference: what is borrowed is 0 or 1. -/
theorem Nt.less_step {a b ws : List Nat} {i c : Nat} (h : Nt.val (ws.take i) + Nt.val (b.take i) = Nt.val (a.take i) + 4294967296 ^ i * c) (hi : i < ws.length) (ha : a.getD i 0 < 4294967296) (hb : b.getD i 0 < 4294967296) (hc : c ≤ 1) {d c' : Nat} (hd : d + b.getD i 0 + c = a.getD i 0 + 4294967296 * c') :
    Nt.val ((ws.set i d).take (i + 1)) + Nt.val (b.take (i + 1)) = Nt.val (a.take (i + 1)) + 4294967296 ^ (i + 1) * c' := by
  rw [Nt.val_set_take _ _ _ hi, Nt.val_take_step a, Nt.val_take_step b, Nat.pow_succ]
  generalize a.getD i 0 = x at *
  generalize b.getD i 0 = y at *
  generalize 4294967296 ^ i = P at *
  have e2 : P * d + P * y + P * c = P * x + P * 4294967296 * c' := by
    rw [Nat.mul_assoc, ← Nat.mul_add, ← Nat.mul_add, ← Nat.mul_add, hd]
  omega
/-- A division by one word, from above. -/
theorem Nt.val_drop_step (ws : List Nat) (i : Nat) (h : i < ws.length) : Nt.val (ws.drop i) = ws.getD i 0 + 4294967296 * Nt.val (ws.drop (i + 1)) := by
  rw [List.drop_eq_getElem_cons h, Nt.val, List.getD_eq_getElem?_getD, List.getElem?_eq_getElem h]
  rfl
theorem Nt.short_step {a ws : List Nat} {i r d : Nat} (h : Nt.val (a.drop (i + 1)) = d * Nt.val (ws.drop (i + 1)) + r) (hd : 0 < d) (hi : i < a.length) (hw : i < ws.length) :
    Nt.val (a.drop i) = d * Nt.val ((ws.set i ((4294967296 * r + a.getD i 0) / d)).drop i) + (4294967296 * r + a.getD i 0) % d := by
  have hl : i < (ws.set i ((4294967296 * r + a.getD i 0) / d)).length := by rw [List.length_set]; exact hw
  rw [Nt.val_drop_step a i hi, Nt.val_drop_step _ i hl, Nt.getD_set_self _ _ _ hw]
  have e1 : (ws.set i ((4294967296 * r + a.getD i 0) / d)).drop (i + 1) = ws.drop (i + 1) := by
    rw [List.drop_set]
    rw [if_pos (by omega)]
  rw [e1, h]
  have e := Nat.div_add_mod (4294967296 * r + a.getD i 0) d
  generalize a.getD i 0 = x at *
  generalize (4294967296 * r + x) / d = q at *
  generalize (4294967296 * r + x) % d = m at *
  generalize Nt.val (ws.drop (i + 1)) = V at *
  have e3 : d * (q + 4294967296 * V) = d * q + 4294967296 * (d * V) := by
    rw [Nat.mul_add, Nat.mul_left_comm]
  rw [e3, Nat.mul_add]
  omega
theorem Nt.short_lt {a r d : Nat} (ha : a < 4294967296) (hr : r < d) : (4294967296 * r + a) / d < 4294967296 := by
  rw [Nat.div_lt_iff_lt_mul (by omega)]
  have : 4294967296 * r + 4294967296 ≤ 4294967296 * d := by
    rw [show 4294967296 * r + 4294967296 = 4294967296 * (r + 1) by omega]
    exact Nat.mul_le_mul_left _ hr
  omega
/-- Which of two numbers is the greater, by their words from above. -/
theorem Nt.val_lt_of {a b : List Nat} (ha : Nt.Wd a) (hb : Nt.Wd b) (hl : a.length = b.length) {i : Nat} (hi : i < a.length) (hlt : a.getD i 0 < b.getD i 0) (hs : ∀ j, i < j → j < a.length → a.getD j 0 = b.getD j 0) : Nt.val a < Nt.val b := by
  have hd : a.drop (i + 1) = b.drop (i + 1) := by
    apply List.ext_getElem?
    intro j
    rw [List.getElem?_drop, List.getElem?_drop]
    rcases Nat.lt_or_ge (i + 1 + j) a.length with h | h
    · have := hs (i + 1 + j) (by omega) h
      rw [List.getD_eq_getElem?_getD, List.getD_eq_getElem?_getD, List.getElem?_eq_getElem h, List.getElem?_eq_getElem (by omega)] at this
      rw [List.getElem?_eq_getElem h, List.getElem?_eq_getElem (by omega)]
      simpa using this
    · rw [List.getElem?_eq_none h, List.getElem?_eq_none (by omega)]
  have ea : Nt.val a = Nt.val (a.take i) + 4294967296 ^ i * (a.getD i 0 + 4294967296 * Nt.val (a.drop (i + 1))) := by
    conv => lhs; rw [← List.take_append_drop i a]
    rw [Nt.val_append, List.length_take, Nat.min_eq_left (by omega), Nt.val_drop_step a i hi]
  have eb : Nt.val b = Nt.val (b.take i) + 4294967296 ^ i * (b.getD i 0 + 4294967296 * Nt.val (b.drop (i + 1))) := by
    conv => lhs; rw [← List.take_append_drop i b]
    rw [Nt.val_append, List.length_take, Nat.min_eq_left (by omega), Nt.val_drop_step b i (by omega)]
  rw [ea, eb, hd]
  have h1 := Nt.val_lt (a.take i) (ha.take i)
  rw [List.length_take, Nat.min_eq_left (by omega)] at h1
  generalize a.getD i 0 = x at *
  generalize b.getD i 0 = y at *
  generalize Nt.val (b.drop (i + 1)) = V at *
  generalize 4294967296 ^ i = P at *
  have h2 : P * (x + 4294967296 * V) + P ≤ P * (y + 4294967296 * V) := by
    rw [← Nat.mul_succ]
    exact Nat.mul_le_mul_left _ (by omega)
  omega
theorem Nt.dig_len_lt {m n : Nat} (h : (Nt.dig m).length < (Nt.dig n).length) : m < n := by
  have h1 := Nt.val_lt _ (Nt.dig_wd m)
  rw [Nt.val_dig] at h1
  have hn : 0 < n := Nt.dig_len_pos.1 (by omega)
  have hl := Nt.dig_last n hn
  have h2 : 4294967296 ^ ((Nt.dig n).length - 1) ≤ n := by
    have e := Nt.val_dig n
    have hlen : (Nt.dig n).length - 1 < (Nt.dig n).length := by omega
    have e2 : Nt.val (Nt.dig n) = Nt.val ((Nt.dig n).take ((Nt.dig n).length - 1)) + 4294967296 ^ ((Nt.dig n).length - 1) * (Nt.dig n).getD ((Nt.dig n).length - 1) 0 := by
      rw [← Nt.val_take_succ _ _ hlen, Nat.sub_add_cancel (by omega), List.take_length]
    rw [e] at e2
    have h3 : 4294967296 ^ ((Nt.dig n).length - 1) * 1 ≤ 4294967296 ^ ((Nt.dig n).length - 1) * (Nt.dig n).getD ((Nt.dig n).length - 1) 0 := Nat.mul_le_mul_left _ (by omega)
    omega
  have h4 : 4294967296 ^ (Nt.dig m).length ≤ 4294967296 ^ ((Nt.dig n).length - 1) := Nat.pow_le_pow_right (by decide) (by omega)
  omega

theorem Nt.times_bd {c x y o : Nat} (hc : c < 4294967296) (hx : x < 4294967296) (hy : y < 4294967296) (ho : o < 4294967296) : c + x * y + o < 18446744073709551616 ∧ (c + x * y + o) / 4294967296 < 4294967296 := by
  have h : x * y ≤ 4294967295 * 4294967295 := Nat.mul_le_mul (by omega) (by omega)
  constructor <;> omega
theorem Nt.times_step {ws b : List Nat} {i j c x V : Nat} (h : Nt.val ws + 4294967296 ^ (i + j) * c = V + 4294967296 ^ i * (x * Nt.val (b.take j))) (hi : i + j < ws.length) :
    Nt.val (ws.set (i + j) ((c + x * b.getD j 0 + ws.getD (i + j) 0) % 4294967296)) + 4294967296 ^ (i + (j + 1)) * ((c + x * b.getD j 0 + ws.getD (i + j) 0) / 4294967296) = V + 4294967296 ^ i * (x * Nt.val (b.take (j + 1))) := by
  have hs := Nt.val_set ws (i + j) ((c + x * b.getD j 0 + ws.getD (i + j) 0) % 4294967296) hi
  rw [Nt.val_take_step b j]
  have e := Nat.mod_add_div (c + x * b.getD j 0 + ws.getD (i + j) 0) 4294967296
  have ep : 4294967296 ^ (i + (j + 1)) = 4294967296 ^ (i + j) * 4294967296 := by rw [← Nat.add_assoc, Nat.pow_succ]
  have eq : 4294967296 ^ i * (x * (Nt.val (b.take j) + 4294967296 ^ j * b.getD j 0)) = 4294967296 ^ i * (x * Nt.val (b.take j)) + 4294967296 ^ (i + j) * (x * b.getD j 0) := by
    rw [Nat.mul_add, Nat.mul_add, Nat.pow_add]
    congr 1
    rw [Nat.mul_assoc, Nat.mul_left_comm x]
  rw [ep, eq]
  generalize Nt.val (ws.set (i + j) ((c + x * b.getD j 0 + ws.getD (i + j) 0) % 4294967296)) = W at *
  generalize ws.getD (i + j) 0 = o at *
  generalize x * b.getD j 0 = xy at *
  generalize (c + xy + o) % 4294967296 = m at *
  generalize (c + xy + o) / 4294967296 = q at *
  generalize 4294967296 ^ (i + j) = P at *
  have e2 : P * m + P * 4294967296 * q = P * c + P * xy + P * o := by
    rw [Nat.mul_assoc, ← Nat.mul_add, e, Nat.mul_add, Nat.mul_add]
  omega
theorem Nt.times_end {ws a b : List Nat} {i c : Nat} (h : Nt.val ws + 4294967296 ^ (i + b.length) * c = Nt.val (a.take i) * Nt.val b + 4294967296 ^ i * (a.getD i 0 * Nt.val (b.take b.length))) (hi : i + b.length < ws.length) (hz : ws.getD (i + b.length) 0 = 0) :
    Nt.val (ws.set (i + b.length) c) = Nt.val (a.take (i + 1)) * Nt.val b := by
  have hs := Nt.val_set ws (i + b.length) c hi
  rw [hz, Nat.mul_zero, Nat.add_zero] at hs
  rw [hs, h, List.take_length, Nt.val_take_step a i, Nat.add_mul, Nat.mul_assoc]
/-- Order by words, from above. -/
theorem Nt.dig_inj {m n : Nat} (h : Nt.dig m = Nt.dig n) : m = n := by
  rw [← Nt.val_dig m, h, Nt.val_dig]
theorem Nt.dig_same {m n : Nat} (hl : (Nt.dig m).length = (Nt.dig n).length) (h : ∀ j, j < (Nt.dig m).length → (Nt.dig m).getD j 0 = (Nt.dig n).getD j 0) : m = n := by
  refine Nt.dig_inj (List.ext_getElem hl (fun j h1 h2 => ?_))
  have := h j h1
  rw [List.getD_eq_getElem?_getD, List.getD_eq_getElem?_getD, List.getElem?_eq_getElem h1, List.getElem?_eq_getElem h2] at this
  simpa using this
def Nt.cmp (m n : Nat) : Int := if m < n then -1 else if m = n then 0 else 1
theorem Nt.cmp_lt {m n : Nat} (h : m < n) : Nt.cmp m n = -1 := by simp [Nt.cmp, h]
theorem Nt.cmp_gt {m n : Nat} (h : n < m) : Nt.cmp m n = 1 := by simp [Nt.cmp]; omega
theorem Nt.cmp_eq (m : Nat) : Nt.cmp m m = 0 := by simp [Nt.cmp]
theorem Nt.cmp_neg {m n : Nat} : Nt.cmp m n < 0 ↔ m < n := by
  unfold Nt.cmp
  split
  · simp; assumption
  · split <;> simp <;> omega
theorem Nt.gcd_step (a b : Nat) : Nat.gcd b (a % b) = Nat.gcd a b := by
  rw [Nat.gcd_comm a b, Nat.gcd_rec b a, Nat.gcd_comm]
end Go.Proofs.YtdjllmogejkimaaGreatDoor
namespace Go.Proofs.YtdjllmogejkimaaGreatDoor
open Go.RowKit

/-- The slice v reads as the words ws. -/
def Nt.In (w : World) (v : Value) (ws : List Nat) : Prop :=
  (v = .slice none 0 0 ∧ ws = []) ∨ (∃ a cap, v = .slice (some a) 0 cap ∧ ws = []) ∨
  (0 < ws.length ∧ ∃ b off cap, v = .slice (some ⟨b, off, none⟩) ws.length cap ∧ ws.length ≤ cap ∧ b < w.heap.size ∧ ∀ j, j < ws.length → w.cell? ⟨b, off + j, none⟩ = some (.int .u32 (ws.getD j 0 : Nat)))
/-- It reads as the number n. -/
def Nt.N (w : World) (v : Value) (n : Nat) : Prop := Nt.In w v (Nt.dig n)
theorem Nt.In.below {w w' : World} {v : Value} {ws : List Nat} {B : Nat} (h : Nt.In w v ws) (hb : Below B w w') (hB : w.heap.size ≤ B) : Nt.In w' v ws := by
  rcases h with h | h | ⟨h0, b, off, cap, hv, hc, hl, hcell⟩
  · exact .inl h
  · exact .inr (.inl h)
  · exact .inr (.inr ⟨h0, b, off, cap, hv, hc, by have := hb.size; omega, fun j hj => (hb.cell (p := ⟨b, off + j, none⟩) (by show b < B; omega)).trans (hcell j hj)⟩)
theorem Nt.N.below {w w' : World} {v : Value} {n : Nat} {B : Nat} (h : Nt.N w v n) (hb : Below B w w') (hB : w.heap.size ≤ B) : Nt.N w' v n := Nt.In.below h hb hB
theorem Nt.In.slice {w : World} {v : Value} {ws : List Nat} (h : Nt.In w v ws) : ∃ ad cap, v = .slice ad ws.length cap := by
  rcases h with ⟨rfl, rfl⟩ | ⟨a, cap, rfl, rfl⟩ | ⟨_, b, off, cap, rfl, _⟩
  · exact ⟨_, _, rfl⟩
  · exact ⟨_, _, rfl⟩
  · exact ⟨_, _, rfl⟩
theorem Nt.In.at {w : World} {ad : Option Addr} {n cap : Nat} {ws : List Nat} (h : Nt.In w (.slice ad n cap) ws) (h0 : 0 < ws.length) : ∃ b off, ad = some ⟨b, off, none⟩ ∧ n = ws.length ∧ ws.length ≤ cap ∧ b < w.heap.size ∧ ∀ j, j < ws.length → w.cell? ⟨b, off + j, none⟩ = some (.int .u32 (ws.getD j 0 : Nat)) := by
  rcases h with ⟨_, rfl⟩ | ⟨_, _, _, rfl⟩ | ⟨_, b, off, c, hv, hc, hl, hcell⟩
  · simp at h0
  · simp at h0
  · simp only [Value.slice.injEq] at hv
    obtain ⟨rfl, rfl, rfl⟩ := hv
    exact ⟨b, off, rfl, rfl, hc, hl, hcell⟩
theorem Nt.In.cap {w : World} {ad : Option Addr} {n cap : Nat} {ws : List Nat} (h : Nt.In w (.slice ad n cap) ws) : n = ws.length ∧ ws.length ≤ cap := by
  rcases h with ⟨hv, rfl⟩ | ⟨a, c, hv, rfl⟩ | ⟨_, b, off, c, hv, hc, _⟩
  · simp only [Value.slice.injEq] at hv; exact ⟨by simpa using hv.2.1, Nat.zero_le _⟩
  · simp only [Value.slice.injEq] at hv; exact ⟨by simpa using hv.2.1, Nat.zero_le _⟩
  · simp only [Value.slice.injEq] at hv; obtain ⟨_, rfl, rfl⟩ := hv; exact ⟨rfl, hc⟩
theorem Nt.In.nil (w : World) : Nt.In w (.slice none 0 0) [] := .inl ⟨rfl, rfl⟩
theorem Nt.N.zero (w : World) : Nt.N w (.slice none 0 0) 0 := by unfold Nt.N; rw [Nt.dig_zero]; exact Nt.In.nil w
/-- The first words, as a slice expression leaves them. -/
theorem Nt.In.takeN {w : World} {ad : Option Addr} {cap : Nat} {ws : List Nat} (h : Nt.In w (.slice ad ws.length cap) ws) (n : Nat) (hn : n ≤ ws.length) : Nt.In w (.slice ad n cap) (ws.take n) := by
  rcases h with ⟨hv, rfl⟩ | ⟨a, c, hv, rfl⟩ | ⟨h0, b, off, c, hv, hc, hl, hcell⟩
  · obtain rfl : n = 0 := by simpa using hn
    simp only [Value.slice.injEq] at hv
    obtain ⟨rfl, _, rfl⟩ := hv
    exact .inl ⟨rfl, rfl⟩
  · obtain rfl : n = 0 := by simpa using hn
    simp only [Value.slice.injEq] at hv
    obtain ⟨rfl, _, rfl⟩ := hv
    exact .inr (.inl ⟨a, cap, rfl, rfl⟩)
  · simp only [Value.slice.injEq] at hv
    obtain ⟨rfl, _, rfl⟩ := hv
    rcases Nat.eq_zero_or_pos n with hz | hz
    · subst hz
      exact .inr (.inl ⟨_, cap, rfl, by simp⟩)
    · have hlen : (ws.take n).length = n := by rw [List.length_take]; omega
      refine .inr (.inr ⟨by omega, b, off, cap, by rw [hlen], by omega, hl, fun j hj => ?_⟩)
      rw [hlen] at hj
      rw [hcell j (by omega), List.getD_eq_getElem?_getD, List.getD_eq_getElem?_getD, List.getElem?_take, if_pos hj]
/-- A row that the call has made. -/
def Nt.row (ws : List Nat) : Array Value := (ws.map fun (x : Nat) => Value.int .u32 (x : Int)).toArray
theorem Nt.row_size (ws : List Nat) : (Nt.row ws).size = ws.length := by simp [Nt.row]
theorem Nt.row_at (ws : List Nat) (k : Nat) (hk : k < ws.length) : (Nt.row ws)[k]? = some (.int .u32 (ws.getD k 0 : Nat)) := by
  rw [List.getD_eq_getElem?_getD, List.getElem?_eq_getElem hk]
  simp [Nt.row, List.getElem?_eq_getElem hk]
theorem Nt.row_set (ws : List Nat) (k x : Nat) : (Nt.row ws).set! k (.int .u32 (x : Int)) = Nt.row (ws.set k x) := by
  simp [Nt.row, List.map_set]
theorem Nt.cell_row {w : World} {T : Nat} {t : TypeId} {ws : List Nat} (h : w.heap[T]? = some (.cells (Nt.row ws) t (0, 0))) (k : Nat) (hk : k < ws.length) : w.cell? ⟨T, k, none⟩ = some (.int .u32 (ws.getD k 0 : Nat)) := by
  have e : w.cell? ⟨T, k, none⟩ = (Nt.row ws)[k]? := by simp [World.cell?, h]
  rw [e, Nt.row_at ws k hk]
theorem Nt.frozen_row {w : World} {T : Nat} {t : TypeId} {ws : List Nat} (h : w.heap[T]? = some (.cells (Nt.row ws) t (0, 0))) (k : Nat) : w.frozen? ⟨T, k, none⟩ = false := by
  simp [World.frozen?, h]
theorem Nt.set_row {w : World} {T : Nat} {t : TypeId} {ws : List Nat} (h : w.heap[T]? = some (.cells (Nt.row ws) t (0, 0))) (k x : Nat) : (w.setCell ⟨T, k, none⟩ (.int .u32 (x : Int))).heap[T]? = some (.cells (Nt.row (ws.set k x)) t (0, 0)) := by
  obtain ⟨hlt, hk⟩ := Array.getElem?_eq_some_iff.1 h
  rw [← Nt.row_set]
  show (w.heap.modify T _)[T]? = _
  rw [Array.getElem?_eq_getElem (by rw [Array.size_modify]; exact hlt), Array.getElem_modify_self, hk]
  rfl
theorem Nt.In.of_row {w : World} {T : Nat} {t : TypeId} {ws : List Nat} (h : w.heap[T]? = some (.cells (Nt.row ws) t (0, 0))) : Nt.In w (.slice (some ⟨T, 0, none⟩) ws.length ws.length) ws := by
  rcases Nat.eq_zero_or_pos ws.length with h0 | h0
  · have : ws = [] := List.eq_nil_of_length_eq_zero h0
    subst this
    exact .inr (.inl ⟨_, 0, rfl, rfl⟩)
  · refine .inr (.inr ⟨h0, T, 0, ws.length, rfl, Nat.le_refl _, (Array.getElem?_eq_some_iff.1 h).1, fun j hj => ?_⟩)
    rw [Nat.zero_add]
    exact Nt.cell_row h j hj
/-- A row of noughts, made. -/
theorem Nt.made_zeros (n : Nat) : madeCells (Value.int .u32 0).cells n = Nt.row (List.replicate n 0) := by
  apply Array.ext
  · simp [madeCells, Nt.row]
  · intro i h1 h2
    simp [madeCells, Value.cells, Nt.row, Nat.mod_one]
end Go.Proofs.YtdjllmogejkimaaGreatDoor
namespace Go.Proofs.YtdjllmogejkimaaGreatDoor.Ru
open Go.Lib

/-- Is it a character's number? -/
def okR (r : Int) : Prop := (0 ≤ r ∧ r < 55296) ∨ (57344 ≤ r ∧ r ≤ 1114111)
instance (r : Int) : Decidable (okR r) := by unfold okR; infer_instance

def unitsF : Nat → List UInt8 → List (Nat × Nat)
  | 0, _ => []
  | f + 1, l => if l = [] then [] else decodeL l :: unitsF f (l.drop (decodeL l).2)
/-- The characters of a text, each with its width (a bad byte: U+FFFD, 1). -/
def units (l : List UInt8) : List (Nat × Nat) := unitsF l.length l
def runes (l : List UInt8) : List Int := (units l).map fun u => (u.1 : Int)

theorem width_pos (l : List UInt8) (_h : l ≠ []) : 1 ≤ (decodeL l).2 := decodeL_width l
theorem width_le (l : List UInt8) (h : l ≠ []) : (decodeL l).2 ≤ l.length := decodeL_le l h

theorem unitsF_enough : ∀ (f g : Nat) (l : List UInt8), l.length ≤ f → l.length ≤ g → unitsF f l = unitsF g l
  | 0, g, l, h, _ => by
    have : l = [] := List.length_eq_zero_iff.1 (by omega)
    subst this
    cases g <;> simp [unitsF]
  | f + 1, 0, l, _, h => by
    have : l = [] := List.length_eq_zero_iff.1 (by omega)
    subst this
    simp [unitsF]
  | f + 1, g + 1, l, h1, h2 => by
    unfold unitsF
    by_cases hl : l = []
    · simp [hl]
    · rw [if_neg hl, if_neg hl]
      have := width_pos l hl
      rw [unitsF_enough f g (l.drop (decodeL l).2) (by simp; omega) (by simp; omega)]

theorem units_step (l : List UInt8) (h : l ≠ []) : units l = decodeL l :: units (l.drop (decodeL l).2) := by
  have hl : 0 < l.length := List.length_pos_iff.2 h
  unfold units
  obtain ⟨n, hn⟩ : ∃ n, l.length = n + 1 := ⟨l.length - 1, by omega⟩
  rw [hn]
  show (if l = [] then [] else _) = _
  rw [if_neg h]
  have := width_pos l h
  rw [unitsF_enough n (l.drop (decodeL l).2).length _ (by simp; omega) (by simp)]
theorem runes_step (l : List UInt8) (h : l ≠ []) : runes l = ((decodeL l).1 : Int) :: runes (l.drop (decodeL l).2) := by
  unfold runes; rw [units_step l h]; rfl

theorem decode_ok (l : List UInt8) (_hne : l ≠ []) : okR ((decodeL l).1 : Int) := by
  unfold okR
  rw [decodeL_N]
  have k0 := (l.getD 0 0).toNat_lt
  have k1 := (l.getD 1 0).toNat_lt
  have k2 := (l.getD 2 0).toNat_lt
  have k3 := (l.getD 3 0).toNat_lt
  rcases decodeN_shape l.length (l.getD 0 0).toNat (l.getD 1 0).toNat (l.getD 2 0).toNat (l.getD 3 0).toNat with ⟨c, e⟩ | ⟨c1, c2, c3, cv, e⟩ | ⟨c1, c2, c3, c4, cv, cs, e⟩ | ⟨c1, c2, c3, c4, c5, cv, cw, e⟩ | e <;> rw [e] <;> simp only [] <;> omega

theorem runes_ok : ∀ (f : Nat) (l : List UInt8), l.length ≤ f → ∀ r ∈ runes l, okR r
  | 0, l, h, r, hr => by
    have : l = [] := List.length_eq_zero_iff.1 (by omega)
    subst this
    cases hr
  | f + 1, l, h, r, hr => by
    by_cases hl : l = []
    · subst hl; cases hr
    · rw [runes_step l hl] at hr
      have := width_pos l hl
      rcases List.mem_cons.1 hr with rfl | hr
      · exact decode_ok l hl
      · exact runes_ok f _ (by simp; omega) r hr
theorem runes_okR (l : List UInt8) : ∀ r ∈ runes l, okR r := runes_ok l.length l (Nat.le_refl _)

/-- A bad number is encoded as U+FFFD is. -/
theorem encode_bad {r : Int} (h : ¬ okR r) : encodeRune r = encodeRune 65533 := by
  unfold okR at h
  unfold encodeRune
  rw [encodeRuneZ_bad (by omega), encodeRuneZ_three (r := 65533) (by omega)]
  rfl

def encs (rs : List Int) : List UInt8 := rs.flatMap encodeRune
theorem encs_append (a b : List Int) : encs (a ++ b) = encs a ++ encs b := by simp [encs]
theorem encode_length (r : Int) : 1 ≤ (encodeRune r).length ∧ (encodeRune r).length ≤ 4 := by
  have := encodeRuneZ_length r
  simpa [encodeRune] using this

theorem byteNat (z : Int) (_h0 : 0 ≤ z) (h1 : z < 256) : (z.toNat.toUInt8).toNat = z.toNat := by
  simp
  omega

/-- The model's decoding at a place is the list's. -/
theorem decode_drop (s : ByteArray) (pos : Nat) : Utf8.decode s pos = decodeL (s.data.toList.drop pos) := (decodeL_drop s pos).symm

/-- A text, character for character. -/
def mapT (F : Int → List Int) (l : List UInt8) : List UInt8 := encs ((runes l).flatMap F)
theorem mapT_step (F : Int → List Int) (l : List UInt8) (h : l ≠ []) : mapT F l = encs (F ((decodeL l).1 : Int)) ++ mapT F (l.drop (decodeL l).2) := by
  unfold mapT
  rw [runes_step l h, List.flatMap_cons, encs_append]
theorem mapT_at (F : Int → List Int) (s : ByteArray) (pos : Nat) (h : pos < s.size) :
    mapT F (s.data.toList.drop pos) = encs (F ((Utf8.decode s pos).1 : Int)) ++ mapT F (s.data.toList.drop (pos + (Utf8.decode s pos).2)) := by
  have hs : s.data.toList.length = s.size := by simp
  rw [mapT_step F _ (by intro h2; have := congrArg List.length h2; simp at this; omega), decode_drop, List.drop_drop]
theorem mapT_end (F : Int → List Int) (s : ByteArray) (pos : Nat) (h : ¬ pos < s.size) : mapT F (s.data.toList.drop pos) = [] := by
  have hs : s.data.toList.length = s.size := by simp
  rw [List.drop_eq_nil_of_le (by omega)]
  rfl
end Go.Proofs.YtdjllmogejkimaaGreatDoor.Ru
namespace Go.Proofs.YtdjllmogejkimaaGreatDoor.Sl
open Go.RowKit

theorem addr_add (b off j : Nat) : (⟨b, off, none⟩ : Addr).add j = ⟨b, off + j, none⟩ := by
  unfold Addr.add
  split <;> simp_all

theorem own_below {w w' : World} {B B2 : Nat} {t : TypeId} {v : Value} {n : Nat} {xs : List Value} (h : w.ownsRow B t 1 v n xs) (hb : Below B2 w w') (hB : w.heap.size ≤ B2) : w'.ownsRow B t 1 v n xs := by
  refine ⟨h.1, ?_⟩
  rcases h.2 with hv | ⟨g, cap, cur, hv, hB', hg, rest⟩
  · exact .inl hv
  · have hlt := (Array.getElem?_eq_some_iff.1 hg).1
    exact .inr ⟨g, cap, cur, hv, hB', by rw [hb.block g (by omega)]; exact hg, rest⟩

theorem own_empty (w : World) (t : TypeId) : (w.alloc (.cells #[] t)).ownsRow w.heap.size t 1 (.slice (some ⟨w.heap.size, 0, none⟩) 0 0) 0 [] :=
  ⟨by simp, .inr ⟨w.heap.size, 0, #[], rfl, Nat.le_refl _, heap_alloc_new w _, Nat.le_refl _, Nat.zero_le _, by simp, by simp⟩⟩
theorem below_own {B B2 : Nat} {w wr w' : World} {t : TypeId} {v : Value} {n : Nat} {xs : List Value} (hb : Below B w wr) (ho : wr.ownsRow B2 t 1 v n xs) (hg : wr.grownBy w' v.ownBlock) (h2 : B ≤ B2) (h3 : B2 ≤ wr.heap.size) : Below B w w' :=
  hb.grown hg (by omega) (fun k hk => by have := (ho.lt k hk).1; omega)

theorem one_new (w : World) (v : Value) (t : TypeId) : ∀ (j : Nat) (u : Value), ([v] : List Value)[j]? = some u → (w.alloc (.cells #[v] t)).cell? ((⟨w.heap.size, 0, none⟩ : Addr).add j) = some u := by
  intro j u hj
  match j, hj with
  | 0, hj => simp at hj; subst hj; simp [Addr.add]
theorem ub (n : Nat) (z : Int) (h : z.toNat = n) : UInt8.ofNat n = z.toNat.toUInt8 := by subst h; rfl
theorem encode_ok (n : Nat) (h : Ru.okR (n : Int)) : Utf8.encode (n : Int) = ⟨(Lib.encodeRune (n : Int)).toArray⟩ := by
  have hv : Utf8.valid (n : Int) = true := by
    unfold Ru.okR at h
    unfold Utf8.valid
    simp only [Bool.or_eq_true, Bool.and_eq_true, decide_eq_true_eq]
    omega
  unfold Utf8.encode Lib.encodeRune
  unfold Ru.okR at h
  simp only [hv, if_true, Int.toNat_natCast]
  by_cases c1 : n < 128
  · rw [if_pos c1, Lib.encodeRuneZ_one (by omega) (by omega), ub n (n : Int) (by omega)]
    rfl
  rw [if_neg c1]
  by_cases c2 : n < 2048
  · rw [if_pos c2, Lib.encodeRuneZ_two (by omega) (by omega), ub _ (192 + (n : Int) / 64) (by omega), ub _ (128 + (n : Int) % 64) (by omega)]
    rfl
  rw [if_neg c2]
  by_cases c3 : n < 65536
  · rw [if_pos c3, Lib.encodeRuneZ_three (by omega), ub _ (224 + (n : Int) / 4096) (by omega), ub _ (128 + (n : Int) / 64 % 64) (by omega), ub _ (128 + (n : Int) % 64) (by omega)]
    rfl
  rw [if_neg c3, Lib.encodeRuneZ_four (by omega) (by omega), ub _ (240 + (n : Int) / 262144) (by omega), ub _ (128 + (n : Int) / 4096 % 64) (by omega), ub _ (128 + (n : Int) / 64 % 64) (by omega), ub _ (128 + (n : Int) % 64) (by omega)]
  rfl
theorem encode_no (r : Int) (h : ¬ Ru.okR r) : Utf8.encode r = Utf8.encode 65533 := by
  have hv : Utf8.valid r = false := by
    unfold Ru.okR at h
    unfold Utf8.valid
    rw [Bool.eq_false_iff]
    simp only [ne_eq, Bool.or_eq_true, Bool.and_eq_true, decide_eq_true_eq]
    omega
  unfold Utf8.encode
  rw [hv]
  rfl
theorem encode_eq (r : Int) : Utf8.encode r = ⟨(Lib.encodeRune r).toArray⟩ := by
  by_cases h : Ru.okR r
  · obtain ⟨n, rfl⟩ := Int.eq_ofNat_of_zero_le (a := r) (by unfold Ru.okR at h; omega)
    exact encode_ok n h
  · rw [encode_no r h, Ru.encode_bad h]
    exact encode_ok 65533 (by unfold Ru.okR; omega)

end Go.Proofs.YtdjllmogejkimaaGreatDoor.Sl
namespace Go.Proofs.YtdjllmogejkimaaGreatDoor
open Go.RowKit

def Cd.byt (s : ByteArray) (i : Nat) : Int := (s.get! i).toNat
theorem Cd.byt_bd (s : ByteArray) (i : Nat) : 0 ≤ Cd.byt s i ∧ Cd.byt s i < 256 := by
  unfold Cd.byt
  have := (s.get! i).toNat_lt
  omega
def Cd.pair (r q : Int) : Prop := 55296 ≤ r ∧ r ≤ 56319 ∧ 56320 ≤ q ∧ q ≤ 57343
instance (r q : Int) : Decidable (Cd.pair r q) := by unfold Cd.pair; infer_instance
end Go.Proofs.YtdjllmogejkimaaGreatDoor
namespace Go.Proofs.YtdjllmogejkimaaGreatDoor.By
open Go.RowKit

/-- The cells of bytes. -/
def vals (s : ByteArray) : List Value := (List.range s.size).map fun j => Value.int .u8 (Cd.byt s j)
theorem vals_len (s : ByteArray) : (vals s).length = s.size := by simp [vals]
theorem vals_at (s : ByteArray) (j : Nat) (h : j < s.size) : (vals s)[j]? = some (.int .u8 (Cd.byt s j)) := by simp [vals, h]

/-- The value v can be read as the bytes s; nil or not. -/
def In (w : World) (v : Value) (s : ByteArray) : Prop :=
  (v = .slice none 0 0 ∧ s.size = 0) ∨ (∃ a cap, v = .slice (some a) 0 cap ∧ s.size = 0) ∨
  (0 < s.size ∧ ∃ b off cap, v = .slice (some ⟨b, off, none⟩) s.size cap ∧ s.size ≤ cap ∧ b < w.heap.size ∧ ∀ j, j < s.size → w.cell? ⟨b, off + j, none⟩ = some (.int .u8 (Cd.byt s j)))

theorem In.below {w w' : World} {v : Value} {s : ByteArray} {B : Nat} (h : In w v s) (hb : Below B w w') (hB : w.heap.size ≤ B) : In w' v s := by
  rcases h with h | h | ⟨h0, b, off, cap, hv, h1, h2, hc⟩
  · exact .inl h
  · exact .inr (.inl h)
  · exact .inr (.inr ⟨h0, b, off, cap, hv, h1, by have := hb.size; omega, fun j hj => (hb.cell (p := ⟨b, off + j, none⟩) (by show b < B; omega)).trans (hc j hj)⟩)
theorem In.slice {w : World} {v : Value} {s : ByteArray} (h : In w v s) : ∃ ad cap, v = .slice ad s.size cap := by
  rcases h with ⟨h, h0⟩ | ⟨a, cap, h, h0⟩ | ⟨h0, b, off, cap, hv, _⟩
  · exact ⟨none, 0, by rw [h, h0]⟩
  · exact ⟨some a, cap, by rw [h, h0]⟩
  · exact ⟨_, cap, hv⟩
theorem In.of_own {w : World} {B : Nat} {t : TypeId} {v : Value} {s : ByteArray} (h : w.ownsRow B t 1 v s.size (vals s)) : In w v s := by
  rcases h.2 with ⟨hv, h0⟩ | ⟨g, cap, cur, hv, hB, hg, hn, hm, hs, ht⟩
  · exact .inl ⟨hv, h0⟩
  · rcases Nat.eq_zero_or_pos s.size with h0 | h0
    · exact .inr (.inl ⟨_, cap, by rw [hv, h0], h0⟩)
    · refine .inr (.inr ⟨h0, g, 0, cap, hv, hn, (Array.getElem?_eq_some_iff.1 hg).1, fun i hi => ?_⟩)
      have := h.cells (g := g) (by rw [hv]; rfl) i _ (vals_at s i hi)
      rw [← this, Sl.addr_add]

/-- 'append(dst, v...)' of bytes onto what the call owns. -/
theorem run_append_bytes {P : Program} (w : World) (t ty : TypeId) (base : Nat) (e : TypeId) (i : TypeInfo) (z : Value) (ht : P.underlying t = some (.slice e)) (hi : P.info? e = some i) (hz : i.zero = some z)
    (hsize : i.size = 1) (hby : i.bytes = 1) (hzs : z.cells.size = 1)
    (v : Value) (n : Nat) (xs : List Value) (hown : w.ownsRow base e 1 v n xs) (xv : Value) (S : ByteArray) (hin : In w xv S)
    (h63 : n + S.size ≤ maxLen) (hbytes : n + S.size ≤ 140737488355328) (hbase : base ≤ w.heap.size) :
    ∃ v' w', (Builtin.append_ #[t, t] ty #[v, xv]).run P w = .ok v' w' ∧ w'.ownsRow base e 1 v' (n + S.size) (xs ++ vals S) ∧ w.grownBy w' v.ownBlock ∧ (v' = .slice none 0 0 → v = .slice none 0 0) := by
  rcases hin with ⟨rfl, h0⟩ | ⟨ad, cap, rfl, h0⟩ | ⟨h0, b, off, cap, rfl, h1, h2, hc⟩
  · have hv0 : vals S = [] := List.length_eq_zero_iff.1 (by rw [vals_len, h0])
    refine ⟨v, w, run_append_owned_none (P := P) (w := w) base t ty e i 1 ht hi v n xs hown, ?_, ⟨rfl, rfl, rfl, Nat.le_refl _, fun _ _ _ => rfl⟩, id⟩
    rw [hv0, h0, List.append_nil, Nat.add_zero]
    exact hown
  · have hv0 : vals S = [] := List.length_eq_zero_iff.1 (by rw [vals_len, h0])
    obtain ⟨v', w', hr, h1, h2, h3⟩ := run_append_own (P := P) w base t ty e i z 1 1 ht hi hz hsize hby hzs (by decide) v n xs hown ad 0 cap [] rfl (by simp) (by simp) (by omega) (by omega) hbase
    refine ⟨v', w', hr, ?_, h2, fun hh => (h3.1 hh).1⟩
    rw [hv0, h0]
    exact h1
  · obtain ⟨v', w', hr, h1, h2, h3⟩ := run_append_own (P := P) w base t ty e i z 1 1 ht hi hz hsize hby hzs (by decide) v n xs hown ⟨b, off, none⟩ S.size cap (vals S) (by rw [vals_len, Nat.mul_one]) (fun j u hj => by
      have hj2 : j < S.size := by have := (List.getElem?_eq_some_iff.1 hj).1; rw [vals_len] at this; exact this
      rw [vals_at S j hj2] at hj
      cases hj
      rw [Sl.addr_add]
      exact hc j hj2) (fun u hu => by obtain ⟨j, _, rfl⟩ := List.mem_map.1 hu; rfl) h63 (by omega) hbase
    exact ⟨v', w', hr, h1, h2, fun hh => (h3.1 hh).1⟩

section
variable {P : Program} {w : World} {ops : Array Oper} {rest : List Oper} {o : Oper} {a : Act} {Q : Exit → Act → World → Prop}
theorem wp_append_bytes {K : Act → World → Prop} (s x : Operand) (t : TypeId)
    (ho : o.op = .call { callee := .builtin .append, args := #[s, x], argTypes := #[t, t] })
    (base : Nat) (e : TypeId) (i : TypeInfo) (z : Value) (ht : P.underlying t = some (.slice e)) (hi : P.info? e = some i) (hz : i.zero = some z)
    (hsize : i.size = 1) (hby : i.bytes = 1) (hzs : z.cells.size = 1)
    (v : Value) (n : Nat) (xs : List Value) (hs : a.eval s = v) (hown : w.ownsRow base e 1 v n xs)
    (xv : Value) (S : ByteArray) (hx : a.eval x = xv) (hin : In w xv S)
    (h63 : n + S.size ≤ maxLen) (hbytes : n + S.size ≤ 140737488355328) (hbase : base ≤ w.heap.size)
    (h : ∀ v' w', w'.ownsRow base e 1 v' (n + S.size) (xs ++ vals S) → w.grownBy w' v.ownBlock → (v' = .slice none 0 0 → v = .slice none 0 0) → K (a.put o.dst v') w') : o.wp P a w K Q := by
  obtain ⟨v', w', hr, h2, h3, h4⟩ := run_append_bytes (P := P) w t o.type base e i z ht hi hz hsize hby hzs v n xs hown xv S hin h63 hbytes hbase
  unfold Oper.wp execOp
  simp only [ho, resolve, invoke, builtin, Sem.run_bind, Sem.run_pure, Result.andThen_ok, List.map_toArray, List.map_cons, List.map_nil, hs, hx, hr]
  exact h v' w' h2 h3 h4
theorem wpList_append_bytes (hgd : o.guard = none) (s x : Operand) (t : TypeId)
    (ho : o.op = .call { callee := .builtin .append, args := #[s, x], argTypes := #[t, t] })
    (base : Nat) (e : TypeId) (i : TypeInfo) (z : Value) (ht : P.underlying t = some (.slice e)) (hi : P.info? e = some i) (hz : i.zero = some z)
    (hsize : i.size = 1) (hby : i.bytes = 1) (hzs : z.cells.size = 1)
    (v : Value) (n : Nat) (xs : List Value) (hs : a.eval s = v) (hown : w.ownsRow base e 1 v n xs)
    (xv : Value) (S : ByteArray) (hx : a.eval x = xv) (hin : In w xv S)
    (h63 : n + S.size ≤ maxLen) (hbytes : n + S.size ≤ 140737488355328) (hbase : base ≤ w.heap.size)
    (h : ∀ v' w', w'.ownsRow base e 1 v' (n + S.size) (xs ++ vals S) → w.grownBy w' v.ownBlock → (v' = .slice none 0 0 → v = .slice none 0 0) → wpList P ops Q rest (a.put o.dst v') w') : wpList P ops Q (o :: rest) a w :=
  wpList_plain hgd fun _ hK => wp_append_bytes s x t ho base e i z ht hi hz hsize hby hzs v n xs hs hown xv S hx hin h63 hbytes hbase fun v' w' h2 h3 h4 => hK _ _ (h v' w' h2 h3 h4)
end

/-- Bytes off a list of numbers. -/
def ofNums (zs : List Int) : ByteArray := ⟨(zs.map fun z => z.toNat.toUInt8).toArray⟩
theorem ofNums_size (zs : List Int) : (ofNums zs).size = zs.length := by
  show (List.toArray _).size = _
  simp
theorem ofNums_byt (zs : List Int) (hz : ∀ n ∈ zs, (Lit.int .u8 n).wf = true) (j : Nat) (h : j < zs.length) : Cd.byt (ofNums zs) j = zs.getD j 0 := by
  have hb := bounds_u8 (hz _ (List.getElem_mem h))
  have e : (ofNums zs).get! j = (zs[j]).toNat.toUInt8 := by
    show (ofNums zs).data[j]! = _
    unfold ofNums
    simp [h]
  unfold Cd.byt
  rw [e, List.getD_eq_getElem?_getD, List.getElem?_eq_getElem h]
  have : ((zs[j]).toNat.toUInt8).toNat = (zs[j]).toNat := by
    rw [Nat.toUInt8, UInt8.toNat_ofNat']
    omega
  rw [this]
  simp
  omega

/-- An argument that is a slice of bytes. -/
theorem In.open {H : Type} {enc : TypeId × Value → H} {P : Program} {w : World} {base : Nat} {spare : Nat → Bool} {held : Bool} {t e : TypeId} {v : Value} {d : DataW H} {ps : List MemPlace} (ht : P.underlying t = some (.slice e)) (he : P.underlying e = some (.int .u8)) (hc : P.cellsOf e = 1)
    (hv : ∃ a len cap, v = .slice a len cap) (hj : DataW.Trod enc P w base spare held t v d ps) :
    ∃ s : ByteArray, In w v s ∧ ((d = .nil ∧ s.size = 0) ∨ ∃ elems spare, d = .slice elems spare ∧ elems.length = s.size) := by
  obtain ⟨a0, len, cap, rfl⟩ := hv
  obtain ⟨fuel, hf⟩ := hj
  rcases Go.ChangeShapes.open_ints ht he hc hf with ⟨hcs, hx⟩ | ⟨a, len', cap', zs, hcs, _, hl, hm, hz, hx, hcell, hwz⟩
  · simp only [Value.cells, List.cons.injEq, Value.slice.injEq, and_true] at hcs
    simp only [Prod.mk.injEq] at hx
    refine ⟨⟨#[]⟩, .inl ⟨?_, rfl⟩, .inl ⟨hx.1, rfl⟩⟩
    simp_all
  · simp only [Prod.mk.injEq] at hx
    have hlz : len' ≤ zs.length := by rw [hz]; split <;> omega
    have hsz : (ofNums (zs.take len')).size = len' := by rw [ofNums_size, List.length_take]; omega
    have hva : (Value.slice a0 len cap) = .slice (some a) len' cap' := by simpa [Value.cells] using hcs
    refine ⟨ofNums (zs.take len'), ?_, .inr ⟨_, _, hx.1, by simp [Go.ChangeShapes.lits, hsz]; omega⟩⟩
    rcases Nat.eq_zero_or_pos len' with h0 | h0
    · exact .inr (.inl ⟨a, cap', by rw [hva, h0], by rw [hsz, h0]⟩)
    · obtain ⟨b, off, rfl, hcl⟩ := ints_at hcell (by omega)
      refine .inr (.inr ⟨by omega, b, off, cap', by rw [hva, hsz], by omega, ?_, fun j hj => ?_⟩)
      · have h1 := hcl 0 (by omega)
        rcases Nat.lt_or_ge b w.heap.size with h | h
        · exact h
        · simp [World.cell?, Array.getElem?_eq_none h] at h1
      · rw [hsz] at hj
        rw [hcl j (by omega), ofNums_byt _ (fun n hn => hwz n (List.mem_of_mem_take hn)) j (by rw [List.length_take]; omega)]
        congr 2
        rw [List.getD_eq_getElem?_getD, List.getD_eq_getElem?_getD, List.getElem?_take, if_pos hj]
theorem In.at {w : World} {ad : Option Addr} {n cap : Nat} {s : ByteArray} (h : In w (.slice ad n cap) s) (h0 : 0 < s.size) : ∃ b off, ad = some ⟨b, off, none⟩ ∧ b < w.heap.size ∧ s.size ≤ cap ∧ ∀ j, j < s.size → w.cell? ⟨b, off + j, none⟩ = some (.int .u8 (Cd.byt s j)) := by
  rcases h with ⟨_, h1⟩ | ⟨_, _, _, h1⟩ | ⟨_, b, off, c2, hv, h1, h2, hc⟩
  · omega
  · omega
  · simp only [Value.slice.injEq] at hv
    obtain ⟨rfl, _, rfl⟩ := hv
    exact ⟨b, off, rfl, h2, h1, hc⟩

/-- The cells of a list of bytes. -/
def bv (l : List UInt8) : List Value := l.map fun b => Value.int .u8 b.toNat
theorem bv_append (a b : List UInt8) : bv (a ++ b) = bv a ++ bv b := by simp [bv]
section
variable {P : Program} {w : World} {ops : Array Oper} {rest : List Oper} {o : Oper} {a : Act} {Q : Exit → Act → World → Prop}
end
end Go.Proofs.YtdjllmogejkimaaGreatDoor.By
namespace Go.Proofs.YtdjllmogejkimaaGreatDoor
open Go.RowKit

/-- What a node of a datum holds beside its list: kind, number, exact number, text, bytes. -/
structure Tr.Hd where
  k : Int
  n : Int
  s1 : Bool
  t1 : List Nat
  b1 : List Nat
  s2 : Bool
  t2 : List Nat
  b2 : List Nat
  x : ByteArray
  raw : ByteArray
/-- A datum. -/
inductive Tr where
  | mk (h : Tr.Hd) (l : List Tr)
def Tr.hd : Tr → Tr.Hd | .mk h _ => h
def Tr.li : Tr → List Tr | .mk _ l => l
/-- What a node can hold at all. -/
structure Tr.Hd.Ok (h : Tr.Hd) : Prop where
  k0 : -9223372036854775808 ≤ h.k
  k1 : h.k ≤ 9223372036854775807
  n0 : -9223372036854775808 ≤ h.n
  n1 : h.n ≤ 9223372036854775807
  w1 : Nt.Wd h.t1
  w2 : Nt.Wd h.b1
  w3 : Nt.Wd h.t2
  w4 : Nt.Wd h.b2
  l1 : h.t1.length ≤ 4611686018427387904
  l2 : h.b1.length ≤ 4611686018427387904
  l3 : h.t2.length ≤ 4611686018427387904
  l4 : h.b2.length ≤ 4611686018427387904
  x1 : h.x.size ≤ maxLen
  r1 : h.raw.size ≤ 140737488355328
/-- The eleven cells of a node. -/
def Tr.cells (h : Tr.Hd) (v3 v4 v6 v7 v9 v10 : Value) : Array Value := #[.int .i64 h.k, .int .i64 h.n, .bool h.s1, v3, v4, .bool h.s2, v6, v7, .string h.x, v9, v10]
theorem Tr.cells_size (h : Tr.Hd) (v3 v4 v6 v7 v9 v10 : Value) : (Tr.cells h v3 v4 v6 v7 v9 v10).size = 11 := rfl
/-- The blocks that a slice of n cells or more lies in are of S. -/
def Tr.On (S : Nat → Prop) (v : Value) (n : Nat) : Prop := 0 < n → ∀ b off l cap, v = .slice (some ⟨b, off, none⟩) l cap → S b
structure Tr.Hd.In (w : World) (S : Nat → Prop) (h : Tr.Hd) (v3 v4 v6 v7 v9 : Value) : Prop where
  ok : h.Ok
  i3 : Nt.In w v3 h.t1
  i4 : Nt.In w v4 h.b1
  i6 : Nt.In w v6 h.t2
  i7 : Nt.In w v7 h.b2
  i9 : By.In w v9 h.raw
  o3 : Tr.On S v3 h.t1.length
  o4 : Tr.On S v4 h.b1.length
  o6 : Tr.On S v6 h.t2.length
  o7 : Tr.On S v7 h.b2.length
  o9 : Tr.On S v9 h.raw.size
/-- Eleven cells of memory from an address on. -/
def Tr.Mem (w : World) (b off : Nat) (C : Array Value) : Prop := ∀ j, j < 11 → ∃ u, C[j]? = some u ∧ w.cell? ⟨b, off + j, none⟩ = some u
/-- What a list's slice is like: n elements of eleven cells. -/
def Tr.Sl (w : World) (S : Nat → Prop) (v : Value) (n : Nat) (P : Nat → Nat → Prop) : Prop :=
  (v = .slice none 0 0 ∧ n = 0) ∨ (∃ a cap, v = .slice (some a) 0 cap ∧ n = 0) ∨
  (0 < n ∧ ∃ b off cap, v = .slice (some ⟨b, off, none⟩) n cap ∧ n ≤ cap ∧ cap ≤ 9223372036854775807 ∧ b < w.heap.size ∧ S b ∧ P b off)
mutual
/-- The value reads as the datum; all that it lies in is of S. -/
def Tr.In (w : World) (S : Nat → Prop) : Tr → Value → Prop
  | .mk h l, v => ∃ v3 v4 v6 v7 v9 v10, v = .agg (Tr.cells h v3 v4 v6 v7 v9 v10) ∧ Tr.Hd.In w S h v3 v4 v6 v7 v9 ∧ Tr.Sl w S v10 l.length (fun b off => Tr.All w S l b off)
/-- Data, one behind the other in memory. -/
def Tr.All (w : World) (S : Nat → Prop) : List Tr → Nat → Nat → Prop
  | [], _, _ => True
  | t :: ts, b, off => (∃ C, Tr.In w S t (.agg C) ∧ Tr.Mem w b off C) ∧ Tr.All w S ts b (off + 11)
end
theorem Tr.In_mk {w : World} {S : Nat → Prop} {h : Tr.Hd} {l : List Tr} {v : Value} : Tr.In w S (.mk h l) v ↔ ∃ v3 v4 v6 v7 v9 v10, v = .agg (Tr.cells h v3 v4 v6 v7 v9 v10) ∧ Tr.Hd.In w S h v3 v4 v6 v7 v9 ∧ Tr.Sl w S v10 l.length (fun b off => Tr.All w S l b off) := by rw [Tr.In]
theorem Tr.All_nil {w : World} {S : Nat → Prop} {b off : Nat} : Tr.All w S [] b off := by rw [Tr.All]; trivial
theorem Tr.All_cons {w : World} {S : Nat → Prop} {t : Tr} {ts : List Tr} {b off : Nat} : Tr.All w S (t :: ts) b off ↔ (∃ C, Tr.In w S t (.agg C) ∧ Tr.Mem w b off C) ∧ Tr.All w S ts b (off + 11) := by rw [Tr.All]
/-- A list's slice reads as data. -/
def Tr.LIn (w : World) (S : Nat → Prop) (l : List Tr) (v : Value) : Prop := Tr.Sl w S v l.length (fun b off => Tr.All w S l b off)
/-- The blocks of S are as they were. -/
structure Tr.Kept (S : Nat → Prop) (w w' : World) : Prop where
  size : w.heap.size ≤ w'.heap.size
  block : ∀ q, S q → q < w.heap.size → w'.heap[q]? = w.heap[q]?
theorem Tr.Kept.below {S : Nat → Prop} {w w' : World} {B : Nat} (hb : Below B w w') (hB : ∀ q, S q → q < w.heap.size → q < B) : Tr.Kept S w w' := ⟨hb.size, fun q hq hl => hb.block q (hB q hq hl)⟩
theorem Tr.Kept.all {S : Nat → Prop} {w w' : World} {B : Nat} (hb : Below B w w') (hB : w.heap.size ≤ B) : Tr.Kept S w w' := Tr.Kept.below hb (fun q _ hl => Nat.lt_of_lt_of_le hl hB)
theorem Tr.Kept.cell {S : Nat → Prop} {w w' : World} (h : Tr.Kept S w w') {b off : Nat} (hS : S b) (hl : b < w.heap.size) : w'.cell? ⟨b, off, none⟩ = w.cell? ⟨b, off, none⟩ := World.cell?_of_block (w := w) (h.block b hS hl)
theorem Tr.Mem.kept {w w' : World} {S : Nat → Prop} {b off : Nat} {C : Array Value} (h : Tr.Mem w b off C) (hk : Tr.Kept S w w') (hS : S b) (hl : b < w.heap.size) : Tr.Mem w' b off C := fun j hj => by
  obtain ⟨u, h1, h2⟩ := h j hj
  exact ⟨u, h1, (hk.cell hS hl).trans h2⟩
theorem Nt.In.kept {w w' : World} {S : Nat → Prop} {v : Value} {ws : List Nat} (h : Nt.In w v ws) (ho : Tr.On S v ws.length) (hk : Tr.Kept S w w') : Nt.In w' v ws := by
  rcases h with h | h | ⟨h0, b, off, cap, hv, hc, hl, hcell⟩
  · exact .inl h
  · exact .inr (.inl h)
  · exact .inr (.inr ⟨h0, b, off, cap, hv, hc, Nat.lt_of_lt_of_le hl hk.size, fun j hj => (hk.cell (ho h0 _ _ _ _ hv) hl).trans (hcell j hj)⟩)
theorem By.In.kept {w w' : World} {S : Nat → Prop} {v : Value} {s : ByteArray} (h : By.In w v s) (ho : Tr.On S v s.size) (hk : Tr.Kept S w w') : By.In w' v s := by
  rcases h with h | h | ⟨h0, b, off, cap, hv, hc, hl, hcell⟩
  · exact .inl h
  · exact .inr (.inl h)
  · exact .inr (.inr ⟨h0, b, off, cap, hv, hc, Nat.lt_of_lt_of_le hl hk.size, fun j hj => (hk.cell (ho h0 _ _ _ _ hv) hl).trans (hcell j hj)⟩)
theorem Tr.Sl.slice {w : World} {S : Nat → Prop} {v : Value} {n : Nat} {P : Nat → Nat → Prop} (h : Tr.Sl w S v n P) : ∃ ad cap, v = .slice ad n cap ∧ n ≤ cap ∧ (n = 0 ∨ cap ≤ 9223372036854775807) := by
  rcases h with ⟨rfl, rfl⟩ | ⟨a, cap, rfl, rfl⟩ | ⟨h0, b, off, cap, rfl, h1, h2, _⟩
  · exact ⟨_, _, rfl, Nat.le_refl _, .inl rfl⟩
  · exact ⟨_, _, rfl, Nat.zero_le _, .inl rfl⟩
  · exact ⟨_, _, rfl, h1, .inr h2⟩
theorem Tr.Sl.at {w : World} {S : Nat → Prop} {ad : Option Addr} {n m cap : Nat} {P : Nat → Nat → Prop} (h : Tr.Sl w S (.slice ad n cap) m P) (h0 : 0 < m) : ∃ b off, ad = some ⟨b, off, none⟩ ∧ n = m ∧ m ≤ cap ∧ cap ≤ 9223372036854775807 ∧ b < w.heap.size ∧ S b ∧ P b off := by
  rcases h with ⟨_, rfl⟩ | ⟨_, _, _, rfl⟩ | ⟨_, b, off, c, hv, h1, h2, h3, h4, h5⟩
  · omega
  · omega
  · simp only [Value.slice.injEq] at hv
    obtain ⟨rfl, rfl, rfl⟩ := hv
    exact ⟨b, off, rfl, rfl, h1, h2, h3, h4, h5⟩
theorem Tr.Sl.imp {w w' : World} {S S' : Nat → Prop} {v : Value} {n : Nat} {P P' : Nat → Nat → Prop} (h : Tr.Sl w S v n P) (hz : w.heap.size ≤ w'.heap.size) (hS : ∀ q, S q → S' q) (hP : ∀ b off, b < w.heap.size → S b → P b off → P' b off) : Tr.Sl w' S' v n P' := by
  rcases h with h | h | ⟨h0, b, off, cap, hv, h1, h2, h3, h4, h5⟩
  · exact .inl h
  · exact .inr (.inl h)
  · exact .inr (.inr ⟨h0, b, off, cap, hv, h1, h2, by omega, hS b h4, hP b off h3 h4 h5⟩)
theorem Tr.Hd.In.kept {w w' : World} {S : Nat → Prop} {h : Tr.Hd} {v3 v4 v6 v7 v9 : Value} (i : Tr.Hd.In w S h v3 v4 v6 v7 v9) (hk : Tr.Kept S w w') : Tr.Hd.In w' S h v3 v4 v6 v7 v9 :=
  ⟨i.ok, i.i3.kept i.o3 hk, i.i4.kept i.o4 hk, i.i6.kept i.o6 hk, i.i7.kept i.o7 hk, i.i9.kept i.o9 hk, i.o3, i.o4, i.o6, i.o7, i.o9⟩
theorem Tr.On.mono {S S' : Nat → Prop} {v : Value} {n : Nat} (h : Tr.On S v n) (k : ∀ q, S q → S' q) : Tr.On S' v n := fun h0 b off l cap e => k _ (h h0 b off l cap e)
theorem Tr.Hd.In.mono {w : World} {S S' : Nat → Prop} {h : Tr.Hd} {v3 v4 v6 v7 v9 : Value} (i : Tr.Hd.In w S h v3 v4 v6 v7 v9) (k : ∀ q, S q → S' q) : Tr.Hd.In w S' h v3 v4 v6 v7 v9 :=
  ⟨i.ok, i.i3, i.i4, i.i6, i.i7, i.i9, i.o3.mono k, i.o4.mono k, i.o6.mono k, i.o7.mono k, i.o9.mono k⟩
mutual
theorem Tr.In.kept {w w' : World} {S : Nat → Prop} (hk : Tr.Kept S w w') : ∀ (t : Tr) (v : Value), Tr.In w S t v → Tr.In w' S t v
  | .mk h l, v, hi => by
    rw [Tr.In_mk] at hi ⊢
    obtain ⟨v3, v4, v6, v7, v9, v10, e, h1, h2⟩ := hi
    exact ⟨v3, v4, v6, v7, v9, v10, e, h1.kept hk, h2.imp hk.size (fun _ h => h) (fun b off h3 h4 h5 => Tr.All.kept hk l b off h4 h3 h5)⟩
theorem Tr.All.kept {w w' : World} {S : Nat → Prop} (hk : Tr.Kept S w w') : ∀ (l : List Tr) (b off : Nat), S b → b < w.heap.size → Tr.All w S l b off → Tr.All w' S l b off
  | [], b, off, _, _, _ => Tr.All_nil
  | t :: ts, b, off, hS, hlt, h => by
    rw [Tr.All_cons] at h ⊢
    obtain ⟨⟨C, h1, h2⟩, h3⟩ := h
    exact ⟨⟨C, Tr.In.kept hk t _ h1, h2.kept hk hS hlt⟩, Tr.All.kept hk ts b (off + 11) hS hlt h3⟩
end
mutual
theorem Tr.In.mono {w : World} {S S' : Nat → Prop} (hk : ∀ q, S q → S' q) : ∀ (t : Tr) (v : Value), Tr.In w S t v → Tr.In w S' t v
  | .mk h l, v, hi => by
    rw [Tr.In_mk] at hi ⊢
    obtain ⟨v3, v4, v6, v7, v9, v10, e, h1, h2⟩ := hi
    exact ⟨v3, v4, v6, v7, v9, v10, e, h1.mono hk, h2.imp (Nat.le_refl _) hk (fun b off h3 h4 h5 => Tr.All.mono hk l b off h5)⟩
theorem Tr.All.mono {w : World} {S S' : Nat → Prop} (hk : ∀ q, S q → S' q) : ∀ (l : List Tr) (b off : Nat), Tr.All w S l b off → Tr.All w S' l b off
  | [], b, off, _ => Tr.All_nil
  | t :: ts, b, off, h => by
    rw [Tr.All_cons] at h ⊢
    obtain ⟨⟨C, h1, h2⟩, h3⟩ := h
    exact ⟨⟨C, Tr.In.mono hk t _ h1, h2⟩, Tr.All.mono hk ts b (off + 11) h3⟩
end
theorem Tr.In.below {w w' : World} {S : Nat → Prop} {B : Nat} {t : Tr} {v : Value} (h : Tr.In w S t v) (hb : Below B w w') (hB : w.heap.size ≤ B) : Tr.In w' S t v := Tr.In.kept (Tr.Kept.all hb hB) t v h
theorem Tr.LIn.mono {w : World} {S S' : Nat → Prop} {l : List Tr} {v : Value} (h : Tr.LIn w S l v) (hk : ∀ q, S q → S' q) : Tr.LIn w S' l v :=
  h.imp (Nat.le_refl _) hk (fun b off h3 h4 h5 => Tr.All.mono hk l b off h5)
/-- The element at a place. -/
theorem Tr.All.at {w : World} {S : Nat → Prop} : ∀ (l : List Tr) (b off : Nat), Tr.All w S l b off → ∀ (k : Nat) (t : Tr), l[k]? = some t → ∃ C, Tr.In w S t (.agg C) ∧ Tr.Mem w b (off + 11 * k) C
  | [], b, off, _, k, t, hk => by simp at hk
  | x :: ts, b, off, h, 0, t, hk => by
    obtain rfl : x = t := by simpa using hk
    rw [Tr.All_cons] at h
    exact h.1
  | x :: ts, b, off, h, k + 1, t, hk => by
    rw [Tr.All_cons] at h
    have := Tr.All.at ts b (off + 11) h.2 k t (by simpa using hk)
    rwa [show off + 11 + 11 * k = off + 11 * (k + 1) by omega] at this
theorem Tr.All.of {w : World} {S : Nat → Prop} : ∀ (l : List Tr) (b off : Nat), (∀ (k : Nat) (t : Tr), l[k]? = some t → ∃ C, Tr.In w S t (.agg C) ∧ Tr.Mem w b (off + 11 * k) C) → Tr.All w S l b off
  | [], b, off, _ => Tr.All_nil
  | x :: ts, b, off, h => by
    rw [Tr.All_cons]
    refine ⟨by simpa using h 0 x rfl, Tr.All.of ts b (off + 11) (fun k t hk => ?_)⟩
    rw [show off + 11 + 11 * k = off + 11 * (k + 1) by omega]
    exact h (k + 1) t (by simpa using hk)
theorem Tr.In.form {w : World} {S : Nat → Prop} {t : Tr} {C : Array Value} (h : Tr.In w S t (.agg C)) : ∃ (hd : Tr.Hd) (l : List Tr) (v3 v4 v6 v7 v9 v10 : Value), C = Tr.cells hd v3 v4 v6 v7 v9 v10 := by
  obtain ⟨hd, l⟩ := t
  rw [Tr.In_mk] at h
  obtain ⟨v3, v4, v6, v7, v9, v10, e, _⟩ := h
  exact ⟨hd, l, v3, v4, v6, v7, v9, v10, by injection e⟩
/-- Eleven cells, opened. -/
theorem Tr.Mem.cells {w : World} {b off : Nat} {u0 u1 u2 u3 u4 u5 u6 u7 u8 u9 u10 : Value} (h : Tr.Mem w b off #[u0, u1, u2, u3, u4, u5, u6, u7, u8, u9, u10]) :
    w.cell? ⟨b, off, none⟩ = some u0 ∧ w.cell? ⟨b, off + 1, none⟩ = some u1 ∧ w.cell? ⟨b, off + 2, none⟩ = some u2 ∧ w.cell? ⟨b, off + 3, none⟩ = some u3 ∧ w.cell? ⟨b, off + 4, none⟩ = some u4 ∧ w.cell? ⟨b, off + 5, none⟩ = some u5 ∧ w.cell? ⟨b, off + 6, none⟩ = some u6 ∧ w.cell? ⟨b, off + 7, none⟩ = some u7 ∧ w.cell? ⟨b, off + 8, none⟩ = some u8 ∧ w.cell? ⟨b, off + 9, none⟩ = some u9 ∧ w.cell? ⟨b, off + 10, none⟩ = some u10 := by
  have g : ∀ j u, j < 11 → (#[u0, u1, u2, u3, u4, u5, u6, u7, u8, u9, u10] : Array Value)[j]? = some u → w.cell? ⟨b, off + j, none⟩ = some u := fun j u hj hu => by
    obtain ⟨x, h1, h2⟩ := h j hj
    rw [hu] at h1
    cases h1
    exact h2
  exact ⟨g 0 _ (by decide) rfl, g 1 _ (by decide) rfl, g 2 _ (by decide) rfl, g 3 _ (by decide) rfl, g 4 _ (by decide) rfl, g 5 _ (by decide) rfl, g 6 _ (by decide) rfl, g 7 _ (by decide) rfl, g 8 _ (by decide) rfl, g 9 _ (by decide) rfl, g 10 _ (by decide) rfl⟩

theorem Nt.infoWord : (Tryz.prog.info? 104).map (fun i => (i.zero, i.size, i.bytes)) = some (some (.int .u32 0), 1, 4) := by kernel_rfl
theorem Nt.In.of_own {w : World} {B : Nat} {t : TypeId} {v : Value} {ws : List Nat} (h : w.ownsRow B t 1 v ws.length (ws.map fun (x : Nat) => Value.int .u32 (x : Int))) : Nt.In w v ws := by
  rcases h.2 with ⟨hv, h0⟩ | ⟨g, cap, cur, rfl, hB, hg, hn, _⟩
  · have : ws = [] := List.eq_nil_of_length_eq_zero h0
    subst this
    exact .inl ⟨hv, rfl⟩
  · rcases Nat.eq_zero_or_pos ws.length with h0 | h0
    · have : ws = [] := List.eq_nil_of_length_eq_zero h0
      subst this
      exact .inr (.inl ⟨_, cap, rfl, rfl⟩)
    · refine .inr (.inr ⟨h0, g, 0, cap, rfl, hn, (Array.getElem?_eq_some_iff.1 hg).1, fun j hj => ?_⟩)
      have := h.cells (g := g) rfl j (.int .u32 (ws.getD j 0 : Nat)) (by rw [List.getD_eq_getElem?_getD, List.getElem?_map, List.getElem?_eq_getElem hj]; rfl)
      rwa [Sl.addr_add] at this

set_option maxHeartbeats 4000000 in
set_option maxRecDepth 1000000 in
theorem Nt.Trim_same (ws : List Nat) (v : Value) (w : World) (h : Nt.In w v ws) (hw : Nt.Wd ws) (hl : ws.length ≤ 4611686018427387904) : Calls Tryz.prog 128 #[v] w fun e w' => e = .returned (.int .i64 ((Nt.dig (Nt.val ws)).length : Nat)) ∧ w = w' := by
  obtain ⟨ad, cap, rfl⟩ := h.slice
  have H := Lib.hid h
  have HW := Lib.hid hw
  clear h hw
  go_enter Tryz.func128, Tryz.ntmps128
  go_wp2_with fail
  go_loopw [3] (fun i wr => wr = w ∧ ∃ n : Nat, i = .int .i64 n ∧ n ≤ ws.length ∧ ∀ j, n ≤ j → j < ws.length → ws.getD j 0 = 0) (fun i _ => (intOf i).toNat)
  case atStart => exact ⟨rfl, ws.length, rfl, Nat.le_refl _, fun j h1 h2 => by omega⟩
  case round =>
    obtain ⟨hwr, n, rfl, hn, hz⟩ := hrel
    subst hwr
    have HZ := Lib.hid hz
    clear hz
    have fin : (n = 0 ∨ ws.getD (n - 1) 0 ≠ 0) → (Nt.dig (Nt.val ws)).length = n := fun ht => by
      rw [← Nt.dig_of HW.out hn HZ.out ht, List.length_take]; omega
    have FIN := Lib.hid fin
    clear fin
    rcases n with _ | n
    · have hr := FIN.out (.inl rfl)
      go_wp2_with fail
      go_ret
      exact ⟨by first | rfl | (rw [hr]; rfl), rfl⟩
    · obtain ⟨b, off, rfl, _, hcap, hbl, hcell⟩ := H.out.at (by omega)
      have c0 := hcell n (by omega)
      clear hcell
      by_cases hx : ws.getD n 0 = 0
      · rw [hx] at c0
        have HX := Lib.hid hx
        clear hx
        go_wp2_with fail
        go_roundw
        case rel =>
          refine ⟨by first | rfl | trivial, n, by first | rfl | go_num | (simp; try omega), by omega, fun j h1 h2 => ?_⟩
          rcases Nat.lt_or_ge n j with h | h
          · exact HZ.out j (by omega) h2
          · obtain rfl : j = n := by omega
            exact HX.out
        case measure => simp [intOf]
      · have hr := FIN.out (.inr hx)
        have hx0 : ((ws.getD n 0 : Nat) == (0 : Int)) = false := by simp; exact hx
        generalize ws.getD n 0 = x at *
        clear hx
        go_wp2_with fail
        go_ret
        exact ⟨by first | rfl | (rw [hr]; rfl), rfl⟩
set_option maxHeartbeats 4000000 in
set_option maxRecDepth 1000000 in
theorem Nt.norm_same (ws : List Nat) (ad : Option Addr) (cap : Nat) (w : World) (h : Nt.In w (.slice ad ws.length cap) ws) (hw : Nt.Wd ws) (hl : ws.length ≤ 4611686018427387904) : Calls Tryz.prog 91 #[.slice ad ws.length cap] w fun e w' => e = .returned (.slice ad (Nt.dig (Nt.val ws)).length cap) ∧ w = w' := by
  have KT := fun w h => Nt.Trim_same ws (.slice ad ws.length cap) w h hw hl
  have H := Lib.hid h
  have hcap := h.cap.2
  obtain ⟨n, hn⟩ : ∃ n, (Nt.dig (Nt.val ws)).length = n := ⟨_, rfl⟩
  rw [hn] at KT
  have hnl : n ≤ ws.length := hn ▸ (Nt.take_dig hw).1
  have h1 : (0 : Int) ≤ (n : Int) := by omega
  have h2 : (n : Int) ≤ (cap : Int) := by omega
  have HN := Lib.hid hn
  clear h hn
  go_enter Tryz.func91, Tryz.ntmps91
  go_wp2_with fail
  refine (KT _ H.out).mono ?_
  rintro x w1 ⟨rfl, hw1⟩
  subst hw1
  go_wp2_with fail
  go_ret
  exact ⟨by rw [HN.out]; rfl, rfl⟩
theorem Nt.norm_eq (ws : List Nat) (ad : Option Addr) (cap : Nat) (w : World) (h : Nt.In w (.slice ad ws.length cap) ws) (hw : Nt.Wd ws) (hl : ws.length ≤ 4611686018427387904) : Calls Tryz.prog 91 #[.slice ad ws.length cap] w fun e w' => e = .returned (.slice ad (Nt.dig (Nt.val ws)).length cap) ∧ Below w.heap.size w w' :=
  (Nt.norm_same ws ad cap w h hw hl).mono fun _ _ ⟨he, hw⟩ => ⟨he, hw ▸ Below.refl _ _⟩
theorem Nt.norm_any (ws : List Nat) (v : Value) (w : World) (h : Nt.In w v ws) (hw : Nt.Wd ws) (hl : ws.length ≤ 4611686018427387904) : Calls Tryz.prog 91 #[v] w fun e w' => ∃ v', e = .returned v' ∧ Nt.N w' v' (Nt.val ws) ∧ Below w.heap.size w w' := by
  obtain ⟨ad, cap, rfl⟩ := h.slice
  refine (Nt.norm_eq ws ad cap w h hw hl).mono fun e w' ⟨he, hb⟩ => ⟨_, he, ?_, hb⟩
  unfold Nt.N
  have := (h.below hb (Nat.le_refl _)).takeN _ (Nt.take_dig hw).1
  rwa [(Nt.take_dig hw).2] at this
/-- The cells of words. -/
def Nt.vs (ws : List Nat) : List Value := ws.map fun (x : Nat) => Value.int .u32 (x : Int)
theorem Nt.norm_own (ws : List Nat) (v : Value) (w : World) {B : Nat} {t : TypeId} (h : w.ownsRow B t 1 v ws.length (Nt.vs ws)) (hw : Nt.Wd ws) (hl : ws.length ≤ 4611686018427387904) : Calls Tryz.prog 91 #[v] w fun e w' => ∃ v', e = .returned v' ∧ w'.ownsRow B t 1 v' (Nt.dig (Nt.val ws)).length (Nt.vs (Nt.dig (Nt.val ws))) ∧ Below w.heap.size w w' := by
  have hin := Nt.In.of_own h
  obtain ⟨ad, cap, rfl⟩ := hin.slice
  refine (Nt.norm_eq ws ad cap w hin hw hl).mono fun e w' ⟨he, hb⟩ => ⟨_, he, ?_, hb⟩
  have h' := Sl.own_below h hb (Nat.le_refl _)
  obtain ⟨h1, h2⟩ := Nt.take_dig hw
  generalize Nt.dig (Nt.val ws) = ds at *
  refine ⟨by simp [Nt.vs], ?_⟩
  rcases h'.2 with ⟨hv, h0⟩ | ⟨g, c, cur, hv, hB, hg, hn, hm, hs, ht⟩
  · have : ds.length = 0 := by omega
    simp only [Value.slice.injEq] at hv
    exact .inl ⟨by rw [hv.1, hv.2.2, this], this⟩
  · simp only [Value.slice.injEq] at hv
    obtain ⟨rfl, _, rfl⟩ := hv
    refine .inr ⟨g, cap, cur, rfl, hB, hg, by omega, hm, hs, ?_⟩
    have e : cur.toList.take (ds.length * 1) = (cur.toList.take (ws.length * 1)).take ds.length := by
      rw [List.take_take, Nat.min_eq_left (by omega), Nat.mul_one]
    rw [e, ht, ← h2]
    simp [Nt.vs, List.map_take]

def Nt.sound (ws : List Nat) : Bool := decide (ws.length ≤ 512) && decide ((Nt.dig (Nt.val ws)).length = ws.length)
theorem Nt.sound_dig (n : Nat) : Nt.sound (Nt.dig n) = decide ((Nt.dig n).length ≤ 512) := by
  unfold Nt.sound
  rw [Nt.val_dig]
  simp
theorem Nt.sound_eq {ws : List Nat} (hw : Nt.Wd ws) (h : Nt.sound ws = true) : ws = Nt.dig (Nt.val ws) ∧ ws.length ≤ 512 := by
  unfold Nt.sound at h
  simp only [Bool.and_eq_true, decide_eq_true_eq] at h
  have := (Nt.take_dig hw).2
  rw [h.2, List.take_length] at this
  exact ⟨this, h.1⟩
set_option maxHeartbeats 4000000 in
set_option maxRecDepth 1000000 in
theorem Nt.Of_any (u : Nat) (w : World) (hu : u < 18446744073709551616) : Calls Tryz.prog 57 #[.int .u64 (u : Nat)] w fun e w' => ∃ v', e = .returned v' ∧ Nt.N w' v' u ∧ Below w.heap.size w w' := by
  have hin : Nt.In (w.alloc (.cells #[.int .u32 ((u : Int) % 4294967296), .int .u32 ((u : Int) / 4294967296)] 104)) (.slice (some ⟨w.heap.size, 0, none⟩) 2 2) [u % 4294967296, u / 4294967296] := by
    have e : (#[.int .u32 ((u : Int) % 4294967296), .int .u32 ((u : Int) / 4294967296)] : Array Value) = Nt.row [u % 4294967296, u / 4294967296] := by
      simp [Nt.row]
    rw [e]
    exact Nt.In.of_row (heap_alloc_new w _)
  have hwd : Nt.Wd [u % 4294967296, u / 4294967296] := by
    intro x hx
    simp only [List.mem_cons, List.not_mem_nil, or_false] at hx
    omega
  have hval : Nt.val [u % 4294967296, u / 4294967296] = u := by simp [Nt.val]; omega
  have hb0 : Below w.heap.size w (w.alloc (.cells #[.int .u32 ((u : Int) % 4294967296), .int .u32 ((u : Int) / 4294967296)] 104)) := (Below.refl _ _).alloc (Nat.le_refl _) _
  have KN := fun w v h => Nt.norm_any [u % 4294967296, u / 4294967296] v w h hwd (by simp)
  rw [hval] at KN
  have HIN := Lib.hid hin
  have HB0 := Lib.hid hb0
  clear hin hwd hval hb0
  go_enter Tryz.func57, Tryz.ntmps57
  go_wp2_with fail
  refine (KN _ _ HIN.out).mono ?_
  rintro x w1 ⟨v1, rfl, hn1, hb1⟩
  have HN1 := Lib.hid hn1
  have HB1 := Lib.hid (HB0.out.trans (hb1.mono HB0.out.size))
  clear hn1 hb1
  go_wp2_with fail
  go_ret
  exact ⟨_, rfl, HN1.out, HB1.out⟩
set_option maxHeartbeats 4000000 in
set_option maxRecDepth 1000000 in
theorem Nt.Clone_own (ws : List Nat) (v : Value) (w : World) (h : Nt.In w v ws) (hl : ws.length ≤ 1000000) : Calls Tryz.prog 120 #[v] w fun e w' => ∃ v', e = .returned v' ∧ w'.ownsRow w.heap.size 104 1 v' ws.length (ws.map fun (x : Nat) => Value.int .u32 (x : Int)) ∧ Below w.heap.size w w' := by
  obtain ⟨i0, hi0, hz0, hz1, hz2⟩ := info_parts Nt.infoWord
  have q22 : ∀ (w : World) (a : Option Addr) (n c n' c' : Nat), (binOp .eql 30 (.slice a n c) (.slice none n' c')).run Tryz.prog w = .ok (.bool a.isNone) w := fun w a n c n' c' => Lib.run_eql_slice_nil w _ _ a n c n' c' Tryz.underlying30
  rcases id h with ⟨rfl, rfl⟩ | ⟨a, cap, rfl, rfl⟩ | ⟨h0, b, off, cap, rfl, hc, hbl, hcell⟩
  · clear h
    go_enter Tryz.func120, Tryz.ntmps120
    go_wp2_with fail
    go_ret
    exact ⟨_, rfl, ⟨by simp, .inl ⟨rfl, rfl⟩⟩, Below.refl _ _⟩
  · clear h
    have hb1 : Below w.heap.size w (w.alloc (.cells #[] 104)) := (Below.refl _ _).alloc (Nat.le_refl _) _
    have hown := Sl.own_empty w 104
    have HB1 := Lib.hid hb1
    go_enter Tryz.func120, Tryz.ntmps120
    go_wp2_with (at_builtin; refine wpList_append_own _ rfl _ _ 30 rfl w.heap.size 104 i0 (.int .u32 0) 1 4 Tryz.underlying30 hi0 hz0 hz1 hz2 rfl (by decide) _ 0 _ rfl hown a 0 cap [] rfl rfl (fun j u hj => by simp at hj) (fun u hu => by cases hu) (by decide) (by decide) ?c4 ?_)
    case c4 => exact HB1.out.size
    intro v9 w9 hown9 hgr9 _
    have HB9 := Lib.hid (HB1.out.grown hgr9 HB1.out.size (fun k hk => (hown.lt k hk).1))
    have HO9 := Lib.hid hown9
    clear hown9 hgr9 hown hb1
    go_wp2_with fail
    go_ret
    exact ⟨_, rfl, HO9.out, HB9.out⟩
  · clear h
    have hb1 : Below w.heap.size w (w.alloc (.cells #[] 104)) := (Below.refl _ _).alloc (Nat.le_refl _) _
    have hown := Sl.own_empty w 104
    have HB1 := Lib.hid hb1
    have hnews : ∀ j u, (ws.map fun (x : Nat) => Value.int .u32 (x : Int))[j]? = some u → (w.alloc (.cells #[] 104)).cell? ((⟨b, off, none⟩ : Addr).add j) = some u := by
      intro j u hj
      have hjl : j < ws.length := by simpa using (List.getElem?_eq_some_iff.1 hj).1
      rw [Sl.addr_add]
      refine (hb1.cell (p := ⟨b, off + j, none⟩) hbl).trans ((hcell j hjl).trans ?_)
      rw [← hj, List.getD_eq_getElem?_getD, List.getElem?_map, List.getElem?_eq_getElem hjl]
      rfl
    have hl2 : (ws.map fun (x : Nat) => Value.int .u32 (x : Int)).length = ws.length * 1 := by simp
    have h1c : ∀ u ∈ (ws.map fun (x : Nat) => Value.int .u32 (x : Int)), u.oneCell' = true := by
      intro u hu
      obtain ⟨x, _, rfl⟩ := List.mem_map.1 hu
      rfl
    have HNE := Lib.hid hnews
    have HL2 := Lib.hid hl2
    have H1C := Lib.hid h1c
    have hne : ws ≠ [] := by intro e; subst e; simp at h0
    clear hnews hl2 h1c hcell
    go_enter Tryz.func120, Tryz.ntmps120
    go_wp2_with (at_builtin; refine wpList_append_own _ rfl _ _ 30 rfl w.heap.size 104 i0 (.int .u32 0) 1 4 Tryz.underlying30 hi0 hz0 hz1 hz2 rfl (by decide) _ 0 _ rfl hown ⟨b, off, none⟩ ws.length cap (ws.map fun (x : Nat) => Value.int .u32 (x : Int)) rfl HL2.out HNE.out H1C.out ?c2 ?c3 ?c4 ?_)
    case c2 => unfold maxLen; omega
    case c3 => omega
    case c4 => exact HB1.out.size
    intro v9 w9 hown9 hgr9 _
    have HB9 := Lib.hid (HB1.out.grown hgr9 HB1.out.size (fun k hk => (hown.lt k hk).1))
    try rw [Nat.zero_add, List.nil_append] at hown9
    have HO9 := Lib.hid hown9
    clear hown9 hgr9 hown hb1
    go_wp2_with fail
    go_ret
    exact ⟨_, rfl, HO9.out, HB9.out⟩
theorem Nt.Clone_any (ws : List Nat) (v : Value) (w : World) (h : Nt.In w v ws) (hl : ws.length ≤ 1000000) : Calls Tryz.prog 120 #[v] w fun e w' => ∃ v', e = .returned v' ∧ Nt.In w' v' ws ∧ Below w.heap.size w w' :=
  (Nt.Clone_own ws v w h hl).mono fun _ _ ⟨v', he, ho, hb⟩ => ⟨v', he, Nt.In.of_own ho, hb⟩
end Go.Proofs.YtdjllmogejkimaaGreatDoor
namespace Go.Proofs.YtdjllmogejkimaaGreatDoor

/-- Is it a fraction? -/
def Rt.sound (s : Bool) (t b : List Nat) : Bool := Nt.sound t && Nt.sound b && decide (b.length ≠ 0) && !(decide (t.length = 0) && s) && decide (Nat.gcd (Nt.val t) (Nt.val b) = 1)
/-- Is it a fraction without words? -/
def Rt.noRat (s : Bool) (t b : List Nat) : Bool := !s && decide (t.length = 0) && decide (b.length = 0)
/-- The number of a node. -/
def Tr.Hd.num (h : Tr.Hd) : Bool := if h.k = 3 then Rt.sound h.s1 h.t1 h.b1 && Rt.sound h.s2 h.t2 h.b2 else Rt.noRat h.s1 h.t1 h.b1 && Rt.noRat h.s2 h.t2 h.b2
def Tr.isText (k : Int) : Bool := decide (k = 5) || decide (k = 6) || decide (k = 11)
def Tr.isChar (n : Int) : Bool := decide (0 ≤ n) && decide (n ≤ 55295) || decide (57344 ≤ n) && decide (n ≤ 1114111)
/-- What the kind asks of the number and of the list's length. -/
def Tr.own (k n : Int) (l : Nat) : Bool :=
  if k = 8 then decide (n = 0) && decide (l = 2) else if k = 9 then decide (n = 0) else if k = 2 then (decide (n = 0) || decide (n = 1)) && decide (l = 0)
  else if k = 4 then Tr.isChar n && decide (l = 0) else decide (1 ≤ k) && decide (k ≤ 11) && decide (n = 0) && decide (l = 0)
/-- Is a node sound by its kind, but for its list's data? -/
def Tr.Hd.shape (h : Tr.Hd) (l : Nat) : Bool :=
  h.num && (Tr.isText h.k || decide (h.x.size = 0)) && Lib.validD h.x.data.toList && (decide (h.k = 7) || decide (h.raw.size = 0)) && Tr.own h.k h.n l
theorem Tr.own_pair {n : Int} {l : Nat} (h : Tr.own 8 n l = true) : l = 2 := by
  simp [Tr.own] at h; exact h.2
theorem Tr.Hd.shape_pair {h : Tr.Hd} {l : Nat} (hs : h.shape l = true) (hk : h.k = 8) : l = 2 := by
  unfold Tr.Hd.shape at hs
  simp only [Bool.and_eq_true] at hs
  have := hs.2
  rw [hk] at this
  exact Tr.own_pair this
mutual
/-- How many nodes a datum has. -/
def Tr.size : Tr → Nat
  | .mk _ l => 1 + Tr.sizeL l
def Tr.sizeL : List Tr → Nat
  | [] => 0
  | t :: ts => Tr.size t + Tr.sizeL ts
end
theorem Tr.size_mk (h : Tr.Hd) (l : List Tr) : Tr.size (.mk h l) = 1 + Tr.sizeL l := by rw [Tr.size]
theorem Tr.sizeL_nil : Tr.sizeL [] = 0 := by rw [Tr.sizeL]
theorem Tr.sizeL_cons (t : Tr) (ts : List Tr) : Tr.sizeL (t :: ts) = Tr.size t + Tr.sizeL ts := by rw [Tr.sizeL]
theorem Tr.size_pos (t : Tr) : 0 < Tr.size t := by cases t; rw [Tr.size_mk]; omega
theorem Tr.size_at : ∀ (l : List Tr) (k : Nat) (t : Tr), l[k]? = some t → Tr.size t ≤ Tr.sizeL l
  | [], k, t, h => by simp at h
  | x :: ts, 0, t, h => by
    obtain rfl : x = t := by simpa using h
    rw [Tr.sizeL_cons]; omega
  | x :: ts, k + 1, t, h => by
    have := Tr.size_at ts k t (by simpa using h)
    rw [Tr.sizeL_cons]; omega
theorem Tr.size_lt {t u : Tr} {k : Nat} (h : t.li[k]? = some u) : Tr.size u < Tr.size t := by
  have := Tr.size_at t.li k u h
  cases t with
  | mk hd l => rw [Tr.size_mk]; simp only [Tr.li] at this; omega
mutual
/-- sound: d deep, so many nodes are left: is it, and how many are left then. -/
def Tr.snd : Tr → Nat → Int → Bool × Int
  | .mk h l, d, left =>
    if left - 1 < 0 ∨ 200 < d ∨ h.shape l.length = false then (false, left - 1)
    else if h.k = 8 then
      match l with
      | [a, b] => if (Tr.snd a (d + 1) (left - 1)).1 = true then Tr.snd b d (Tr.snd a (d + 1) (left - 1)).2 else (false, (Tr.snd a (d + 1) (left - 1)).2)
      | _ => (true, left - 1)
    else Tr.sndL l (d + 1) (left - 1)
/-- Data one behind the other. -/
def Tr.sndL : List Tr → Nat → Int → Bool × Int
  | [], _, left => (true, left)
  | t :: ts, d, left => if (Tr.snd t d left).1 = true then Tr.sndL ts d (Tr.snd t d left).2 else (false, (Tr.snd t d left).2)
end
theorem Tr.snd_bad {h : Tr.Hd} {l : List Tr} {d : Nat} {left : Int} (hb : left - 1 < 0 ∨ 200 < d ∨ h.shape l.length = false) : Tr.snd (.mk h l) d left = (false, left - 1) := by
  rw [Tr.snd.eq_def]; simp only; rw [if_pos hb]
theorem Tr.snd_pair {h : Tr.Hd} {a b : Tr} {d : Nat} {left : Int} (hb : ¬ (left - 1 < 0 ∨ 200 < d ∨ h.shape 2 = false)) (hk : h.k = 8) : Tr.snd (.mk h [a, b]) d left = if (Tr.snd a (d + 1) (left - 1)).1 = true then Tr.snd b d (Tr.snd a (d + 1) (left - 1)).2 else (false, (Tr.snd a (d + 1) (left - 1)).2) := by
  rw [Tr.snd.eq_def]; simp only [List.length_cons, List.length_nil]; rw [if_neg hb, if_pos hk]
theorem Tr.snd_list {h : Tr.Hd} {l : List Tr} {d : Nat} {left : Int} (hb : ¬ (left - 1 < 0 ∨ 200 < d ∨ h.shape l.length = false)) (hk : h.k ≠ 8) : Tr.snd (.mk h l) d left = Tr.sndL l (d + 1) (left - 1) := by
  rw [Tr.snd.eq_def]; simp only; rw [if_neg hb, if_neg hk]
theorem Tr.sndL_nil {d : Nat} {left : Int} : Tr.sndL [] d left = (true, left) := by rw [Tr.sndL]
theorem Tr.sndL_cons {t : Tr} {ts : List Tr} {d : Nat} {left : Int} : Tr.sndL (t :: ts) d left = if (Tr.snd t d left).1 = true then Tr.sndL ts d (Tr.snd t d left).2 else (false, (Tr.snd t d left).2) := by rw [Tr.sndL]
mutual
/-- The nodes that are left only become fewer. -/
theorem Tr.snd_le : ∀ (t : Tr) (d : Nat) (left : Int), -1 ≤ left → (Tr.snd t d left).2 ≤ left ∧ ((Tr.snd t d left).1 = true → 0 ≤ (Tr.snd t d left).2)
  | .mk h l, d, left, h0 => by
    by_cases hb : left - 1 < 0 ∨ 200 < d ∨ h.shape l.length = false
    · rw [Tr.snd_bad hb]; exact ⟨by show left - 1 ≤ left; omega, fun h => by cases h⟩
    · have hb2 : 0 ≤ left - 1 := by
        rcases Int.lt_or_le (left - 1) 0 with h | h
        · exact absurd (Or.inl h) hb
        · exact h
      by_cases hk : h.k = 8
      · have hs : h.shape l.length = true := by
          cases e : h.shape l.length with
          | true => rfl
          | false => exact absurd (Or.inr (Or.inr e)) hb
        have hl := Tr.Hd.shape_pair hs hk
        match l, hl with
        | [a, b], _ =>
          rw [Tr.snd_pair hb hk]
          have ha := Tr.snd_le a (d + 1) (left - 1) (by omega)
          split
          · rename_i h1
            have h2 := ha.2 h1
            have hb' := Tr.snd_le b d _ (by omega : -1 ≤ (Tr.snd a (d + 1) (left - 1)).2)
            exact ⟨by omega, hb'.2⟩
          · exact ⟨by show (Tr.snd a (d + 1) (left - 1)).2 ≤ left; omega, fun h => by cases h⟩
      · rw [Tr.snd_list hb hk]
        have := Tr.sndL_le l (d + 1) (left - 1) hb2
        exact ⟨by omega, this.2⟩
theorem Tr.sndL_le : ∀ (l : List Tr) (d : Nat) (left : Int), 0 ≤ left → (Tr.sndL l d left).2 ≤ left ∧ ((Tr.sndL l d left).1 = true → 0 ≤ (Tr.sndL l d left).2)
  | [], d, left, h0 => by rw [Tr.sndL_nil]; exact ⟨Int.le_refl _, fun _ => h0⟩
  | t :: ts, d, left, h0 => by
    rw [Tr.sndL_cons]
    have ht := Tr.snd_le t d left (by omega)
    split
    · rename_i h1
      have h2 := ht.2 h1
      have hs := Tr.sndL_le ts d _ h2
      exact ⟨by omega, hs.2⟩
    · exact ⟨ht.1, fun h => by cases h⟩
end
/-- Is it a datum? -/
def Tr.sound (t : Tr) : Bool := (Tr.snd t 1 20000).1
end Go.Proofs.YtdjllmogejkimaaGreatDoor
namespace Go.Proofs.YtdjllmogejkimaaGreatDoor
open Go.RowKit

set_option maxHeartbeats 4000000 in
set_option maxRecDepth 1000000 in
theorem Tr.IsChar_any (n : Int) (w : World) : Calls Tryz.prog 115 #[.int .i64 n] w fun e w' => e = .returned (.bool (Tr.isChar n)) ∧ w = w' := by
  by_cases h1 : (0 ≤ n ∧ n ≤ 55295)
  · have h2 : Tr.isChar n = true := by simp [Tr.isChar, h1.1, h1.2]
    rw [h2]
    obtain ⟨h3, h4⟩ := h1
    clear h2
    go_enter Tryz.func115, Tryz.ntmps115
    go_wp2_with fail
    go_ret
    exact ⟨rfl, rfl⟩
  · by_cases h5 : (57344 ≤ n ∧ n ≤ 1114111)
    · have h2 : Tr.isChar n = true := by simp [Tr.isChar, h5.1, h5.2]
      rw [h2]
      obtain ⟨h3, h4⟩ := h5
      have h6 : ¬ n ≤ 55295 := by omega
      have h7 : (0 : Int) ≤ n := by omega
      clear h2 h1
      go_enter Tryz.func115, Tryz.ntmps115
      go_wp2_with fail
      go_ret
      exact ⟨rfl, rfl⟩
    · have h2 : Tr.isChar n = false := by simp [Tr.isChar]; omega
      rw [h2]
      clear h2
      by_cases h0 : 0 ≤ n
      · have h3 : ¬ n ≤ 55295 := by omega
        by_cases h4 : 57344 ≤ n
        · have h6 : ¬ n ≤ 1114111 := by omega
          clear h1 h5
          go_enter Tryz.func115, Tryz.ntmps115
          go_wp2_with fail
          go_ret
          exact ⟨rfl, rfl⟩
        · clear h1 h5
          go_enter Tryz.func115, Tryz.ntmps115
          go_wp2_with fail
          go_ret
          exact ⟨rfl, rfl⟩
      · have h4 : ¬ 57344 ≤ n := by omega
        clear h1 h5
        go_enter Tryz.func115, Tryz.ntmps115
        go_wp2_with fail
        go_ret
        exact ⟨rfl, rfl⟩

theorem Nt.bits_u32 (a b : Nat) (ha : a < 4294967296) (hb : b < 4294967296) : bits .and .u32 (a : Int) (b : Int) = ((a &&& b : Nat) : Int) ∧ bits .or .u32 (a : Int) (b : Int) = ((a ||| b : Nat) : Int) ∧ bits .xor .u32 (a : Int) (b : Int) = ((a ^^^ b : Nat) : Int) := by
  have hk : ∀ n : Int, 0 ≤ n → n < 2 ^ 32 → IntKind.u32.wrap n = n := fun n h0 h1 => by rw [IntKind.wrap_u32]; omega
  obtain ⟨h1, h2⟩ := bits_nat .u32 32 (by decide) hk a b ha hb
  refine ⟨h1, h2, ?_⟩
  have ha' : a % 2 ^ IntKind.u32.bits = a := Nat.mod_eq_of_lt ha
  have hb' : b % 2 ^ IntKind.u32.bits = b := Nat.mod_eq_of_lt hb
  simp only [bits, BitVec.ofInt_natCast, BitVec.toNat_xor, BitVec.toNat_ofNat, ha', hb']
  have : a ^^^ b < 2 ^ 32 := Nat.xor_lt_two_pow ha hb
  exact hk _ (by omega) (by omega)
theorem Nt.top_bit {n : Nat} (h : n < 4294967296) : n / 2147483648 = (n.testBit 31).toNat := by
  rw [Nat.testBit_eq_decide_div_mod_eq]
  have e : (2 : Nat) ^ 31 = 2147483648 := by decide
  rw [e]
  have : n / 2147483648 < 2 := by omega
  rcases Nat.lt_or_ge (n / 2147483648) 1 with h | h
  · have : n / 2147483648 = 0 := by omega
    simp [this]
  · have : n / 2147483648 = 1 := by omega
    simp [this]
theorem Nt.not_lt {n : Nat} (h : n < 4294967296) : 4294967295 ^^^ n < 4294967296 := Nat.xor_lt_two_pow (n := 32) (by decide) h
/-- The borrow, as its bits are reckoned. -/
theorem Nt.borrow {x y c d : Nat} (hx : x < 4294967296) (hy : y < 4294967296) (hc : c ≤ 1) (hd : (d : Int) = ((x : Int) - (y : Int) - (c : Int)) % 4294967296) :
    d < 4294967296 ∧ ((4294967295 ^^^ x) &&& y ||| (4294967295 ^^^ (x ^^^ y)) &&& d) / 2147483648 ≤ 1 ∧ d + y + c = x + 4294967296 * (((4294967295 ^^^ x) &&& y ||| (4294967295 ^^^ (x ^^^ y)) &&& d) / 2147483648) := by
  have hdl : d < 4294967296 := by omega
  have hE : (4294967295 ^^^ x) &&& y ||| (4294967295 ^^^ (x ^^^ y)) &&& d < 4294967296 := Nat.or_lt_two_pow (n := 32) (Nat.and_lt_two_pow _ hy) (Nat.and_lt_two_pow _ hdl)
  rw [Nt.top_bit hE]
  have hmax : Nat.testBit 4294967295 31 = true := by decide
  rw [Nat.testBit_or, Nat.testBit_and, Nat.testBit_and, Nat.testBit_xor, Nat.testBit_xor, Nat.testBit_xor, hmax]
  have e : ∀ n : Nat, n.testBit 31 = decide (n / 2147483648 % 2 = 1) := fun n => by
    rw [Nat.testBit_eq_decide_div_mod_eq]
  rw [e x, e y, e d]
  refine ⟨hdl, ?_, ?_⟩
  · cases decide (x / 2147483648 % 2 = 1) <;> cases decide (y / 2147483648 % 2 = 1) <;> cases decide (d / 2147483648 % 2 = 1) <;> decide
  · by_cases h1 : x / 2147483648 % 2 = 1 <;> by_cases h2 : y / 2147483648 % 2 = 1 <;> by_cases h3 : d / 2147483648 % 2 = 1 <;> simp only [h1, h2, h3, decide_true, decide_false] <;> simp <;> omega
set_option maxHeartbeats 4000000 in
set_option maxRecDepth 1000000 in
theorem Nt.Add32_any (x y c : Nat) (w : World) (hx : x < 4294967296) (hy : y < 4294967296) (hc : c ≤ 1) : Calls Tryz.prog 124 #[.int .u32 x, .int .u32 y, .int .u32 c] w fun e w' => e = .returned (.tuple #[.int .u32 ((x + y + c) % 4294967296 : Nat), .int .u32 ((x + y + c) / 4294967296 : Nat)]) ∧ w' = w := by
  have h1 : ((x : Int) + (y : Int)) % 18446744073709551616 = (x : Int) + (y : Int) := by omega
  have h2 : ((x : Int) + (y : Int) + (c : Int)) % 18446744073709551616 = (x : Int) + (y : Int) + (c : Int) := by omega
  go_enter Tryz.func124, Tryz.ntmps124
  go_wp2_with fail
  go_ret2
  refine ⟨?_, rfl⟩
  rw [show (((x + y + c) % 4294967296 : Nat) : Int) = ((x : Int) + (y : Int) + (c : Int)) % 4294967296 by omega, show (((x + y + c) / 4294967296 : Nat) : Int) = ((x : Int) + (y : Int) + (c : Int)) / 4294967296 by omega]
  rfl
set_option maxHeartbeats 4000000 in
set_option maxRecDepth 1000000 in
theorem Nt.Sub32_any (x y c : Nat) (w : World) (hx : x < 4294967296) (hy : y < 4294967296) (hc : c ≤ 1) : Calls Tryz.prog 126 #[.int .u32 x, .int .u32 y, .int .u32 c] w fun e w' => ∃ d c' : Nat, e = .returned (.tuple #[.int .u32 d, .int .u32 c']) ∧ d < 4294967296 ∧ c' ≤ 1 ∧ d + y + c = x + 4294967296 * c' ∧ w' = w := by
  obtain ⟨d, hd⟩ : ∃ d : Nat, (d : Int) = ((x : Int) - (y : Int) - (c : Int)) % 4294967296 := ⟨(((x : Int) - (y : Int) - (c : Int)) % 4294967296).toNat, by omega⟩
  obtain ⟨hdl, hb1, hb2⟩ := Nt.borrow hx hy hc hd
  have hd' := hd.symm
  have b1 := (Nt.bits_u32 4294967295 x (by decide) hx).2.2
  have b2 := (Nt.bits_u32 (4294967295 ^^^ x) y (Nt.not_lt hx) hy).1
  have hxy : x ^^^ y < 4294967296 := Nat.xor_lt_two_pow (n := 32) hx hy
  have b3 := (Nt.bits_u32 x y hx hy).2.2
  have b4 := (Nt.bits_u32 4294967295 (x ^^^ y) (by decide) hxy).2.2
  have b5 := (Nt.bits_u32 (4294967295 ^^^ (x ^^^ y)) d (Nt.not_lt hxy) hdl).1
  have b6 := (Nt.bits_u32 ((4294967295 ^^^ x) &&& y) ((4294967295 ^^^ (x ^^^ y)) &&& d) (Nat.and_lt_two_pow (n := 32) _ hy) (Nat.and_lt_two_pow (n := 32) _ hdl)).2.1
  have hm : IntKind.u32.max = ((4294967295 : Nat) : Int) := by decide
  have HB := Lib.hid (And.intro hb1 hb2)
  clear hb1 hb2 hd
  rw [← hm] at b1 b4
  clear hm
  go_enter Tryz.func126, Tryz.ntmps126
  go_wp2_with fail
  go_ret2
  exact ⟨d, _, rfl, hdl, HB.out.1, HB.out.2, rfl⟩

/-- A row of n noughts is made. -/
theorem Nt.make (n : Nat) (w : World) (hn : n ≤ 1000000) : (Instr.makeSlice 30 (.int .i64 (n : Int)) (.int .i64 (n : Int))).run Tryz.prog w = .ok (.slice (some ⟨w.heap.size, 0, none⟩) n n) (w.alloc (.cells (Nt.row (List.replicate n 0)) 104)) := by
  obtain ⟨i0, hi, hz0, hz1, hz2⟩ := info_parts Nt.infoWord
  have := run_makeSlice (P := Tryz.prog) w 30 104 i0 (.int .u32 0) Tryz.underlying30 hi hz0 .i64 .i64 n n (by omega) (by omega) (by rw [hz1]; omega) (by rw [hz2]; omega) (by omega)
  rw [this, hz1, show ((n : Int).toNat * 1) = n by omega, Nt.made_zeros]
  rfl
/-- A store into a row that the call has made. -/
theorem Nt.store {w : World} {T B : Nat} {w0 : World} {t : TypeId} {ws : List Nat} (h : w.heap[T]? = some (.cells (Nt.row ws) t (0, 0))) (k x : Nat) (hk : k < ws.length) (hb : Below B w0 w) (hB : B ≤ T) :
    ∃ W, w.setCell ⟨T, k, none⟩ (.int .u32 (x : Int)) = W ∧ w.cell? ⟨T, k, none⟩ = some (.int .u32 (ws.getD k 0 : Nat)) ∧ w.frozen? ⟨T, k, none⟩ = false ∧ W.heap[T]? = some (.cells (Nt.row (ws.set k x)) t (0, 0)) ∧ Below B w0 W ∧ W.heap.size = w.heap.size :=
  ⟨_, rfl, Nt.cell_row h k hk, Nt.frozen_row h k, Nt.set_row h k x, hb.setCell (p := ⟨T, k, none⟩) hB _, by simp⟩

set_option maxHeartbeats 4000000 in
set_option maxRecDepth 1000000 in
theorem Nt.plus_ws (a0 b0 : List Nat) (v v2 : Value) (w : World) (h : Nt.In w v a0) (h2 : Nt.In w v2 b0) (ha : Nt.Wd a0) (hb : Nt.Wd b0) (hl : a0.length ≤ 500000) (hll : b0.length ≤ 500000) : Calls Tryz.prog 87 #[v, v2] w fun e w' => ∃ v', e = .returned v' ∧ Nt.N w' v' (Nt.val a0 + Nt.val b0) ∧ Below w.heap.size w w' := by
  obtain ⟨ad, cap, rfl⟩ := h.slice
  obtain ⟨ad2, cap2, rfl⟩ := h2.slice
  have H0 := Lib.hid h
  have H02 := Lib.hid h2
  have HA0 := Lib.hid ha
  have HB0 := Lib.hid hb
  clear h h2 ha hb
  go_enter Tryz.func87, Tryz.ntmps87
  go_upto_if 13 with (fail)
  go_cut [0, 1] (fun s t wx => wx = w ∧ ∃ (a b : List Nat) (ad ad2 : Option Addr) (cap cap2 : Nat), s = .slice ad a.length cap ∧ t = .slice ad2 b.length cap2 ∧ Nt.In w s a ∧ Nt.In w t b ∧ Nt.Wd a ∧ Nt.Wd b ∧ a.length ≤ 500000 ∧ b.length ≤ a.length ∧ Nt.val a + Nt.val b = Nt.val a0 + Nt.val b0)
  case first =>
    by_cases hlt : a0.length < b0.length
    · have hltI : (a0.length : Int) < (b0.length : Int) := by omega
      go_wp2_with fail
      go_meet
      exact ⟨rfl, b0, a0, _, _, _, _, rfl, rfl, H02.out, H0.out, HB0.out, HA0.out, hll, by omega, Nat.add_comm _ _⟩
    · have hltI : ¬ (a0.length : Int) < (b0.length : Int) := by omega
      go_wp2_with fail
      go_meet
      exact ⟨rfl, a0, b0, _, _, _, _, rfl, rfl, H0.out, H02.out, HA0.out, HB0.out, hl, by omega, rfl⟩
  case rest =>
  clear H0 H02 HA0 HB0 hl hll
  obtain ⟨rfl, a, b, ad, ad2, cap, cap2, rfl, rfl, h, h2, ha, hb, hl, hll, hsum⟩ := hcut
  have H := Lib.hid h
  have H2 := Lib.hid h2
  have HA := Lib.hid ha
  have HB := Lib.hid hb
  have HSUM := Lib.hid hsum
  have hmk := Nt.make (a.length + 1) wc (by omega)
  have hcast : (((a.length + 1 : Nat) : Int)) = (a.length : Int) + 1 := by omega
  rw [hcast] at hmk
  clear h h2 ha hb hsum hcast
  obtain ⟨T, hT⟩ : ∃ T, wc.heap.size = T := ⟨_, rfl⟩
  obtain ⟨w2, hw2⟩ : ∃ z, wc.alloc (.cells (Nt.row (List.replicate (a.length + 1) 0)) 104) = z := ⟨_, rfl⟩
  have q2 : w2.heap[T]? = some (.cells (Nt.row (List.replicate (a.length + 1) 0)) 104 (0, 0)) := by rw [← hw2, ← hT]; exact heap_alloc_new wc _
  have hb2 : Below wc.heap.size wc w2 := hw2 ▸ (Below.refl _ _).alloc (Nat.le_refl _) _
  rw [hT, hw2] at hmk
  have HT := Lib.hid hT
  have HB2 := Lib.hid hb2
  have HQ2 := Lib.hid q2
  clear hT hw2 hb2 q2
  go_wp2_with fail
  go_loopw [6, 22] (fun cv i wr => ∃ (k c : Nat) (ws : List Nat), i = .int .i64 k ∧ cv = .int .u32 c ∧ k ≤ a.length ∧ c ≤ 1 ∧ ws.length = a.length + 1 ∧ Nt.Wd ws ∧ (∀ j, k ≤ j → ws.getD j 0 = 0) ∧ Nt.val (ws.take k) + 4294967296 ^ k * c = Nt.val (a.take k) + Nt.val (b.take k) ∧ wr.heap[T]? = some (.cells (Nt.row ws) 104 (0, 0)) ∧ Below wc.heap.size wc wr) (fun _ i _ => a.length - (intOf i).toNat)
  case atStart => exact ⟨0, 0, List.replicate (a.length + 1) 0, rfl, rfl, Nat.zero_le _, by decide, by simp, Nt.Wd.zeros _, fun j _ => Nt.zeros_getD _ _, by simp [Nt.val], HQ2.out, HB2.out⟩
  case round =>
    obtain ⟨k, c, ws, rfl, rfl, hk, hc1, hwl, hwd, hz, hval, hq, hbw⟩ := hrel
    obtain ⟨wo, hwo⟩ : ∃ z, z = wr := ⟨_, rfl⟩
    subst hwo
    have HZ := Lib.hid hz
    have HWD := Lib.hid hwd
    have HV := Lib.hid hval
    have HQ := Lib.hid hq
    have HBW := Lib.hid hbw
    have HWL := Lib.hid hwl
    clear hz hwd hval hq hbw hwl
    by_cases hlt : k < a.length
    · obtain ⟨b1, o1, rfl, _, hcap1, hbl1, hcell1⟩ := (H.out.below HBW.out (Nat.le_refl _)).at (by omega)
      have c1 := hcell1 k hlt
      have hxb := HA.out.getD k
      have hyb := HB.out.getD k
      have hz0 : ws.getD k 0 = 0 := HZ.out k (Nat.le_refl _)
      have hstep := Nt.plus_step (a := a) (b := b) (ws := ws) (i := k) (c := c) HV.out (by have := HWL.out; omega)
      obtain ⟨W, hW, e1, e2, hQ9, hB9, hS9⟩ := Nt.store HQ.out k ((a.getD k 0 + b.getD k 0 + c) % 4294967296) (by have := HWL.out; omega) HBW.out (by have := HT.out; omega)
      have HSTEP := Lib.hid hstep
      have HQ9 := Lib.hid hQ9
      have HB9 := Lib.hid hB9
      have hyb2 : k < b.length → ∃ b2 o2, ad2 = some ⟨b2, o2, none⟩ ∧ wo.cell? ⟨b2, o2 + k, none⟩ = some (.int .u32 (b.getD k 0 : Nat)) := fun h => by
        obtain ⟨b2, o2, e, _, _, _, hcell2⟩ := (H2.out.below HBW.out (Nat.le_refl _)).at (by omega)
        exact ⟨b2, o2, e, hcell2 k h⟩
      have hyb3 : ¬ k < b.length → b.getD k 0 = 0 := fun h => Nt.getD_ge b k (by omega)
      have HY2 := Lib.hid hyb2
      have HY3 := Lib.hid hyb3
      clear hcell1 hstep hQ9 hB9 hyb2 hyb3
      have HX := Lib.hid (And.intro hxb hyb)
      clear hxb hyb hz0
      generalize a.getD k 0 = x at *
      generalize b.getD k 0 = y at *
      have KA := fun w => Nt.Add32_any x y c w HX.out.1 HX.out.2 hc1
      have hc2 : (x + y + c) / 4294967296 ≤ 1 := by have := HX.out; omega
      have HC2 := Lib.hid hc2
      clear hc2
      have hks : ws.length = a.length + 1 := HWL.out
      have hkT : (k : Int) < (a.length : Int) + 1 := by omega
      obtain ⟨s, hs⟩ : ∃ s, (x + y + c) % 4294967296 = s := ⟨_, rfl⟩
      have hsl : s < 4294967296 := by omega
      rw [hs] at hW KA HQ9 HSTEP
      have HSL := Lib.hid hsl
      clear hs hsl hks
      have HNX : Hid (∀ j, k + 1 ≤ j → (ws.set k s).getD j 0 = 0) := Lib.hid (fun j hj => by rw [Nt.getD_set_ne ws k j s (by omega)]; exact HZ.out j (by omega))
      by_cases hlt2 : k < b.length
      · obtain ⟨b2, o2, rfl, c2⟩ := HY2.out hlt2
        have hlt2I : (k : Int) < (b.length : Int) := by omega
        go_wp2_with fail
        refine (KA _).mono ?_
        rintro z wz ⟨rfl, hwz⟩
        subst hwz
        go_wp2_with fail
        go_roundw
        case rel => exact ⟨k + 1, _, _, by first | rfl | go_num | (simp; try omega), rfl, by omega, HC2.out, by rw [List.length_set]; exact HWL.out, HWD.out.set k s HSL.out, HNX.out, HSTEP.out, HQ9.out, HB9.out⟩
        case measure => simp [intOf]; omega
      · obtain rfl := HY3.out hlt2
        have hlt2I : ¬ (k : Int) < (b.length : Int) := by omega
        go_wp2_with fail
        refine (KA _).mono ?_
        rintro z wz ⟨rfl, hwz⟩
        subst hwz
        go_wp2_with fail
        go_roundw
        case rel => exact ⟨k + 1, _, _, by first | rfl | go_num | (simp; try omega), rfl, by omega, HC2.out, by rw [List.length_set]; exact HWL.out, HWD.out.set k s HSL.out, HNX.out, HSTEP.out, HQ9.out, HB9.out⟩
        case measure => simp [intOf]; omega
    · obtain rfl : k = a.length := by omega
      have hlenw := HWL.out
      obtain ⟨W, hW, e1, e2, hQ9, hB9, hS9⟩ := Nt.store HQ.out a.length c (by omega) HBW.out (by have := HT.out; omega)
      have hval : Nt.val (ws.set a.length c) = Nt.val a0 + Nt.val b0 := by
        have h1 := Nt.val_set_take ws a.length c (by omega)
        rw [show (ws.set a.length c).take (a.length + 1) = ws.set a.length c by rw [List.take_of_length_le]; rw [List.length_set]; omega] at h1
        have h2 := HV.out
        rw [List.take_length, List.take_of_length_le hll] at h2
        rw [h1, h2, HSUM.out]
      have hin : Nt.In W (.slice (some ⟨T, 0, none⟩) (a.length + 1) (a.length + 1)) (ws.set a.length c) := by
        have := Nt.In.of_row hQ9
        rw [List.length_set, hlenw] at this
        exact this
      have KN := Nt.norm_any (ws.set a.length c) _ W hin (HWD.out.set _ _ (by omega)) (by rw [List.length_set]; omega)
      rw [hval] at KN
      have HB9 := Lib.hid hB9
      have hnlt : decide ((a.length : Int) < (a.length : Int)) = false := decide_eq_false (by omega)
      have hkT : (a.length : Int) < (a.length : Int) + 1 := by omega
      clear hval hin hQ9 hB9 hlenw
      go_wp2_with fail
      refine KN.mono ?_
      rintro z w8 ⟨v8, rfl, hn8, hb8⟩
      have HN8 := Lib.hid hn8
      have HB8 := Lib.hid (HB9.out.trans (hb8.mono HB9.out.size))
      clear hn8 hb8
      go_wp2_with fail
      go_ret
      exact ⟨_, rfl, HN8.out, HB8.out⟩
end Go.Proofs.YtdjllmogejkimaaGreatDoor
namespace Go.Proofs.YtdjllmogejkimaaGreatDoor

/-- While the guess is refused it is too great. -/
theorem Nt.guess_dec {U D v1 v2 lo dlo t rest u2 P : Nat} (hD : D = (v1 * 4294967296 + v2) * P + dlo) (hU : U = ((t * v1 + rest) * 4294967296 + u2) * P + lo) (hlo : lo < P) (h : rest * 4294967296 + u2 < t * v2) : U < t * D := by
  have h1 : (t * v1 + rest) * 4294967296 + u2 + 1 ≤ t * (v1 * 4294967296 + v2) := by
    rw [Nat.mul_add, Nat.add_mul, ← Nat.mul_assoc]
    omega
  have h2 : ((t * v1 + rest) * 4294967296 + u2 + 1) * P ≤ t * (v1 * 4294967296 + v2) * P := Nat.mul_le_mul_right _ h1
  have h3 : t * D = t * (v1 * 4294967296 + v2) * P + t * dlo := by rw [hD, Nat.mul_add, Nat.mul_assoc]
  rw [Nat.add_mul, Nat.one_mul] at h2
  have h4 := Nat.zero_le (t * dlo)
  omega
/-- Where it is not refused it is too great by one at most. -/
theorem Nt.guess_ok {U D v1 v2 lo dlo t rest u2 P : Nat} (hD : D = (v1 * 4294967296 + v2) * P + dlo) (hdlo : dlo < P) (hv1 : 0 < v1) (hU : U = ((t * v1 + rest) * 4294967296 + u2) * P + lo) (ht : t ≤ 4294967295) (h : t * v2 ≤ rest * 4294967296 + u2) : t * D < U + D := by
  have h1 : t * (v1 * 4294967296 + v2) ≤ (t * v1 + rest) * 4294967296 + u2 := by
    rw [Nat.mul_add, Nat.add_mul, ← Nat.mul_assoc]
    omega
  have h2 := Nat.mul_le_mul_right P h1
  have h3 : t * D = t * (v1 * 4294967296 + v2) * P + t * dlo := by rw [hD, Nat.mul_add, Nat.mul_assoc]
  have h4 : t * dlo ≤ 4294967295 * P := Nat.mul_le_mul ht (by omega)
  have h5 : 4294967296 * P ≤ (v1 * 4294967296 + v2) * P := Nat.mul_le_mul_right _ (by omega)
  have hP : 0 < P := by omega
  omega
/-- The guess stays one word where the rest is more than one word. -/
theorem Nt.guess_word {v1 t rest u0 u1 : Nat} (ht : t * v1 + rest = u0 * 4294967296 + u1) (h0 : u0 ≤ v1) (h1 : u1 < 4294967296) (hr : 4294967296 ≤ rest) : t ≤ 4294967295 := by
  rcases Nat.lt_or_ge t 4294967296 with h | h
  · omega
  · have := Nat.mul_le_mul_right v1 h
    have := Nat.mul_le_mul_right 4294967296 h0
    omega
/-- The first guess. -/
theorem Nt.guess_first {v1 u0 u1 : Nat} (hv1 : 2147483648 ≤ v1) (h0 : u0 ≤ v1) (h1 : u1 < 4294967296) : (u0 * 4294967296 + u1) / v1 ≤ 4294967297 := by
  have h : u0 * 4294967296 + u1 < 4294967298 * v1 := by omega
  have := (Nat.div_lt_iff_lt_mul (by omega : 0 < v1)).2 h
  omega
/-- The first guess is not too small. -/
theorem Nt.guess_start {U D v1 r1 u2 P P2 dlo lo q : Nat} (hD : D = v1 * P2 + dlo) (hU : U = r1 * P2 + lo) (hlo : lo < P2) (hq : q * D ≤ U) (hv1 : 0 < v1) : q ≤ r1 / v1 := by
  rw [Nat.le_div_iff_mul_le hv1]
  rcases Nat.lt_or_ge r1 (q * v1) with h | h
  · exfalso
    have h1 : (r1 + 1) * P2 ≤ q * v1 * P2 := Nat.mul_le_mul_right _ h
    have h2 : q * D = q * v1 * P2 + q * dlo := by rw [hD, Nat.mul_add, Nat.mul_assoc]
    have := Nat.zero_le (q * dlo)
    rw [Nat.add_mul, Nat.one_mul] at h1
    omega
  · exact h
/-- One word of the difference of a row and t times another: 'c' is carried, 'o' is borrowed. -/
theorem Nt.sub_word {u d t c o : Nat} (hu : u < 4294967296) (hd : d < 4294967296) (ht : t < 4294967296) (hc : c < 4294967296) (ho : o ≤ 1) :
    c + t * d < 18446744073709551616 ∧ (c + t * d) / 4294967296 < 4294967296 ∧
    (∃ x o' : Nat, o' ≤ 1 ∧ x < 4294967296 ∧ ((u : Int) - ((c + t * d) % 4294967296 : Nat) - (o : Int)) % 18446744073709551616 / 9223372036854775808 = (o' : Int) ∧ ((u : Int) - ((c + t * d) % 4294967296 : Nat) - (o : Int)) % 18446744073709551616 % 4294967296 = (x : Int) ∧ x + (c + t * d) % 4294967296 + o = u + 4294967296 * o') := by
  have h : t * d ≤ 4294967295 * 4294967295 := Nat.mul_le_mul (by omega) (by omega)
  generalize t * d = p at *
  refine ⟨by omega, by omega, ?_⟩
  by_cases hb : (c + p) % 4294967296 + o ≤ u
  · exact ⟨u - (c + p) % 4294967296 - o, 0, by omega, by omega, by omega, by omega, by omega⟩
  · exact ⟨u + 4294967296 - (c + p) % 4294967296 - o, 1, by omega, by omega, by omega, by omega, by omega⟩
theorem Nt.val_seg (ws : List Nat) (j k : Nat) : Nt.val ((ws.drop j).take (k + 1)) = Nt.val ((ws.drop j).take k) + 4294967296 ^ k * ws.getD (j + k) 0 := by
  rw [Nt.val_take_step, List.getD_eq_getElem?_getD, List.getElem?_drop, ← List.getD_eq_getElem?_getD]
theorem Nt.seg_set (ws : List Nat) (j k x : Nat) : (((ws.set (j + k) x).drop j).take k) = ((ws.drop j).take k) := by
  rw [List.drop_set, if_neg (by omega), show j + k - j = k by omega, Nt.set_take _ _ _ _ (Nat.le_refl _)]
theorem Nt.val_seg_set (ws : List Nat) (j k x : Nat) (h : j + k < ws.length) : Nt.val (((ws.set (j + k) x).drop j).take (k + 1)) = Nt.val ((ws.drop j).take k) + 4294967296 ^ k * x := by
  rw [Nt.val_seg, Nt.seg_set, Nt.getD_set_self _ _ _ h]
/-- A row, in three pieces. -/
theorem Nt.val_split (ws : List Nat) (j n : Nat) (h : j + n ≤ ws.length) : Nt.val ws = Nt.val (ws.take j) + 4294967296 ^ j * (Nt.val ((ws.drop j).take n) + 4294967296 ^ n * Nt.val (ws.drop (j + n))) := by
  conv => lhs; rw [← List.take_append_drop j ws, ← List.take_append_drop n (ws.drop j)]
  rw [Nt.val_append, Nt.val_append, List.drop_drop, List.length_take, List.length_take, List.length_drop, Nat.min_eq_left (by omega), Nat.min_eq_left (by omega)]
/-- One step of the difference. -/
theorem Nt.sub_step {u0 us d : List Nat} {j k t c o x o' : Nat} (h : Nt.val ((u0.drop j).take k) + 4294967296 ^ k * (c + o) = Nt.val ((us.drop j).take k) + t * Nt.val (d.take k)) (hx : x + (c + t * d.getD k 0) % 4294967296 + o = u0.getD (j + k) 0 + 4294967296 * o') (hk : j + k < us.length) :
    Nt.val ((u0.drop j).take (k + 1)) + 4294967296 ^ (k + 1) * ((c + t * d.getD k 0) / 4294967296 + o') = Nt.val (((us.set (j + k) x).drop j).take (k + 1)) + t * Nt.val (d.take (k + 1)) := by
  rw [Nt.val_seg_set _ _ _ _ hk, Nt.val_seg, Nt.val_take_step d, Nat.pow_succ]
  have e := Nat.mod_add_div (c + t * d.getD k 0) 4294967296
  generalize u0.getD (j + k) 0 = uu at *
  generalize 4294967296 ^ k = P at *
  have e1 : t * (Nt.val (d.take k) + P * d.getD k 0) = t * Nt.val (d.take k) + P * (t * d.getD k 0) := by
    rw [Nat.mul_add, Nat.mul_left_comm]
  rw [e1]
  generalize t * d.getD k 0 = p at *
  generalize (c + p) % 4294967296 = m at *
  generalize (c + p) / 4294967296 = q at *
  have e2 : P * x + P * m + P * o = P * uu + P * 4294967296 * o' := by
    rw [Nat.mul_assoc, ← Nat.mul_add, ← Nat.mul_add, ← Nat.mul_add, hx]
  have e3 : P * m + P * 4294967296 * q = P * c + P * p := by
    rw [Nat.mul_assoc, ← Nat.mul_add, e, Nat.mul_add]
  have e4 : P * 4294967296 * (q + o') = P * 4294967296 * q + P * 4294967296 * o' := Nat.mul_add _ _ _
  have e5 : P * (c + o) = P * c + P * o := Nat.mul_add _ _ _
  omega
/-- One step of adding back. -/
theorem Nt.back_step {u0 us d : List Nat} {j k c : Nat} (h : Nt.val ((us.drop j).take k) + 4294967296 ^ k * c = Nt.val ((u0.drop j).take k) + Nt.val (d.take k)) (hk : j + k < us.length) :
    Nt.val (((us.set (j + k) ((u0.getD (j + k) 0 + d.getD k 0 + c) % 4294967296)).drop j).take (k + 1)) + 4294967296 ^ (k + 1) * ((u0.getD (j + k) 0 + d.getD k 0 + c) / 4294967296) = Nt.val ((u0.drop j).take (k + 1)) + Nt.val (d.take (k + 1)) := by
  rw [Nt.val_seg_set _ _ _ _ hk, Nt.val_seg, Nt.val_take_step d, Nat.pow_succ]
  have e := Nat.mod_add_div (u0.getD (j + k) 0 + d.getD k 0 + c) 4294967296
  generalize u0.getD (j + k) 0 = x at *
  generalize d.getD k 0 = y at *
  generalize (x + y + c) % 4294967296 = m at *
  generalize (x + y + c) / 4294967296 = q at *
  generalize 4294967296 ^ k = P at *
  have e2 : P * m + P * 4294967296 * q = P * x + P * y + P * c := by
    rw [Nat.mul_assoc, ← Nat.mul_add, e, Nat.mul_add, Nat.mul_add]
  omega
/-- A shift upwards, one word. -/
theorem Nt.up_step {a ws : List Nat} {i s c : Nat} (hs : s < 32) (hx : a.getD i 0 < 4294967296) (h : Nt.val (ws.take i) + 4294967296 ^ i * c = Nt.val (a.take i) * 2 ^ s) (hc : c < 2 ^ s) (hi : i < ws.length) :
    c + a.getD i 0 * 2 ^ s % 4294967296 < 4294967296 ∧ a.getD i 0 * 2 ^ s / 4294967296 < 2 ^ s ∧
    Nt.val ((ws.set i (c + a.getD i 0 * 2 ^ s % 4294967296)).take (i + 1)) + 4294967296 ^ (i + 1) * (a.getD i 0 * 2 ^ s / 4294967296) = Nt.val (a.take (i + 1)) * 2 ^ s := by
  rw [Nt.val_set_take _ _ _ hi, Nt.val_take_step a]
  generalize a.getD i 0 = x at *
  have hd : 2 ^ s * 2 ^ (32 - s) = 4294967296 := by rw [← Nat.pow_add, show s + (32 - s) = 32 by omega]
  have hp := Nat.two_pow_pos s
  have hm : x * 2 ^ s % 4294967296 = (x % 2 ^ (32 - s)) * 2 ^ s := by
    rw [← hd, Nat.mul_comm x, Nat.mul_mod_mul_left, Nat.mul_comm]
  have h1 : x % 2 ^ (32 - s) + 1 ≤ 2 ^ (32 - s) := Nat.mod_lt _ (Nat.two_pow_pos _)
  have h2 : (x % 2 ^ (32 - s) + 1) * 2 ^ s ≤ 2 ^ (32 - s) * 2 ^ s := Nat.mul_le_mul_right _ h1
  rw [Nat.add_mul, Nat.one_mul, Nat.mul_comm (2 ^ (32 - s)), hd] at h2
  refine ⟨by omega, ?_, ?_⟩
  · rw [Nat.div_lt_iff_lt_mul (by decide), Nat.mul_comm]
    exact (Nat.mul_lt_mul_left hp).2 hx
  · have e := Nat.mod_add_div (x * 2 ^ s) 4294967296
    rw [Nat.add_mul, Nat.pow_succ, Nat.mul_assoc (4294967296 ^ i) x]
    generalize x * 2 ^ s = y at *
    generalize y % 4294967296 = m at *
    generalize y / 4294967296 = q at *
    generalize 4294967296 ^ i = P at *
    have e2 : P * m + P * 4294967296 * q = P * y := by rw [Nat.mul_assoc, ← Nat.mul_add, e]
    rw [Nat.mul_add]
    omega
end Go.Proofs.YtdjllmogejkimaaGreatDoor
