/-
  The long division of numbers: one round of it. Plain law. nat.Up, nat.Down of numbers, by less than one word. Rows of words that a call owns, with places to spare behind them.
-/
import Derived.Laws.Bits64
import Derived.BigQuiet
import Derived.Lib.ItoaNum
import Derived.Test.YtdjllmogejkimaaGreatDoorQa
set_option linter.unusedVariables false
set_option linter.unusedSimpArgs false
namespace Go.Proofs.YtdjllmogejkimaaGreatDoor

theorem Nt.val_seg_lt {u : List Nat} (hu : Nt.Wd u) (j n : Nat) : Nt.val ((u.drop j).take n) < 4294967296 ^ n := by
  have hw : Nt.Wd ((u.drop j).take n) := fun x hx => hu x (List.mem_of_mem_drop (List.mem_of_mem_take hx))
  have h := Nt.val_lt _ hw
  exact Nat.lt_of_lt_of_le h (Nat.pow_le_pow_right (by decide) (by rw [List.length_take]; omega))
/-- What is left lies in n + 1 words from j on. -/
theorem Nt.round_seg {u : List Nat} {j n D : Nat} (hu : Nt.Wd u) (hj : j + n < u.length) (hU : Nt.val u < D * 4294967296 ^ (j + 1)) (hD : D < 4294967296 ^ n) :
    Nt.val u = Nt.val (u.take j) + 4294967296 ^ j * Nt.val ((u.drop j).take (n + 1)) ∧ Nt.val ((u.drop j).take (n + 1)) < D * 4294967296 ∧ Nt.val (u.drop (j + (n + 1))) = 0 := by
  have hs := Nt.val_split u j (n + 1) (by omega)
  have hz : Nt.val (u.drop (j + (n + 1))) = 0 := by
    rcases Nat.eq_zero_or_pos (Nt.val (u.drop (j + (n + 1)))) with h | h
    · exact h
    · exfalso
      have h1 : D * 4294967296 ^ (j + 1) ≤ 4294967296 ^ n * 4294967296 ^ (j + 1) := Nat.mul_le_mul_right _ (by omega)
      rw [← Nat.pow_add] at h1
      have h2 : 4294967296 ^ j * (4294967296 ^ (n + 1) * 1) ≤ 4294967296 ^ j * (Nt.val ((u.drop j).take (n + 1)) + 4294967296 ^ (n + 1) * Nt.val (u.drop (j + (n + 1)))) :=
        Nat.mul_le_mul_left _ (Nat.le_trans (Nat.mul_le_mul_left _ h) (Nat.le_add_left _ _))
      rw [Nat.mul_one, ← Nat.pow_add, show j + (n + 1) = n + (j + 1) by omega] at h2
      rw [show n + (j + 1) = j + (n + 1) by omega] at h2 h1
      omega
  rw [hz, Nat.mul_zero, Nat.add_zero] at hs
  refine ⟨hs, ?_, hz⟩
  have hp : 0 < 4294967296 ^ j := Nat.pow_pos (by decide)
  have h3 : 4294967296 ^ j * Nt.val ((u.drop j).take (n + 1)) < 4294967296 ^ j * (D * 4294967296) := by
    have e : D * 4294967296 ^ (j + 1) = 4294967296 ^ j * (D * 4294967296) := by
      rw [Nat.pow_succ, Nat.mul_left_comm]
    omega
  exact Nat.lt_of_mul_lt_mul_left h3
/-- The three words that the guess sees. -/
theorem Nt.round_top {u d : List Nat} {j m : Nat} (hu : Nt.Wd u) (hd : Nt.Wd d) (hdl : d.length = m + 2) (hS : Nt.val ((u.drop j).take (m + 3)) < Nt.val d * 4294967296) :
    Nt.val d = (d.getD (m + 1) 0 * 4294967296 + d.getD m 0) * 4294967296 ^ m + Nt.val (d.take m) ∧ Nt.val (d.take m) < 4294967296 ^ m ∧
    Nt.val ((u.drop j).take (m + 3)) = ((u.getD (j + (m + 2)) 0 * 4294967296 + u.getD (j + (m + 1)) 0) * 4294967296 + u.getD (j + m) 0) * 4294967296 ^ m + Nt.val ((u.drop j).take m) ∧ Nt.val ((u.drop j).take m) < 4294967296 ^ m ∧
    u.getD (j + (m + 2)) 0 ≤ d.getD (m + 1) 0 := by
  have e1 : Nt.val d = (d.getD (m + 1) 0 * 4294967296 + d.getD m 0) * 4294967296 ^ m + Nt.val (d.take m) := by
    conv => lhs; rw [← List.take_length (l := d), hdl, Nt.val_take_step, Nt.val_take_step, Nat.pow_succ]
    rw [Nat.add_mul]
    have : d.getD (m + 1) 0 * 4294967296 * 4294967296 ^ m = 4294967296 ^ m * 4294967296 * d.getD (m + 1) 0 := by
      rw [Nat.mul_comm, Nat.mul_comm (d.getD (m + 1) 0), Nat.mul_assoc]
    rw [this, Nat.mul_comm (d.getD m 0)]
    omega
  have l1 : Nt.val (d.take m) < 4294967296 ^ m := by
    have := Nt.val_lt _ (hd.take m)
    exact Nat.lt_of_lt_of_le this (Nat.pow_le_pow_right (by decide) (by rw [List.length_take]; omega))
  have l2 := Nt.val_seg_lt hu j m
  have l3 := Nt.val_seg_lt hu j (m + 2)
  have e2 : Nt.val ((u.drop j).take (m + 3)) = ((u.getD (j + (m + 2)) 0 * 4294967296 + u.getD (j + (m + 1)) 0) * 4294967296 + u.getD (j + m) 0) * 4294967296 ^ m + Nt.val ((u.drop j).take m) := by
    rw [Nt.val_seg, Nt.val_seg, Nt.val_seg, Nat.pow_succ (m := m + 1), Nat.pow_succ (m := m)]
    generalize u.getD (j + (m + 2)) 0 = a
    generalize u.getD (j + (m + 1)) 0 = b
    generalize u.getD (j + m) 0 = c
    generalize 4294967296 ^ m = P
    rw [Nat.add_mul, Nat.add_mul, Nat.add_mul]
    have h1 : P * 4294967296 * 4294967296 * a = a * 4294967296 * 4294967296 * P := by
      rw [Nat.mul_comm, Nat.mul_comm P 4294967296, Nat.mul_assoc 4294967296 P, Nat.mul_comm P 4294967296, ← Nat.mul_assoc, ← Nat.mul_assoc]
    have h2 : P * 4294967296 * b = b * 4294967296 * P := by
      rw [Nat.mul_comm, Nat.mul_comm P, ← Nat.mul_assoc]
    rw [h1, h2, Nat.mul_comm P c]
    omega
  refine ⟨e1, l1, e2, l2, ?_⟩
  rcases Nat.lt_or_ge (d.getD (m + 1) 0) (u.getD (j + (m + 2)) 0) with h | h
  · exfalso
    have s1 : Nt.val ((u.drop j).take (m + 3)) = Nt.val ((u.drop j).take (m + 2)) + 4294967296 ^ (m + 2) * u.getD (j + (m + 2)) 0 := Nt.val_seg u j (m + 2)
    have s2 : Nt.val d = Nt.val (d.take (m + 1)) + 4294967296 ^ (m + 1) * d.getD (m + 1) 0 := by
      conv => lhs; rw [← List.take_length (l := d), hdl, Nt.val_take_step]
    have l4 : Nt.val (d.take (m + 1)) < 4294967296 ^ (m + 1) := by
      have := Nt.val_lt _ (hd.take (m + 1))
      exact Nat.lt_of_lt_of_le this (Nat.pow_le_pow_right (by decide) (by rw [List.length_take]; omega))
    have h5 : 4294967296 ^ (m + 2) * (d.getD (m + 1) 0 + 1) ≤ 4294967296 ^ (m + 2) * u.getD (j + (m + 2)) 0 := Nat.mul_le_mul_left _ h
    rw [show m + 2 = (m + 1) + 1 from rfl, Nat.pow_succ] at h5 s1
    rw [Nat.mul_assoc, Nat.mul_assoc] at h5
    rw [Nat.mul_assoc] at s1
    generalize 4294967296 ^ (m + 1) = P at *
    generalize d.getD (m + 1) 0 = y at *
    generalize u.getD (j + (m + 1 + 1)) 0 = x at *
    have h6 : P * (4294967296 * (y + 1)) = P * y * 4294967296 + P * 4294967296 := by
      rw [show 4294967296 * (y + 1) = y * 4294967296 + 4294967296 by omega, Nat.mul_add, ← Nat.mul_assoc]
    omega
  · exact h
/-- The words behind the last step, where nothing is to be added back. -/
theorem Nt.round_fits {u us d : List Nat} {j n t c o : Nat} (h : Nt.val ((u.drop j).take n) + 4294967296 ^ n * (c + o) = Nt.val ((us.drop j).take n) + t * Nt.val (d.take n)) (hd : d.length = n) (hl : j + n < us.length) (hco : c + o ≤ u.getD (j + n) 0) :
    Nt.val (((us.set (j + n) (u.getD (j + n) 0 - c - o)).drop j).take (n + 1)) + t * Nt.val d = Nt.val ((u.drop j).take (n + 1)) := by
  rw [Nt.val_seg_set _ _ _ _ hl, Nt.val_seg]
  rw [List.take_of_length_le (l := d) (by omega)] at h
  generalize u.getD (j + n) 0 = x at *
  have : 4294967296 ^ n * x = 4294967296 ^ n * (x - c - o) + 4294967296 ^ n * (c + o) := by
    rw [← Nat.mul_add]; congr 1; omega
  omega
/-- Where one is to be added back. -/
theorem Nt.round_back {u us ub d : List Nat} {j n t c o cc : Nat} (hus : Nt.Wd us) (hub : Nt.Wd ub) (h : Nt.val ((u.drop j).take n) + 4294967296 ^ n * (c + o) = Nt.val ((us.drop j).take n) + t * Nt.val (d.take n)) (hd : d.length = n) (hl : j + n < ub.length) (hco : ¬ c + o ≤ u.getD (j + n) 0)
    (hb : Nt.val ((ub.drop j).take n) + 4294967296 ^ n * cc = Nt.val ((us.drop j).take n) + Nt.val (d.take n)) (hcc : cc ≤ 1) (hg : t * Nt.val d < Nt.val ((u.drop j).take (n + 1)) + Nt.val d) (hdl : Nt.val d < 4294967296 ^ n) (hc : c < 4294967296) (ho : o ≤ 1) :
    cc = 1 ∧ u.getD (j + n) 0 + 1 = c + o ∧ 1 ≤ t ∧ Nt.val ((u.drop j).take (n + 1)) < t * Nt.val d ∧ Nt.val (((ub.set (j + n) 0).drop j).take (n + 1)) + (t - 1) * Nt.val d = Nt.val ((u.drop j).take (n + 1)) := by
  rw [Nt.val_seg_set _ _ _ _ hl, Nt.val_seg, Nat.mul_zero, Nat.add_zero]
  rw [Nt.val_seg] at hg
  rw [List.take_of_length_le (l := d) (by omega)] at h hb
  have l1 := Nt.val_seg_lt hus j n
  have l2 := Nt.val_seg_lt hub j n
  generalize u.getD (j + n) 0 = x at *
  generalize Nt.val ((u.drop j).take n) = A at *
  generalize Nt.val ((us.drop j).take n) = S at *
  generalize Nt.val ((ub.drop j).take n) = R at *
  generalize Nt.val d = D at *
  generalize 4294967296 ^ n = P at *
  have e : P * (c + o) = P * x + P * (c + o - x) := by rw [← Nat.mul_add]; congr 1; omega
  have hx : x + 1 = c + o := by
    rcases Nat.lt_or_ge (c + o - x) 2 with h2 | h2
    · omega
    · exfalso
      have := Nat.mul_le_mul_left P h2
      omega
  rw [show c + o - x = 1 by omega, Nat.mul_one] at e
  have ht : 1 ≤ t := by
    rcases Nat.eq_zero_or_pos t with h0 | h0
    · subst h0; simp at h; omega
    · exact h0
  have et : t * D = (t - 1) * D + D := by rw [← Nat.succ_mul]; congr 1; omega
  have hc1 : cc = 1 := by
    rcases Nat.eq_zero_or_pos cc with h0 | h0
    · subst h0; simp at hb; omega
    · omega
  subst hc1
  exact ⟨rfl, hx, ht, by omega, by omega⟩
/-- What is left behind a round. -/
theorem Nt.round_end {u un d : List Nat} {j n t A Q : Nat} (hA : A = Nt.val d * Q + Nt.val u) (hu : Nt.Wd u) (hn : j + n < u.length) (hl : un.length = u.length) (h1 : un.take j = u.take j) (h2 : un.drop (j + (n + 1)) = u.drop (j + (n + 1))) (hU : Nt.val u < Nt.val d * 4294967296 ^ (j + 1)) (hD : Nt.val d < 4294967296 ^ n)
    (he : Nt.val ((un.drop j).take (n + 1)) + t * Nt.val d = Nt.val ((u.drop j).take (n + 1))) (hs : Nt.val ((un.drop j).take (n + 1)) < Nt.val d) :
    A = Nt.val d * (Q + 4294967296 ^ j * t) + Nt.val un ∧ Nt.val un < Nt.val d * 4294967296 ^ j := by
  obtain ⟨s1, s2, s3⟩ := Nt.round_seg hu hn hU hD
  have s4 := Nt.val_split un j (n + 1) (by omega)
  rw [h1, h2, s3, Nat.mul_zero, Nat.add_zero] at s4
  have l1 := Nt.val_lt _ (hu.take j)
  have l2 : 4294967296 ^ (u.take j).length ≤ 4294967296 ^ j := Nat.pow_le_pow_right (by decide) (by rw [List.length_take]; omega)
  generalize Nt.val (u.take j) = T at *
  generalize Nt.val ((un.drop j).take (n + 1)) = S at *
  generalize Nt.val ((u.drop j).take (n + 1)) = R at *
  generalize Nt.val d = D at *
  generalize 4294967296 ^ j = P at *
  refine ⟨?_, ?_⟩
  · rw [hA, s1, s4, ← he, Nat.mul_add, Nat.mul_add, Nat.mul_left_comm D P t, Nat.mul_comm t D]
    omega
  · have : P * (S + 1) ≤ P * D := Nat.mul_le_mul_left _ hs
    rw [Nat.mul_add, Nat.mul_one] at this
    rw [Nat.mul_comm D P]
    omega
/-- At the end. -/
theorem Nt.round_last {a b s D Q U : Nat} (hD : D = b * 2 ^ s) (hb : 0 < b) (hA : a * 2 ^ s = D * Q + U) (hU : U < D * 4294967296 ^ 0) : Q = a / b ∧ U / 2 ^ s = a % b := by
  rw [Nat.pow_zero, Nat.mul_one] at hU
  have hp := Nat.two_pow_pos s
  have hD0 : 0 < D := hD ▸ Nat.mul_pos hb hp
  have hq : Q = a * 2 ^ s / D := by rw [hA, Nat.mul_add_div hD0, Nat.div_eq_of_lt hU, Nat.add_zero]
  have hr : U = a * 2 ^ s % D := by rw [hA, Nat.mul_add_mod, Nat.mod_eq_of_lt hU]
  rw [hD, Nat.mul_div_mul_right _ _ hp] at hq
  rw [hD, Nat.mul_mod_mul_right] at hr
  exact ⟨hq, by rw [hr, Nat.mul_div_cancel _ hp]⟩
/-- The guess, said of the whole numbers. -/
theorem Nt.guess_up {U D v1 v2 lo dlo t rest u01 u2 P : Nat} (hD : D = (v1 * 4294967296 + v2) * P + dlo) (hdlo : dlo < P) (hU : U = (u01 * 4294967296 + u2) * P + lo) (he : t * v1 + rest = u01) (hv1 : 0 < v1) (ht : t ≤ 4294967295) (h : t * v2 ≤ rest * 4294967296 + u2) : t * D < U + D := by
  subst he
  exact Nt.guess_ok hD hdlo hv1 hU ht h
theorem Nt.guess_rest {S t D U : Nat} (h : S + t * D = U) (hg : U / D ≤ t) (hD : 0 < D) : S < D := by
  have h1 := Nat.lt_div_mul_add hD (a := U)
  have h2 := Nat.mul_le_mul_right D hg
  omega
theorem Nt.set_low {qs : List Nat} {j t : Nat} (h : ∀ i, i < j + 1 → qs.getD i 0 = 0) : ∀ i, i < j → (qs.set j t).getD i 0 = 0 := fun i hi => by
  rw [Nt.getD_set_ne _ _ _ _ (by omega)]
  exact h i (by omega)
theorem Nt.set_quot {qs : List Nat} {j t A D u : Nat} (hA : A = D * (Nt.val qs + 4294967296 ^ j * t) + u) (h : ∀ i, i < j + 1 → qs.getD i 0 = 0) (hj : j < qs.length) : A = D * Nt.val (qs.set j t) + u := by
  have := Nt.val_set qs j t hj
  rw [h j (by omega), Nat.mul_zero, Nat.add_zero] at this
  rw [this]
  exact hA
theorem Nt.val_take_of {us : List Nat} {n : Nat} (hw : Nt.Wd us) (hn : n ≤ us.length) (h : Nt.val us < 4294967296 ^ n) : Nt.val (us.take n) = Nt.val us := by
  have e := Nt.val_append (us.take n) (us.drop n)
  rw [List.take_append_drop, List.length_take, Nat.min_eq_left hn] at e
  rcases Nat.eq_zero_or_pos (Nt.val (us.drop n)) with h0 | h0
  · rw [h0, Nat.mul_zero] at e; omega
  · have := Nat.mul_le_mul_left (4294967296 ^ n) h0
    omega
theorem Nt.guess_down {U D v1 v2 lo dlo t rest u01 u2 P : Nat} (hD : D = (v1 * 4294967296 + v2) * P + dlo) (hU : U = (u01 * 4294967296 + u2) * P + lo) (hlo : lo < P) (he : t * v1 + rest = u01) (h : rest * 4294967296 + u2 < t * v2) : U / D < t := by
  subst he
  have := Nt.guess_dec (t := t) (rest := rest) hD hU hlo h
  exact Nat.div_lt_of_lt_mul (by rw [Nat.mul_comm]; exact this)
theorem Nt.guess_big {U D v1 v2 lo dlo u01 u2 P q : Nat} (hD : D = (v1 * 4294967296 + v2) * P + dlo) (hdlo : dlo < P) (hU : U = (u01 * 4294967296 + u2) * P + lo) (hlo : lo < P) (hv1 : 0 < v1) (hu2 : u2 < 4294967296) (hq : q * D ≤ U) : q ≤ u01 / v1 := by
  refine Nt.guess_start (P2 := 4294967296 * P) (dlo := v2 * P + dlo) (lo := u2 * P + lo) (r1 := u01) (u2 := 0) (P := 0) ?_ ?_ ?_ hq hv1
  · rw [hD, Nat.add_mul, Nat.mul_assoc]; omega
  · rw [hU, Nat.add_mul, Nat.mul_assoc]; omega
  · have := Nat.mul_le_mul_right P (Nat.le_of_lt_succ hu2 : u2 ≤ 4294967295)
    omega
theorem Nt.take_set_ge (ws : List Nat) (j k x : Nat) : (ws.set (j + k) x).take j = ws.take j := Nt.set_take _ _ _ _ (by omega)
theorem Nt.drop_set_lt (ws : List Nat) (i k x : Nat) (h : i < k) : (ws.set i x).drop k = ws.drop k := by
  rw [List.drop_set, if_pos h]
theorem Nt.drop_getD {us u : List Nat} {j i : Nat} (h : us.drop j = u.drop j) (hi : j ≤ i) : us.getD i 0 = u.getD i 0 := by
  have e : ∀ l : List Nat, l.getD i 0 = (l.drop j).getD (i - j) 0 := fun l => by
    rw [List.getD_eq_getElem?_getD, List.getD_eq_getElem?_getD, List.getElem?_drop, show j + (i - j) = i by omega]
  rw [e us, e u, h]
theorem Nt.drop_more {us u : List Nat} {j k : Nat} (h : us.drop j = u.drop j) (hk : j ≤ k) : us.drop k = u.drop k := by
  have e : ∀ l : List Nat, l.drop k = (l.drop j).drop (k - j) := fun l => by rw [List.drop_drop]; congr 1; omega
  rw [e us, e u, h]
/-- Down: a shift downwards, from the words of the row. -/
theorem Nt.down_word (x y s : Nat) (hs : s < 32) (hx : x < 4294967296) (hy : y < 4294967296) : (x + 4294967296 * y) / 2 ^ s % 4294967296 = x / 2 ^ s + y % 2 ^ s * 2 ^ (32 - s) := by
  have hd : 2 ^ s * 2 ^ (32 - s) = 4294967296 := by rw [← Nat.pow_add, show s + (32 - s) = 32 by omega]
  have hp := Nat.two_pow_pos s
  have hp2 := Nat.two_pow_pos (32 - s)
  have e1 : (x + 4294967296 * y) / 2 ^ s = x / 2 ^ s + y * 2 ^ (32 - s) := by
    rw [← hd, show x + 2 ^ s * 2 ^ (32 - s) * y = x + 2 ^ s * (y * 2 ^ (32 - s)) by rw [Nat.mul_assoc, Nat.mul_comm (2 ^ (32 - s)) y], Nat.add_mul_div_left _ _ hp]
  have l1 : x / 2 ^ s < 2 ^ (32 - s) := by
    rw [Nat.div_lt_iff_lt_mul hp, Nat.mul_comm, hd]; exact hx
  have e2 : y * 2 ^ (32 - s) % 4294967296 = y % 2 ^ s * 2 ^ (32 - s) := by
    rw [← hd, Nat.mul_mod_mul_right]
  have l2 : y % 2 ^ s * 2 ^ (32 - s) + 2 ^ (32 - s) ≤ 4294967296 := by
    have h1 : (y % 2 ^ s + 1) * 2 ^ (32 - s) ≤ 2 ^ s * 2 ^ (32 - s) := Nat.mul_le_mul_right _ (Nat.mod_lt _ hp)
    rw [Nat.add_mul, Nat.one_mul, hd] at h1
    exact h1
  rw [e1, Nat.add_mod, e2, Nat.mod_eq_of_lt (by omega : x / 2 ^ s < 4294967296), Nat.mod_eq_of_lt (by omega)]
/-- The words of a row that is shifted downwards are those of the number. -/
theorem Nt.down_val : ∀ (ws : List Nat) (s : Nat), s < 32 → Nt.Wd ws → ∀ os : List Nat, os.length = ws.length → (∀ i, i < ws.length → os.getD i 0 = ws.getD i 0 / 2 ^ s + ws.getD (i + 1) 0 % 2 ^ s * 2 ^ (32 - s)) → Nt.val os = Nt.val ws / 2 ^ s
  | [], s, hs, _, os, hl, _ => by
    obtain rfl : os = [] := List.eq_nil_of_length_eq_zero hl
    simp [Nt.val]
  | x :: xs, s, hs, hw, os, hl, h => by
    obtain ⟨o, rest, rfl⟩ : ∃ o rest, os = o :: rest := by cases os with | nil => simp at hl | cons o r => exact ⟨o, r, rfl⟩
    have ih := Nt.down_val xs s hs hw.tail rest (by simpa using hl) (fun i hi => by simpa using h (i + 1) (by simpa using hi))
    have h0 := h 0 (by simp)
    simp only [List.getD_cons_zero, Nat.zero_add, List.getD_cons_succ] at h0
    rw [Nt.val, Nt.val, ih, h0]
    have hd : 2 ^ s * 2 ^ (32 - s) = 4294967296 := by rw [← Nat.pow_add, show s + (32 - s) = 32 by omega]
    have hp := Nat.two_pow_pos s
    have e0 : xs.getD 0 0 % 2 ^ s = Nt.val xs % 2 ^ s := by
      cases xs with
      | nil => simp [Nt.val]
      | cons y ys =>
        rw [List.getD_cons_zero, Nt.val, ← hd, Nat.mul_assoc, Nat.add_mul_mod_self_left]
    rw [e0]
    generalize Nt.val xs = V
    have e1 : (x + 4294967296 * V) / 2 ^ s = x / 2 ^ s + V * 2 ^ (32 - s) := by
      rw [← hd, show x + 2 ^ s * 2 ^ (32 - s) * V = x + 2 ^ s * (V * 2 ^ (32 - s)) by rw [Nat.mul_assoc, Nat.mul_comm (2 ^ (32 - s)) V], Nat.add_mul_div_left _ _ hp]
    rw [e1]
    have e2 := Nat.mod_add_div V (2 ^ s)
    have e3 : V * 2 ^ (32 - s) = V % 2 ^ s * 2 ^ (32 - s) + 4294967296 * (V / 2 ^ s) := by
      conv => lhs; rw [← e2]
      rw [Nat.add_mul, Nat.mul_right_comm, hd]
    omega
end Go.Proofs.YtdjllmogejkimaaGreatDoor
namespace Go.Proofs.YtdjllmogejkimaaGreatDoor
open Go.RowKit

theorem Nt.or_low {c m s : Nat} (hs : s < 32) (hc : c < 2 ^ s) (hm : 2 ^ s ∣ m) (h : c + m < 4294967296) : bits .or .u32 (c : Int) (m : Int) = ((c + m : Nat) : Int) := by
  have hk : ∀ n : Int, 0 ≤ n → n < 2 ^ 32 → IntKind.u32.wrap n = n := fun n h0 h1 => by rw [IntKind.wrap_u32]; omega
  rw [(bits_nat .u32 32 (by decide) hk c m (by omega) (by omega)).2]
  obtain ⟨q, rfl⟩ := hm
  rw [Nat.or_comm, Nat.mul_comm, ← Nat.shiftLeft_eq, ← Nat.shiftLeft_add_eq_or_of_lt hc, Nat.add_comm]
set_option maxHeartbeats 4000000 in
set_option maxRecDepth 1000000 in
theorem Nt.Up_own (a : List Nat) (s : Nat) (v : Value) (w : World) (h : Nt.In w v a) (ha : Nt.Wd a) (hl : a.length ≤ 500000) (hs : s < 32) : Calls Tryz.prog 123 #[v, .int .i64 s] w fun e w' => ∃ v', e = .returned v' ∧ w'.ownsRow w.heap.size 104 1 v' (Nt.dig (Nt.val a * 2 ^ s)).length (Nt.vs (Nt.dig (Nt.val a * 2 ^ s))) ∧ Below w.heap.size w w' := by
  obtain ⟨ad, cap, rfl⟩ := h.slice
  have H := Lib.hid h
  have HA := Lib.hid ha
  clear h ha
  by_cases h0 : a.length = 0
  · obtain rfl : a = [] := List.eq_nil_of_length_eq_zero h0
    go_enter Tryz.func123, Tryz.ntmps123
    go_wp2_with fail
    go_ret
    exact ⟨_, rfl, by rw [show Nt.val [] = 0 from rfl, Nat.zero_mul, Nt.dig_zero]; exact ⟨rfl, .inl ⟨rfl, rfl⟩⟩, Below.refl _ _⟩
  · have h0I : ((a.length : Int) == 0) = false := by simp; intro e; apply h0; rw [e]; rfl
    have hmk := Nt.make (a.length + 1) w (by omega)
    have hcast : (((a.length + 1 : Nat) : Int)) = (a.length : Int) + 1 := by omega
    rw [hcast] at hmk
    clear hcast
    obtain ⟨T, hT⟩ : ∃ T, w.heap.size = T := ⟨_, rfl⟩
    obtain ⟨w2, hw2⟩ : ∃ z, w.alloc (.cells (Nt.row (List.replicate (a.length + 1) 0)) 104) = z := ⟨_, rfl⟩
    have q2 : w2.heap[T]? = some (.cells (Nt.row (List.replicate (a.length + 1) 0)) 104 (0, 0)) := by rw [← hw2, ← hT]; exact heap_alloc_new w _
    have hb2 : Below w.heap.size w w2 := hw2 ▸ (Below.refl _ _).alloc (Nat.le_refl _) _
    rw [hT, hw2] at hmk
    have HT := Lib.hid hT
    have HB2 := Lib.hid hb2
    have HQ2 := Lib.hid q2
    have hsI : (s : Int) < 32 := by omega
    have hs0 : (0 : Int) ≤ (s : Int) := by omega
    have hdv : (s : Int) / 32 = 0 := by omega
    have hrm : (s : Int) % 32 = (s : Int) := by omega
    have hsn : (s : Int).toNat = s := by omega
    clear hT hw2 hb2 q2
    go_enter Tryz.func123, Tryz.ntmps123
    go_wp2_with fail
    go_loopw [21] (fun i wr => ∃ (k c : Nat) (ws : List Nat), i = .int .i64 k ∧ k ≤ a.length ∧ c < 2 ^ s ∧ ws.length = a.length + 1 ∧ Nt.Wd ws ∧ ws.getD k 0 = c ∧ (∀ j, k < j → ws.getD j 0 = 0) ∧ Nt.val (ws.take k) + 4294967296 ^ k * c = Nt.val (a.take k) * 2 ^ s ∧ wr.heap[T]? = some (.cells (Nt.row ws) 104 (0, 0)) ∧ Below w.heap.size w wr) (fun i _ => a.length - (intOf i).toNat)
    case atStart => exact ⟨0, 0, List.replicate (a.length + 1) 0, rfl, Nat.zero_le _, Nat.two_pow_pos s, by simp, Nt.Wd.zeros _, Nt.zeros_getD _ _, fun j _ => Nt.zeros_getD _ _, by simp [Nt.val], HQ2.out, HB2.out⟩
    case round =>
      obtain ⟨k, c, ws, rfl, hk, hc, hwl, hwd, hgc, hz, hval, hq, hbw⟩ := hrel
      obtain ⟨wo, hwo⟩ : ∃ z, z = wr := ⟨_, rfl⟩
      subst hwo
      have HZ := Lib.hid hz
      have HWD := Lib.hid hwd
      have HV := Lib.hid hval
      have HQ := Lib.hid hq
      have HBW := Lib.hid hbw
      have HWL := Lib.hid hwl
      have HGC := Lib.hid hgc
      clear hz hwd hval hq hbw hwl hgc
      by_cases hlt : k < a.length
      · obtain ⟨b1, o1, rfl, _, hcap1, hbl1, hcell1⟩ := (H.out.below HBW.out (Nat.le_refl _)).at (by omega)
        have c1 := hcell1 k hlt
        have hxb := HA.out.getD k
        have hstep := Nt.up_step hs hxb HV.out hc (by have := HWL.out; omega)
        clear hcell1
        have c2 := Nt.cell_row HQ.out k (by have := HWL.out; omega)
        rw [HGC.out] at c2
        generalize a.getD k 0 = x at *
        have hy64 : x * 2 ^ s < 18446744073709551616 := by
          have h1 : 2 ^ s ≤ 2 ^ 31 := Nat.pow_le_pow_right (by decide) (by omega)
          have h2 : x * 2 ^ s ≤ 4294967295 * 2 ^ 31 := Nat.mul_le_mul (by omega) h1
          omega
        have hdvd : 2 ^ s ∣ x * 2 ^ s % 4294967296 := by
          have : (4294967296 : Nat) = 2 ^ s * 2 ^ (32 - s) := by rw [← Nat.pow_add, show s + (32 - s) = 32 by omega]
          rw [this, Nat.mul_comm x, Nat.mul_mod_mul_left]
          exact Nat.dvd_mul_right _ _
        have hor := Nt.or_low hs hc hdvd hstep.1
        have g1 : IntKind.u64.wrap ((x : Int) * 2 ^ s) = ((x * 2 ^ s : Nat) : Int) := by
          rw [IntKind.wrap_u64, show ((2 : Int) ^ s) = ((2 ^ s : Nat) : Int) from (Int.natCast_pow 2 s).symm, ← Int.natCast_mul]; omega
        obtain ⟨y, hy⟩ : ∃ y, x * 2 ^ s = y := ⟨_, rfl⟩
        rw [hy] at hstep hy64 hdvd hor g1
        obtain ⟨m, hm⟩ : ∃ m, y % 4294967296 = m := ⟨_, rfl⟩
        obtain ⟨q, hq⟩ : ∃ q, y / 4294967296 = q := ⟨_, rfl⟩
        obtain ⟨lo, hlo⟩ : ∃ lo, c + m = lo := ⟨_, rfl⟩
        rw [hm, hq, hlo] at hstep
        rw [hm, hlo] at hor
        have hmI : (y : Int) % 4294967296 = (m : Int) := by rw [← hm]; rfl
        have hqI : (y : Int) / 4294967296 % 4294967296 = (q : Int) := by rw [← hq]; omega
        obtain ⟨hs1, hs2, hs3⟩ := hstep
        have hq32 : q < 4294967296 := by omega
        obtain ⟨W, hW, e1, e2, hQ9, hB9, hS9⟩ := Nt.store HQ.out k lo (by have := HWL.out; omega) HBW.out (by have := HT.out; omega)
        obtain ⟨W2, hW2, e3, e4, hQ8, hB8, hS8⟩ := Nt.store hQ9 (k + 1) q (by rw [List.length_set]; have := HWL.out; omega) hB9 (by have := HT.out; omega)
        have HNX : Hid (∀ t, k + 1 < t → ((ws.set k lo).set (k + 1) q).getD t 0 = 0) := Lib.hid (fun t ht => by rw [Nt.getD_set_ne _ (k + 1) t q (by omega), Nt.getD_set_ne _ k t lo (by omega)]; exact HZ.out t (by omega))
        have HG2 : Hid (((ws.set k lo).set (k + 1) q).getD (k + 1) 0 = q) := Lib.hid (Nt.getD_set_self _ _ _ (by rw [List.length_set]; have := HWL.out; omega))
        have HR := Lib.hid (And.intro hs1 (And.intro hs2 (And.intro hs3 (And.intro hQ8 (And.intro hB8 hq32)))))
        have hkI : (k : Int) + 1 < (a.length : Int) + 1 := by omega
        have hkI2 : (k : Int) < (a.length : Int) + 1 := by omega
        have HTK : Hid (((ws.set k lo).set (k + 1) q).take (k + 1) = (ws.set k lo).take (k + 1)) := Lib.hid (Nt.set_take _ _ _ _ (Nat.le_refl _))
        clear hy hm hq hlo hs1 hs2 hs3 hQ9 hB9 hS9 hQ8 hB8 hS8 hdvd hy64 hq32
        go_wp2_with fail
        go_roundw
        case rel => exact ⟨k + 1, q, _, by first | rfl | go_num | (simp; try omega), by omega, HR.out.2.1, by rw [List.length_set, List.length_set]; exact HWL.out, (HWD.out.set _ _ HR.out.1).set _ _ HR.out.2.2.2.2.2, HG2.out, HNX.out, by rw [HTK.out]; exact HR.out.2.2.1, HR.out.2.2.2.1, HR.out.2.2.2.2.1⟩
        case measure => simp [intOf]; omega
      · obtain rfl : k = a.length := by omega
        have hval : Nt.val ws = Nt.val a * 2 ^ s := by
          have h1 := HV.out
          rw [List.take_length, ← HGC.out, ← Nt.val_take_succ ws a.length (by have := HWL.out; omega), List.take_of_length_le (by have := HWL.out; omega)] at h1
          exact h1
        have hin : wo.ownsRow w.heap.size 104 1 (.slice (some ⟨T, 0, none⟩) (a.length + 1) (a.length + 1)) ws.length (Nt.vs ws) := by
          have hl := HWL.out
          refine ⟨by simp [Nt.vs], .inr ⟨T, a.length + 1, Nt.row ws, by rw [hl], Nat.le_of_eq HT.out, HQ.out, by omega, by unfold maxLen; omega, by rw [Nt.row_size]; omega, ?_⟩⟩
          have e : (Nt.row ws).toList = Nt.vs ws := by simp [Nt.row, Nt.vs]
          rw [e, List.take_of_length_le (by simp [Nt.vs])]
        have KN := Nt.norm_own ws _ wo hin HWD.out (by have := HWL.out; omega)
        rw [hval] at KN
        have hnlt : decide ((a.length : Int) < (a.length : Int)) = false := decide_eq_false (by omega)
        clear hval hin
        go_wp2_with fail
        refine KN.mono ?_
        rintro z w8 ⟨v8, rfl, hn8, hb8⟩
        have HN8 := Lib.hid hn8
        have HB8 := Lib.hid (HBW.out.trans (hb8.mono HBW.out.size))
        clear hn8 hb8
        go_wp2_with fail
        go_ret
        exact ⟨_, rfl, HN8.out, HB8.out⟩

/-- Block T begins with the words ws, and can be written. -/
def Nt.Row (w : World) (T : Nat) (ws : List Nat) : Prop := ∃ cur t, w.heap[T]? = some (.cells cur t (0, 0)) ∧ ∀ k, k < ws.length → cur[k]? = some (.int .u32 (ws.getD k 0 : Nat))
theorem Nt.Row.of_row {w : World} {T : Nat} {t : TypeId} {ws : List Nat} (h : w.heap[T]? = some (.cells (Nt.row ws) t (0, 0))) : Nt.Row w T ws := ⟨_, t, h, fun k hk => Nt.row_at ws k hk⟩
theorem Nt.Row.lt {w : World} {T : Nat} {ws : List Nat} (h : Nt.Row w T ws) : T < w.heap.size := by
  obtain ⟨cur, t, h1, _⟩ := h
  exact (Array.getElem?_eq_some_iff.1 h1).1
theorem Nt.Row.cell {w : World} {T : Nat} {ws : List Nat} (h : Nt.Row w T ws) (k : Nat) (hk : k < ws.length) : w.cell? ⟨T, k, none⟩ = some (.int .u32 (ws.getD k 0 : Nat)) := by
  obtain ⟨cur, t, h1, h2⟩ := h
  have e : w.cell? ⟨T, k, none⟩ = cur[k]? := by simp [World.cell?, h1]
  rw [e, h2 k hk]
theorem Nt.Row.frozen {w : World} {T : Nat} {ws : List Nat} (h : Nt.Row w T ws) (k : Nat) : w.frozen? ⟨T, k, none⟩ = false := by
  obtain ⟨cur, t, h1, h2⟩ := h
  simp [World.frozen?, h1]
theorem Nt.Row.set {w : World} {T : Nat} {ws : List Nat} (h : Nt.Row w T ws) (k x : Nat) (hk : k < ws.length) : Nt.Row (w.setCell ⟨T, k, none⟩ (.int .u32 (x : Int))) T (ws.set k x) := by
  obtain ⟨cur, t, h1, h2⟩ := h
  obtain ⟨hlt, hk1⟩ := Array.getElem?_eq_some_iff.1 h1
  have hks : k < cur.size := (Array.getElem?_eq_some_iff.1 (h2 k hk)).1
  refine ⟨cur.set! k (.int .u32 (x : Int)), t, ?_, fun j hj => ?_⟩
  · show (w.heap.modify T _)[T]? = _
    rw [Array.getElem?_eq_getElem (by rw [Array.size_modify]; exact hlt), Array.getElem_modify_self, hk1]
    rfl
  · rw [List.length_set] at hj
    rw [Array.set!_eq_setIfInBounds, Array.getElem?_setIfInBounds]
    by_cases e : k = j
    · subst e
      rw [if_pos rfl, if_pos hks, Nt.getD_set_self _ _ _ hk]
    · rw [if_neg e, h2 j hj, Nt.getD_set_ne _ _ _ _ e]
theorem Nt.Row.below {w w' : World} {T B : Nat} {ws : List Nat} (h : Nt.Row w T ws) (hb : Below B w w') (hB : T < B) : Nt.Row w' T ws := by
  obtain ⟨cur, t, h1, h2⟩ := h
  exact ⟨cur, t, (hb.block T hB).trans h1, h2⟩
theorem Nt.Row.in {w : World} {T cap : Nat} {ws : List Nat} (h : Nt.Row w T ws) (hc : ws.length ≤ cap) : Nt.In w (.slice (some ⟨T, 0, none⟩) ws.length cap) ws := by
  rcases Nat.eq_zero_or_pos ws.length with h0 | h0
  · have : ws = [] := List.eq_nil_of_length_eq_zero h0
    subst this
    exact .inr (.inl ⟨_, cap, rfl, rfl⟩)
  · refine .inr (.inr ⟨h0, T, 0, cap, rfl, hc, h.lt, fun j hj => ?_⟩)
    rw [Nat.zero_add]
    exact h.cell j hj
theorem Nt.Row.cut {w : World} {T : Nat} {ws : List Nat} (h : Nt.Row w T ws) (n : Nat) : Nt.Row w T (ws.take n) := by
  obtain ⟨cur, t, h1, h2⟩ := h
  refine ⟨cur, t, h1, fun k hk => ?_⟩
  rw [List.length_take] at hk
  rw [h2 k (by omega), List.getD_eq_getElem?_getD, List.getD_eq_getElem?_getD, List.getElem?_take, if_pos (by omega)]
theorem Nt.own_row {w : World} {B : Nat} {t : TypeId} {v : Value} {ws : List Nat} (h : w.ownsRow B t 1 v ws.length (ws.map fun (x : Nat) => Value.int .u32 (x : Int))) (h0 : 0 < ws.length) :
    ∃ T cap, v = .slice (some ⟨T, 0, none⟩) ws.length cap ∧ B ≤ T ∧ ws.length ≤ cap ∧ cap ≤ maxLen ∧ Nt.Row w T ws := by
  rcases h.2 with ⟨_, h1⟩ | ⟨g, cap, cur, rfl, hB, hg, hn, hm, hs, ht⟩
  · omega
  · refine ⟨g, cap, rfl, hB, hn, hm, cur, t, hg, fun k hk => ?_⟩
    have e : (cur.toList.take (ws.length * 1))[k]? = some (.int .u32 (ws.getD k 0 : Nat)) := by
      rw [ht, List.getElem?_map, List.getElem?_eq_getElem hk, List.getD_eq_getElem?_getD, List.getElem?_eq_getElem hk]
      rfl
    rw [List.getElem?_take, if_pos (by omega)] at e
    rw [← Array.getElem?_toList]
    exact e
/-- A store into a row. -/
theorem Nt.Row.put {w : World} {T B : Nat} {w0 : World} {ws : List Nat} (h : Nt.Row w T ws) (k x : Nat) (hk : k < ws.length) (hb : Below B w0 w) (hB : B ≤ T) :
    ∃ W, w.setCell ⟨T, k, none⟩ (.int .u32 (x : Int)) = W ∧ w.cell? ⟨T, k, none⟩ = some (.int .u32 (ws.getD k 0 : Nat)) ∧ w.frozen? ⟨T, k, none⟩ = false ∧ Nt.Row W T (ws.set k x) ∧ Below B w0 W ∧ W.heap.size = w.heap.size ∧ (∀ q, q ≠ T → W.heap[q]? = w.heap[q]?) :=
  ⟨_, rfl, h.cell k hk, h.frozen k, h.set k x hk, hb.setCell (p := ⟨T, k, none⟩) hB _, by simp, fun q hq => Below.heap_setCell _ _ _ _ hq⟩
theorem Nt.In.low {w w' : World} {v : Value} {ws : List Nat} {B : Nat} (h : Nt.In w v ws) (hB : ∀ b off l cap, v = .slice (some ⟨b, off, none⟩) l cap → b < B) (hb : Below B w w') : Nt.In w' v ws := by
  rcases h with h | h | ⟨h0, b, off, cap, hv, hc, hl, hcell⟩
  · exact .inl h
  · exact .inr (.inl h)
  · exact .inr (.inr ⟨h0, b, off, cap, hv, hc, Nat.lt_of_lt_of_le hl hb.size, fun j hj => (hb.cell (p := ⟨b, off + j, none⟩) (hB b off _ _ hv)).trans (hcell j hj)⟩)
theorem Nt.or_high {x y : Nat} (hx : x < 4294967296) (hy : y < 4294967296) : bits .or .u64 (x : Int) ((y : Int) * 4294967296) = ((x + 4294967296 * y : Nat) : Int) := by
  have hk : ∀ n : Int, 0 ≤ n → n < 2 ^ 64 → IntKind.u64.wrap n = n := fun n h0 h1 => by rw [IntKind.wrap_u64]; omega
  have h := (bits_nat .u64 64 (by decide) hk x (y * 4294967296) (by omega) (by omega)).2
  have e : x ||| y * 4294967296 = x + 4294967296 * y := by
    have h1 := Nat.shiftLeft_add_eq_or_of_lt (show x < 2 ^ 32 from hx) y
    rw [Nat.shiftLeft_eq] at h1
    rw [Nat.or_comm, ← h1]
    omega
  rw [e] at h
  rw [← h]
  rfl
set_option maxHeartbeats 4000000 in
set_option maxRecDepth 1000000 in
theorem Nt.Down_ws (a : List Nat) (s : Nat) (v : Value) (w : World) (h : Nt.In w v a) (ha : Nt.Wd a) (hl : a.length ≤ 500000) (hs : s < 32) : Calls Tryz.prog 125 #[v, .int .i64 s] w fun e w' => ∃ v', e = .returned v' ∧ Nt.N w' v' (Nt.val a / 2 ^ s) ∧ Below w.heap.size w w' := by
  obtain ⟨ad, cap, rfl⟩ := h.slice
  have hcap := h.cap.2
  have H := Lib.hid h
  have HA := Lib.hid ha
  have hsI : (s : Int) < 32 := by omega
  have hs0 : (0 : Int) ≤ (s : Int) := by omega
  have hdv : (s : Int) / 32 = 0 := by omega
  have hrm : (s : Int) % 32 = (s : Int) := by omega
  have hsn : (s : Int).toNat = s := by omega
  clear h ha
  by_cases h0 : a.length = 0
  · obtain rfl : a = [] := List.eq_nil_of_length_eq_zero h0
    go_enter Tryz.func125, Tryz.ntmps125
    go_wp2_with fail
    go_ret
    exact ⟨_, rfl, by rw [show Nt.val [] = 0 from rfl, Nat.zero_div]; exact Nt.N.zero _, Below.refl _ _⟩
  · have h0I : ¬ ((a.length : Int) ≤ 0) := by omega
    obtain ⟨b1, o1, rfl, _, hcap1, hbl1, hcell1⟩ := H.out.at (by omega)
    have KC := fun w h => Nt.Clone_own a (.slice (some ⟨b1, o1, none⟩) a.length cap) w h (by omega)
    clear hcell1
    go_enter Tryz.func125, Tryz.ntmps125
    go_wp2_with fail
    refine (KC _ H.out).mono ?_
    rintro x w1 ⟨v1, rfl, hown, hb1⟩
    obtain ⟨T, cap2, rfl, hTB, hc2, hc2m, hrow⟩ := Nt.own_row hown (by omega)
    have HT := Lib.hid hTB
    have HB1 := Lib.hid hb1
    have HR1 := Lib.hid hrow
    clear hown hb1 hrow hTB
    go_wp2_with fail
    go_loopw [20] (fun i wr => ∃ (k : Nat) (ws : List Nat), i = .int .i64 k ∧ k ≤ a.length ∧ ws.length = a.length ∧ Nt.Wd ws ∧ (∀ j, j < k → ws.getD j 0 = a.getD j 0 / 2 ^ s + a.getD (j + 1) 0 % 2 ^ s * 2 ^ (32 - s)) ∧ (∀ j, k ≤ j → ws.getD j 0 = a.getD j 0) ∧ Nt.Row wr T ws ∧ Below w.heap.size w wr) (fun i _ => a.length - (intOf i).toNat)
    case atStart => exact ⟨0, a, rfl, Nat.zero_le _, rfl, HA.out, fun j hj => absurd hj (Nat.not_lt_zero _), fun _ _ => rfl, HR1.out, HB1.out⟩
    case round =>
      obtain ⟨k, ws, rfl, hk, hwl, hwd, hlow, hhi, hq, hbw⟩ := hrel
      obtain ⟨wo, hwo⟩ : ∃ z, z = wr := ⟨_, rfl⟩
      subst hwo
      have HLO := Lib.hid hlow
      have HHI := Lib.hid hhi
      have HWD := Lib.hid hwd
      have HQ := Lib.hid hq
      have HBW := Lib.hid hbw
      have HWL := Lib.hid hwl
      clear hlow hhi hwd hq hbw hwl
      by_cases hlt : k < a.length
      · have c1 := HQ.out.cell k (by have := HWL.out; omega)
        rw [HHI.out k (Nat.le_refl _)] at c1
        have hxb := HA.out.getD k
        have hyb := HA.out.getD (k + 1)
        have c2 := fun h => HQ.out.cell (k + 1) h
        rw [HHI.out (k + 1) (by omega)] at c2
        have hdw := Nt.down_word (a.getD k 0) (a.getD (k + 1) 0) s hs hxb hyb
        have hnx : ∀ z, z = a.getD k 0 / 2 ^ s + a.getD (k + 1) 0 % 2 ^ s * 2 ^ (32 - s) → (∀ j, j < k + 1 → (ws.set k z).getD j 0 = a.getD j 0 / 2 ^ s + a.getD (j + 1) 0 % 2 ^ s * 2 ^ (32 - s)) ∧ (∀ j, k + 1 ≤ j → (ws.set k z).getD j 0 = a.getD j 0) := fun z hz => by
          refine ⟨fun j hj => ?_, fun j hj => ?_⟩
          · by_cases e : j = k
            · subst e
              rw [Nt.getD_set_self _ _ _ (by have := HWL.out; omega), hz]
            · rw [Nt.getD_set_ne _ _ _ _ (fun h => e h.symm)]
              exact HLO.out j (by omega)
          · rw [Nt.getD_set_ne _ _ _ _ (by omega)]
            exact HHI.out j (by omega)
        have HNX := Lib.hid hnx
        have hz0 : ¬ k + 1 < a.length → a.getD (k + 1) 0 = 0 := fun h => Nt.getD_ge a (k + 1) (by omega)
        clear hnx
        generalize a.getD k 0 = x at *
        generalize a.getD (k + 1) 0 = y at *
        have hor := Nt.or_high hxb hyb
        obtain ⟨N, hN⟩ : ∃ N, x + 4294967296 * y = N := ⟨_, rfl⟩
        rw [hN] at hor hdw
        obtain ⟨z, hz⟩ : ∃ z, x / 2 ^ s + y % 2 ^ s * 2 ^ (32 - s) = z := ⟨_, rfl⟩
        rw [hz] at hdw
        have hzI : (N : Int) / 2 ^ s % 4294967296 = (z : Int) := by
          rw [← hdw, show ((2 : Int) ^ s) = ((2 ^ s : Nat) : Int) from (Int.natCast_pow 2 s).symm]; rfl
        have hzl : z < 4294967296 := by rw [← hdw]; omega
        have hysh : ((y : Int) * 4294967296) % 18446744073709551616 = (y : Int) * 4294967296 := by omega
        obtain ⟨W, hW, e1, e2, hQ9, hB9, hS9, _⟩ := HQ.out.put k z (by have := HWL.out; omega) HBW.out HT.out
        have HR := Lib.hid (And.intro hzl (And.intro hQ9 (And.intro hB9 (HNX.out z hz.symm))))
        have hkI : (k : Int) < (a.length : Int) := by omega
        have c2' := c2
        have HC2 := Lib.hid c2'
        have hz0' := Lib.hid hz0
        clear c2 c2' hz0 hdw hz hzl hQ9 hB9 hS9
        by_cases hlt2 : k + 1 < a.length
        · have c2 := HC2.out (by have := HWL.out; omega)
          have hkI2 : (k : Int) + 1 < (a.length : Int) := by omega
          clear hN
          go_wp2_with fail
          go_roundw
          case rel => exact ⟨k + 1, _, by first | rfl | go_num | (simp; try omega), by omega, by rw [List.length_set]; exact HWL.out, HWD.out.set _ _ HR.out.1, HR.out.2.2.2.1, HR.out.2.2.2.2, HR.out.2.1, HR.out.2.2.1⟩
          case measure => simp [intOf]; omega
        · have hy0 := hz0'.out hlt2
          have hNx : N = x := by rw [← hN, hy0]; omega
          rw [hNx] at hzI
          have hkI2 : ¬ (k : Int) + 1 < (a.length : Int) := by omega
          clear hN hNx hy0 hor hysh
          go_wp2_with fail
          go_roundw
          case rel => exact ⟨k + 1, _, by first | rfl | go_num | (simp; try omega), by omega, by rw [List.length_set]; exact HWL.out, HWD.out.set _ _ HR.out.1, HR.out.2.2.2.1, HR.out.2.2.2.2, HR.out.2.1, HR.out.2.2.1⟩
          case measure => simp [intOf]; omega
      · obtain rfl : k = a.length := by omega
        have hval := Nt.down_val a s hs HA.out ws HWL.out (fun i hi => HLO.out i hi)
        have hin := HQ.out.in (cap := cap2) (by have := HWL.out; omega)
        rw [HWL.out] at hin
        have KN := Nt.norm_any ws _ wo hin HWD.out (by have := HWL.out; omega)
        rw [hval] at KN
        have hnlt : decide ((a.length : Int) < (a.length : Int)) = false := decide_eq_false (by omega)
        clear hval hin
        go_wp2_with fail
        refine KN.mono ?_
        rintro z w8 ⟨v8, rfl, hn8, hb8⟩
        have HN8 := Lib.hid hn8
        have HB8 := Lib.hid (HBW.out.trans (hb8.mono HBW.out.size))
        clear hn8 hb8
        go_wp2_with fail
        go_ret
        exact ⟨_, rfl, HN8.out, HB8.out⟩

theorem Nt.join64 (r a : Nat) (hr : r < 4294967296) (ha : a < 4294967296) : bits .or .u64 ((r : Int) * 4294967296) (a : Int) = ((4294967296 * r + a : Nat) : Int) := by
  have h := bits_join .u64 64 (by decide) (fun n h0 h1 => by rw [IntKind.wrap_u64]; omega) 32 ((r : Int) * 4294967296) (a : Int) (by omega) (by omega) (by omega) (by omega) (by omega) (by omega)
  rw [h]
  omega
set_option maxHeartbeats 4000000 in
set_option maxRecDepth 1000000 in
theorem Nt.short_ws (a : List Nat) (d : Nat) (v : Value) (w : World) (h : Nt.In w v a) (ha : Nt.Wd a) (hl : a.length ≤ 500000) (hd0 : 0 < d) (hd : d < 4294967296) : Calls Tryz.prog 121 #[v, .int .u32 d] w fun e w' => ∃ v', e = .returned (.tuple #[v', .int .u32 (Nt.val a % d : Nat)]) ∧ Nt.N w' v' (Nt.val a / d) ∧ Below w.heap.size w w' := by
  obtain ⟨ad, cap, rfl⟩ := h.slice
  have H := Lib.hid h
  have HA := Lib.hid ha
  have hmk := Nt.make a.length w (by omega)
  clear h ha
  obtain ⟨T, hT⟩ : ∃ T, w.heap.size = T := ⟨_, rfl⟩
  obtain ⟨w2, hw2⟩ : ∃ z, w.alloc (.cells (Nt.row (List.replicate a.length 0)) 104) = z := ⟨_, rfl⟩
  have q2 : w2.heap[T]? = some (.cells (Nt.row (List.replicate a.length 0)) 104 (0, 0)) := by rw [← hw2, ← hT]; exact heap_alloc_new w _
  have hb2 : Below w.heap.size w w2 := hw2 ▸ (Below.refl _ _).alloc (Nat.le_refl _) _
  rw [hT, hw2] at hmk
  have HT := Lib.hid hT
  have HB2 := Lib.hid hb2
  have HQ2 := Lib.hid q2
  clear hT hw2 hb2 q2
  go_enter Tryz.func121, Tryz.ntmps121
  go_wp2_with fail
  go_loopw [7, 8] (fun rv i wr => ∃ (k r : Nat) (ws : List Nat), i = .int .i64 ((k : Int) - 1) ∧ rv = .int .u64 r ∧ k ≤ a.length ∧ r < d ∧ ws.length = a.length ∧ Nt.Wd ws ∧ Nt.val (a.drop k) = d * Nt.val (ws.drop k) + r ∧ wr.heap[T]? = some (.cells (Nt.row ws) 104 (0, 0)) ∧ Below w.heap.size w wr) (fun _ i _ => (intOf i + 1).toNat)
  case atStart => exact ⟨a.length, 0, List.replicate a.length 0, by first | rfl | go_num | (simp; try omega), rfl, Nat.le_refl _, hd0, by simp, Nt.Wd.zeros _, by rw [List.drop_length, List.drop_eq_nil_of_le (by simp)]; simp [Nt.val], HQ2.out, HB2.out⟩
  case round =>
    obtain ⟨k, r, ws, rfl, rfl, hk, hr, hwl, hwd, hval, hq, hbw⟩ := hrel
    obtain ⟨wo, hwo⟩ : ∃ z, z = wr := ⟨_, rfl⟩
    subst hwo
    have HWD := Lib.hid hwd
    have HV := Lib.hid hval
    have HQ := Lib.hid hq
    have HBW := Lib.hid hbw
    have HWL := Lib.hid hwl
    clear hwd hval hq hbw hwl
    rcases k with _ | k
    · have hval := HV.out
      rw [List.drop_zero, List.drop_zero] at hval
      have hq : Nt.val ws = Nt.val a / d := by
        rw [hval, Nat.mul_add_div hd0, Nat.div_eq_of_lt hr, Nat.add_zero]
      have hm : r = Nt.val a % d := by
        rw [hval, Nat.mul_add_mod, Nat.mod_eq_of_lt hr]
      have hin : Nt.In wo (.slice (some ⟨T, 0, none⟩) a.length a.length) ws := by
        have := Nt.In.of_row HQ.out
        rw [HWL.out] at this
        exact this
      have KN := Nt.norm_any ws _ wo hin HWD.out (by have := HWL.out; omega)
      rw [hq] at KN
      have HM := Lib.hid hm
      have hrw : (r : Int) % 4294967296 = (r : Int) := by omega
      clear hval hq hm hin
      go_wp2_with fail
      refine KN.mono ?_
      rintro z w8 ⟨v8, rfl, hn8, hb8⟩
      have HN8 := Lib.hid hn8
      have HB8 := Lib.hid (HBW.out.trans (hb8.mono HBW.out.size))
      clear hn8 hb8
      go_wp2_with fail
      go_ret2
      exact ⟨_, by rw [← HM.out]; rfl, HN8.out, HB8.out⟩
    · have hk1 : (((k + 1 : Nat) : Int) - 1) = (k : Int) := by omega
      rw [hk1]
      have hkk : k < a.length := by omega
      obtain ⟨b1, o1, rfl, _, hcap1, hbl1, hcell1⟩ := (H.out.below HBW.out (Nat.le_refl _)).at (by omega)
      have c1 := hcell1 k hkk
      have hxb := HA.out.getD k
      have hstep := Nt.short_step (a := a) (ws := ws) (i := k) (r := r) (d := d) HV.out hd0 hkk (by have := HWL.out; omega)
      have hqlt := Nt.short_lt (a := a.getD k 0) (r := r) (d := d) hxb hr
      have HSTEP := Lib.hid hstep
      clear hcell1 hstep
      generalize a.getD k 0 = x at *
      have hj := Nt.join64 r x (by omega) hxb
      obtain ⟨N, hN⟩ : ∃ N, 4294967296 * r + x = N := ⟨_, rfl⟩
      rw [hN] at HSTEP hqlt hj
      have hNl : N < 18446744073709551616 := by omega
      have hsh : ((r : Int) * 4294967296) % 18446744073709551616 = (r : Int) * 4294967296 := by omega
      obtain ⟨q, hq⟩ : ∃ q, N / d = q := ⟨_, rfl⟩
      obtain ⟨m, hm⟩ : ∃ m, N % d = m := ⟨_, rfl⟩
      rw [hq] at HSTEP hqlt
      rw [hm] at HSTEP
      have hml : m < d := hm ▸ Nat.mod_lt _ hd0
      have hqI : (N : Int) / (d : Int) = (q : Int) := by rw [← hq]; rfl
      have hmI : (N : Int) % (d : Int) = (m : Int) := by rw [← hm]; rfl
      have hqw : (q : Int) % 4294967296 = (q : Int) := by omega
      obtain ⟨W, hW, e1, e2, hQ9, hB9, hS9⟩ := Nt.store HQ.out k q (by have := HWL.out; omega) HBW.out (by have := HT.out; omega)
      have hdz : ((d : Int) == 0) = false := by simp; omega
      have HQL := Lib.hid hqlt
      have HQ9 := Lib.hid hQ9
      have HB9 := Lib.hid hB9
      have HML := Lib.hid hml
      clear hN hq hm hqlt hQ9 hB9 hml hS9
      go_wp2_with fail
      go_roundw
      case rel => exact ⟨k, m, _, by first | rfl | go_num | (simp; try omega), by first | rfl | rw [hmI], by omega, HML.out, by rw [List.length_set]; exact HWL.out, HWD.out.set _ _ HQL.out, HSTEP.out, HQ9.out, HB9.out⟩
      case measure => simp [intOf]

theorem Nt.drewN {B : Nat} {a w : World} (h : Below B a w) (n : Nat) : Below B a (w.drewN n) := h.trans ⟨rfl, rfl, rfl, Nat.le_refl _, fun _ _ => rfl⟩
set_option maxHeartbeats 4000000 in
set_option maxRecDepth 1000000 in
theorem Nt.Order_any (m n : Nat) (v v2 : Value) (w : World) (h : Nt.N w v m) (h2 : Nt.N w v2 n) (hl : (Nt.dig m).length ≤ 4611686018427387904) (hl2 : (Nt.dig n).length ≤ 4611686018427387904) : Calls Tryz.prog 88 #[v, v2] w fun e w' => e = .returned (.int .i64 (Nt.cmp m n)) ∧ Below w.heap.size w w' := by
  unfold Nt.N at h h2
  have hwa := Nt.dig_wd m
  have hwb := Nt.dig_wd n
  have hva := Nt.val_dig m
  have hvb := Nt.val_dig n
  have hlt1 : (Nt.dig m).length < (Nt.dig n).length → Nt.cmp m n = -1 := fun h => Nt.cmp_lt (Nt.dig_len_lt h)
  have hlt2 : (Nt.dig n).length < (Nt.dig m).length → Nt.cmp m n = 1 := fun h => Nt.cmp_gt (Nt.dig_len_lt h)
  have heq : (Nt.dig m).length = (Nt.dig n).length → (∀ j, j < (Nt.dig m).length → (Nt.dig m).getD j 0 = (Nt.dig n).getD j 0) → Nt.cmp m n = 0 := fun h1 h2 => by
    rw [Nt.dig_same h1 h2, Nt.cmp_eq]
  have hd1 : (Nt.dig m).length = (Nt.dig n).length → ∀ i, i < (Nt.dig m).length → (∀ j, i < j → j < (Nt.dig m).length → (Nt.dig m).getD j 0 = (Nt.dig n).getD j 0) → (Nt.dig m).getD i 0 < (Nt.dig n).getD i 0 → Nt.cmp m n = -1 := fun hl i hi hs hx => by
    have := Nt.val_lt_of hwa hwb hl hi hx hs
    rw [hva, hvb] at this
    exact Nt.cmp_lt this
  have hd2 : (Nt.dig m).length = (Nt.dig n).length → ∀ i, i < (Nt.dig m).length → (∀ j, i < j → j < (Nt.dig m).length → (Nt.dig m).getD j 0 = (Nt.dig n).getD j 0) → (Nt.dig n).getD i 0 < (Nt.dig m).getD i 0 → Nt.cmp m n = 1 := fun hl i hi hs hx => by
    have := Nt.val_lt_of hwb hwa hl.symm (by omega) hx (fun j h1 h2 => (hs j h1 (by omega)).symm)
    rw [hva, hvb] at this
    exact Nt.cmp_gt this
  generalize Nt.dig m = a at *
  generalize Nt.dig n = b at *
  generalize Nt.cmp m n = r at *
  obtain ⟨ad, cap, rfl⟩ := h.slice
  obtain ⟨ad2, cap2, rfl⟩ := h2.slice
  have H := Lib.hid h
  have H2 := Lib.hid h2
  have HL1 := Lib.hid hlt1
  have HL2 := Lib.hid hlt2
  have HE := Lib.hid heq
  have HD1 := Lib.hid hd1
  have HD2 := Lib.hid hd2
  clear h h2 hwa hwb hva hvb hlt1 hlt2 heq hd1 hd2
  by_cases hne : a.length = b.length
  case neg =>
    have hneI : ((a.length : Int) != (b.length : Int)) = true := by simp; omega
    by_cases hlt : a.length < b.length
    · obtain rfl := HL1.out hlt
      have hltI : (a.length : Int) < (b.length : Int) := by omega
      clear hne
      go_enter Tryz.func88, Tryz.ntmps88
      go_wp2_with fail
      go_ret
      exact ⟨rfl, Below.refl _ _⟩
    · obtain rfl := HL2.out (by omega)
      have hltI : ¬ (a.length : Int) < (b.length : Int) := by omega
      clear hne
      go_enter Tryz.func88, Tryz.ntmps88
      go_wp2_with fail
      go_ret
      exact ⟨rfl, Below.refl _ _⟩
  case pos =>
    have hneI : ((a.length : Int) != (b.length : Int)) = false := by simp; omega
    have HNE := Lib.hid hne
    clear hne
    go_enter Tryz.func88, Tryz.ntmps88
    go_wp2_with fail
    go_loopw [5] (fun i wr => ∃ k : Nat, i = .int .i64 ((k : Int) - 1) ∧ k ≤ a.length ∧ (∀ j, k ≤ j → j < a.length → a.getD j 0 = b.getD j 0) ∧ Below w.heap.size w wr) (fun i _ => (intOf i + 1).toNat)
    case atStart => exact ⟨a.length, by first | rfl | go_num | (simp; try omega), Nat.le_refl _, fun j h1 h2 => by omega, Below.refl _ _⟩
    case round =>
      obtain ⟨k, rfl, hk, hz, hbw⟩ := hrel
      have HZ := Lib.hid hz
      have HBW := Lib.hid hbw
      clear hz hbw
      rcases k with _ | k
      · obtain rfl := HE.out HNE.out (fun j hj => HZ.out j (Nat.zero_le _) hj)
        go_wp2_with fail
        go_ret
        exact ⟨rfl, HBW.out⟩
      · obtain ⟨b1, o1, rfl, _, hcap1, hbl1, hcell1⟩ := (H.out.below HBW.out (Nat.le_refl _)).at (by omega)
        obtain ⟨b2, o2, rfl, _, hcap2, hbl2, hcell2⟩ := (H2.out.below HBW.out (Nat.le_refl _)).at (by have := HNE.out; omega)
        have c1 := hcell1 k (by omega)
        have c2 := hcell2 k (by have := HNE.out; omega)
        have hk1 : (((k + 1 : Nat) : Int) - 1) = (k : Int) := by omega
        rw [hk1]
        have hkk : k < a.length := by omega
        have hi0 : (0 : Int) ≤ (k : Int) := by omega
        have hi1 : (k : Int) < (a.length : Int) := by omega
        have hi2 : (k : Int) < (b.length : Int) := by have := HNE.out; omega
        have hx1 := fun h => HD1.out HNE.out k hkk (fun j h1 h2 => HZ.out j (by omega) h2) h
        have hx2 := fun h => HD2.out HNE.out k hkk (fun j h1 h2 => HZ.out j (by omega) h2) h
        have hx3 : a.getD k 0 = b.getD k 0 → ∀ j, k ≤ j → j < a.length → a.getD j 0 = b.getD j 0 := fun h j h1 h2 => by
          rcases Nat.lt_or_ge k j with h3 | h3
          · exact HZ.out j (by omega) h2
          · obtain rfl : j = k := by omega
            exact h
        have HX1 := Lib.hid hx1
        have HX2 := Lib.hid hx2
        have HX3 := Lib.hid hx3
        have HBX : Hid (∀ n, Below w.heap.size w (wr.drewN n)) := Lib.hid (fun n => Nt.drewN HBW.out n)
        clear hx1 hx2 hx3 hcell1 hcell2
        generalize a.getD k 0 = x at *
        generalize b.getD k 0 = y at *
        by_cases h1 : x < y
        · obtain rfl := HX1.out h1
          have h1I : (x : Int) < (y : Int) := by omega
          clear h1
          go_wp2_with fail
          go_quiet (fail)
          go_wp2_with fail
          go_ret
          exact ⟨rfl, HBX.out _⟩
        · have h1I : ¬ (x : Int) < (y : Int) := by omega
          by_cases h2 : y < x
          · obtain rfl := HX2.out h2
            have h2I : (y : Int) < (x : Int) := by omega
            go_wp2_with fail
            go_quiet (fail)
            go_wp2_with fail
            go_quiet (fail)
            go_wp2_with fail
            go_ret
            exact ⟨rfl, Nt.drewN (HBX.out _) _⟩
          · have h2I : ¬ (y : Int) < (x : Int) := by omega
            have HXX := Lib.hid (HX3.out (by omega))
            go_wp2_with fail
            go_quiet (fail)
            go_wp2_with fail
            go_quiet (fail)
            go_wp2_with fail
            go_roundw
            case rel => exact ⟨k, by first | rfl | go_num | (simp; try omega), by omega, HXX.out, by first | exact HBX.out _ | exact Nt.drewN (HBX.out _) _⟩
            case measure => simp [intOf]
end Go.Proofs.YtdjllmogejkimaaGreatDoor
namespace Go.Proofs.YtdjllmogejkimaaGreatDoor

theorem Nt.top_shift {x : Nat} (h0 : 0 < x) (h1 : x < 4294967296) : ∃ s : Nat, s < 32 ∧ (32 - (Lib.bitLen x : Int)) = (s : Int) ∧ 2147483648 ≤ x * 2 ^ s ∧ x * 2 ^ s < 4294967296 := by
  obtain ⟨b1, b2, b3⟩ := Lib.bitLenAux_bounds 64 x (by omega) (by omega)
  have hb : Lib.bitLen x ≤ 32 := by
    rcases Nat.lt_or_ge 32 (Lib.bitLen x) with h | h
    · have : 2 ^ 32 ≤ 2 ^ (Lib.bitLenAux 64 x - 1) := Nat.pow_le_pow_right (by decide) (by unfold Lib.bitLen at h; omega)
      omega
    · exact h
  unfold Lib.bitLen at *
  generalize Lib.bitLenAux 64 x = L at *
  refine ⟨32 - L, by omega, by omega, ?_, ?_⟩
  · have e : 2 ^ (L - 1) * 2 ^ (32 - L) = 2147483648 := by rw [← Nat.pow_add, show L - 1 + (32 - L) = 31 by omega]
    have := Nat.mul_le_mul_right (2 ^ (32 - L)) b2
    omega
  · have e : 2 ^ L * 2 ^ (32 - L) = 4294967296 := by rw [← Nat.pow_add, show L + (32 - L) = 32 by omega]
    have := (Nat.mul_lt_mul_right (Nat.two_pow_pos (32 - L))).2 b3
    omega
theorem Nt.dig_pow_le {m : Nat} (h : 0 < m) : 4294967296 ^ ((Nt.dig m).length - 1) ≤ m := by
  have hl := Nt.dig_last m h
  have e := Nt.val_dig m
  have hlp := Nt.dig_len_pos.2 h
  have hlen : (Nt.dig m).length - 1 < (Nt.dig m).length := by omega
  have e2 : Nt.val (Nt.dig m) = Nt.val ((Nt.dig m).take ((Nt.dig m).length - 1)) + 4294967296 ^ ((Nt.dig m).length - 1) * (Nt.dig m).getD ((Nt.dig m).length - 1) 0 := by
    rw [← Nt.val_take_succ _ _ hlen, Nat.sub_add_cancel (by omega), List.take_length]
  rw [e] at e2
  have h3 : 4294967296 ^ ((Nt.dig m).length - 1) * 1 ≤ 4294967296 ^ ((Nt.dig m).length - 1) * (Nt.dig m).getD ((Nt.dig m).length - 1) 0 := Nat.mul_le_mul_left _ (by omega)
  omega
theorem Nt.dig_lt_pow (m : Nat) : m < 4294967296 ^ (Nt.dig m).length := by
  have := Nt.val_lt _ (Nt.dig_wd m)
  rwa [Nt.val_dig] at this
theorem Nt.dig_len_of {m k : Nat} (h1 : 4294967296 ^ k ≤ m) (h2 : m < 4294967296 ^ (k + 1)) : (Nt.dig m).length = k + 1 := by
  have h0 : 0 < m := Nat.lt_of_lt_of_le (Nat.pow_pos (by decide)) h1
  have l1 := Nt.dig_pow_le h0
  have l2 := Nt.dig_lt_pow m
  have a1 : (Nt.dig m).length - 1 < k + 1 := (Nat.pow_lt_pow_iff_right (by decide : 1 < 4294967296)).1 (Nat.lt_of_le_of_lt l1 h2)
  have a2 : k < (Nt.dig m).length := (Nat.pow_lt_pow_iff_right (by decide : 1 < 4294967296)).1 (Nat.lt_of_le_of_lt h1 l2)
  omega
/-- The divisor, shifted: as many words, the last with its highest bit. -/
theorem Nt.shift_div {n k s : Nat} (hk : (Nt.dig n).length = k + 1) (h1 : 2147483648 ≤ (Nt.dig n).getD k 0 * 2 ^ s) (h2 : (Nt.dig n).getD k 0 * 2 ^ s < 4294967296) :
    (Nt.dig (n * 2 ^ s)).length = k + 1 ∧ 2147483648 * 4294967296 ^ k ≤ n * 2 ^ s ∧ n * 2 ^ s < 4294967296 ^ (k + 1) ∧ 2147483648 ≤ (Nt.dig (n * 2 ^ s)).getD k 0 := by
  have e : n = Nt.val ((Nt.dig n).take k) + 4294967296 ^ k * (Nt.dig n).getD k 0 := by
    rw [← Nt.val_take_succ _ _ (by omega), ← hk, List.take_length, Nt.val_dig]
  have l := Nt.val_lt _ ((Nt.dig_wd n).take k)
  rw [List.length_take, hk, Nat.min_eq_left (by omega)] at l
  generalize (Nt.dig n).getD k 0 = x at *
  generalize Nt.val ((Nt.dig n).take k) = V at *
  have hp := Nat.two_pow_pos s
  have e2 : n * 2 ^ s = V * 2 ^ s + 4294967296 ^ k * (x * 2 ^ s) := by rw [e, Nat.add_mul, Nat.mul_assoc]
  have a1 : 2147483648 * 4294967296 ^ k ≤ n * 2 ^ s := by
    have := Nat.mul_le_mul_left (4294967296 ^ k) h1
    rw [e2]; omega
  have a2 : n * 2 ^ s < 4294967296 ^ (k + 1) := by
    have b1 : V * 2 ^ s < 4294967296 ^ k * 2 ^ s := (Nat.mul_lt_mul_right hp).2 l
    have hd : (x + 1) * 2 ^ s ≤ 4294967296 := by
      -- x 2^s < 2^32 and both sides are multiples of 2^s where s < 32
      rcases Nat.lt_or_ge s 32 with hs | hs
      · have hd : 2 ^ (32 - s) * 2 ^ s = 4294967296 := by rw [← Nat.pow_add, show 32 - s + s = 32 by omega]
        rw [← hd] at h2 ⊢
        exact Nat.mul_le_mul_right _ (Nat.lt_of_mul_lt_mul_right h2)
      · exfalso
        have : 2 ^ 32 ≤ 2 ^ s := Nat.pow_le_pow_right (by decide) hs
        have hx : 1 ≤ x := by
          rcases Nat.eq_zero_or_pos x with h | h
          · subst h; omega
          · exact h
        have := Nat.mul_le_mul hx this
        omega
    have b2 := Nat.mul_le_mul_left (4294967296 ^ k) hd
    rw [Nat.pow_succ, e2]
    rw [Nat.add_mul, Nat.one_mul, Nat.mul_add] at b2
    omega
  have hpow : 4294967296 ^ k ≤ n * 2 ^ s := by omega
  have hl := Nt.dig_len_of hpow a2
  refine ⟨hl, a1, a2, ?_⟩
  have e3 : n * 2 ^ s = Nt.val ((Nt.dig (n * 2 ^ s)).take k) + 4294967296 ^ k * (Nt.dig (n * 2 ^ s)).getD k 0 := by
    rw [← Nt.val_take_succ _ _ (by omega), ← hl, List.take_length, Nt.val_dig]
  have l3 := Nt.val_lt _ ((Nt.dig_wd (n * 2 ^ s)).take k)
  rw [List.length_take, hl, Nat.min_eq_left (by omega)] at l3
  generalize (Nt.dig (n * 2 ^ s)).getD k 0 = y at *
  rcases Nat.lt_or_ge y 2147483648 with h | h
  · exfalso
    have := Nat.mul_le_mul_left (4294967296 ^ k) h
    rw [Nat.mul_succ] at this
    rw [Nat.mul_comm 2147483648] at a1
    omega
  · exact h
/-- The dividend, shifted, is less than the divisor so many words up. -/
theorem Nt.shift_start {m n s k l : Nat} (hm : m < 4294967296 ^ l) (hs : s < 32) (hd : 2147483648 * 4294967296 ^ k ≤ n * 2 ^ s) (hkl : k ≤ l) : m * 2 ^ s < n * 2 ^ s * 4294967296 ^ (l - k) := by
  have h1 : 2 ^ s ≤ 2147483648 := Nat.pow_le_pow_right (n := 2) (j := 31) (by decide) (by omega)
  have h2 : m * 2 ^ s < 4294967296 ^ l * 2 ^ s := (Nat.mul_lt_mul_right (Nat.two_pow_pos s)).2 hm
  have h3 : 4294967296 ^ l * 2 ^ s ≤ 4294967296 ^ l * 2147483648 := Nat.mul_le_mul_left _ h1
  have h4 := Nat.mul_le_mul_right (4294967296 ^ (l - k)) hd
  rw [Nat.mul_assoc, ← Nat.pow_add, show k + (l - k) = l by omega, Nat.mul_comm 2147483648] at h4
  omega
/-- The dividend's row. -/
theorem Nt.shift_row {m s l : Nat} (hm : m < 4294967296 ^ l) (hs : s < 32) (hl : (Nt.dig m).length = l) (h0 : 0 < m) : l ≤ (Nt.dig (m * 2 ^ s)).length ∧ (Nt.dig (m * 2 ^ s)).length ≤ l + 1 ∧ (((Nt.dig (m * 2 ^ s)) ++ [0, 0]).take (l + 1)).length = l + 1 ∧ Nt.val (((Nt.dig (m * 2 ^ s)) ++ [0, 0]).take (l + 1)) = m * 2 ^ s ∧ Nt.Wd (((Nt.dig (m * 2 ^ s)) ++ [0, 0]).take (l + 1)) := by
  have hp := Nat.two_pow_pos s
  have a1 : 4294967296 ^ (l - 1) ≤ m * 2 ^ s := by
    have := Nt.dig_pow_le h0
    rw [hl] at this
    exact Nat.le_trans this (Nat.le_mul_of_pos_right _ hp)
  have a2 : m * 2 ^ s < 4294967296 ^ (l + 1) := by
    have h1 : 2 ^ s ≤ 4294967296 := Nat.pow_le_pow_right (n := 2) (j := 32) (by decide) (by omega)
    have h2 := Nat.mul_le_mul_left (4294967296 ^ l) h1
    have h3 : m * 2 ^ s < 4294967296 ^ l * 2 ^ s := (Nat.mul_lt_mul_right hp).2 hm
    rw [Nat.pow_succ]
    omega
  have hlp : 0 < l := hl ▸ Nt.dig_len_pos.2 h0
  have b1 : l - 1 < (Nt.dig (m * 2 ^ s)).length := (Nat.pow_lt_pow_iff_right (by decide : 1 < 4294967296)).1 (Nat.lt_of_le_of_lt a1 (Nt.dig_lt_pow _))
  have b2 : (Nt.dig (m * 2 ^ s)).length - 1 < l + 1 := (Nat.pow_lt_pow_iff_right (by decide : 1 < 4294967296)).1 (Nat.lt_of_le_of_lt (Nt.dig_pow_le (Nat.mul_pos h0 hp)) a2)
  have hwd : Nt.Wd (Nt.dig (m * 2 ^ s) ++ [0, 0]) := fun x hx => by
    rcases List.mem_append.1 hx with h | h
    · exact Nt.dig_wd _ x h
    · simp at h; subst h; decide
  refine ⟨by omega, by omega, by rw [List.length_take, List.length_append]; simp; omega, ?_, hwd.take _⟩
  have e := Nt.val_append ((Nt.dig (m * 2 ^ s) ++ [0, 0]).take (l + 1)) ((Nt.dig (m * 2 ^ s) ++ [0, 0]).drop (l + 1))
  rw [List.take_append_drop, Nt.val_append, Nt.val_dig] at e
  have z1 : Nt.val [0, 0] = 0 := rfl
  have z2 : Nt.val ((Nt.dig (m * 2 ^ s) ++ [0, 0]).drop (l + 1)) = 0 := by
    apply Nt.val_zeros
    intro x hx
    rw [List.drop_append, List.drop_eq_nil_of_le (by omega), List.nil_append] at hx
    have := List.mem_of_mem_drop hx
    simp at this
    exact this
  rw [z1, z2] at e
  omega
end Go.Proofs.YtdjllmogejkimaaGreatDoor
