/-
  The long division of numbers: how a word of the quotient is guessed, and what the guess is worth; shifts of rows of words. Plain law.
-/
import Derived.Test.YtaepjlghdjcdnaaDoorBa
namespace Go.Proofs.YtaepjlghdjcdnaaDoor
set_option linter.unusedVariables false

/-- While the guess is refused it is too great. -/
theorem Nt.guess_dec {U D v1 v2 lo dlo t rest u2 P : Nat} (hD : D = (v1 * 4294967296 + v2) * P + dlo) (hU : U = ((t * v1 + rest) * 4294967296 + u2) * P + lo) (hlo : lo < P) (h : rest * 4294967296 + u2 < t * v2) : U < t * D := by
  have h1 : (t * v1 + rest) * 4294967296 + u2 + 1 ≤ t * (v1 * 4294967296 + v2) := by
    rw [Nat.mul_add, Nat.add_mul, ← Nat.mul_assoc]
    omega
  have h2 : ((t * v1 + rest) * 4294967296 + u2 + 1) * P ≤ t * (v1 * 4294967296 + v2) * P := Nat.mul_le_mul_right _ h1
  have h3 : t * D = t * (v1 * 4294967296 + v2) * P + t * dlo := by rw [hD, Nat.mul_add, Nat.mul_assoc]
  rw [Nat.add_mul, Nat.one_mul] at h2
  have h4 := Nat.zero_le (t * dlo)
  omega
/-- Where it is not refused it is too great by one at most. -/
theorem Nt.guess_ok {U D v1 v2 lo dlo t rest u2 P : Nat} (hD : D = (v1 * 4294967296 + v2) * P + dlo) (hdlo : dlo < P) (hv1 : 0 < v1) (hU : U = ((t * v1 + rest) * 4294967296 + u2) * P + lo) (ht : t ≤ 4294967295) (h : t * v2 ≤ rest * 4294967296 + u2) : t * D < U + D := by
  have h1 : t * (v1 * 4294967296 + v2) ≤ (t * v1 + rest) * 4294967296 + u2 := by
    rw [Nat.mul_add, Nat.add_mul, ← Nat.mul_assoc]
    omega
  have h2 := Nat.mul_le_mul_right P h1
  have h3 : t * D = t * (v1 * 4294967296 + v2) * P + t * dlo := by rw [hD, Nat.mul_add, Nat.mul_assoc]
  have h4 : t * dlo ≤ 4294967295 * P := Nat.mul_le_mul ht (by omega)
  have h5 : 4294967296 * P ≤ (v1 * 4294967296 + v2) * P := Nat.mul_le_mul_right _ (by omega)
  have hP : 0 < P := by omega
  omega
/-- The guess stays one word where the rest is more than one word. -/
theorem Nt.guess_word {v1 t rest u0 u1 : Nat} (ht : t * v1 + rest = u0 * 4294967296 + u1) (h0 : u0 ≤ v1) (h1 : u1 < 4294967296) (hr : 4294967296 ≤ rest) : t ≤ 4294967295 := by
  rcases Nat.lt_or_ge t 4294967296 with h | h
  · omega
  · have := Nat.mul_le_mul_right v1 h
    have := Nat.mul_le_mul_right 4294967296 h0
    omega
/-- The first guess. -/
theorem Nt.guess_first {v1 u0 u1 : Nat} (hv1 : 2147483648 ≤ v1) (h0 : u0 ≤ v1) (h1 : u1 < 4294967296) : (u0 * 4294967296 + u1) / v1 ≤ 4294967297 := by
  have h : u0 * 4294967296 + u1 < 4294967298 * v1 := by omega
  have := (Nat.div_lt_iff_lt_mul (by omega : 0 < v1)).2 h
  omega
/-- The first guess is not too small. -/
theorem Nt.guess_start {U D v1 r1 u2 P P2 dlo lo q : Nat} (hD : D = v1 * P2 + dlo) (hU : U = r1 * P2 + lo) (hlo : lo < P2) (hq : q * D ≤ U) (hv1 : 0 < v1) : q ≤ r1 / v1 := by
  rw [Nat.le_div_iff_mul_le hv1]
  rcases Nat.lt_or_ge r1 (q * v1) with h | h
  · exfalso
    have h1 : (r1 + 1) * P2 ≤ q * v1 * P2 := Nat.mul_le_mul_right _ h
    have h2 : q * D = q * v1 * P2 + q * dlo := by rw [hD, Nat.mul_add, Nat.mul_assoc]
    have := Nat.zero_le (q * dlo)
    rw [Nat.add_mul, Nat.one_mul] at h1
    omega
  · exact h
/-- One word of the difference of a row and t times another: 'c' is carried, 'o' is borrowed. -/
theorem Nt.sub_word {u d t c o : Nat} (hu : u < 4294967296) (hd : d < 4294967296) (ht : t < 4294967296) (hc : c < 4294967296) (ho : o ≤ 1) :
    c + t * d < 18446744073709551616 ∧ (c + t * d) / 4294967296 < 4294967296 ∧
    (∃ x o' : Nat, o' ≤ 1 ∧ x < 4294967296 ∧ ((u : Int) - ((c + t * d) % 4294967296 : Nat) - (o : Int)) % 18446744073709551616 / 9223372036854775808 = (o' : Int) ∧ ((u : Int) - ((c + t * d) % 4294967296 : Nat) - (o : Int)) % 18446744073709551616 % 4294967296 = (x : Int) ∧ x + (c + t * d) % 4294967296 + o = u + 4294967296 * o') := by
  have h : t * d ≤ 4294967295 * 4294967295 := Nat.mul_le_mul (by omega) (by omega)
  generalize t * d = p at *
  refine ⟨by omega, by omega, ?_⟩
  by_cases hb : (c + p) % 4294967296 + o ≤ u
  · exact ⟨u - (c + p) % 4294967296 - o, 0, by omega, by omega, by omega, by omega, by omega⟩
  · exact ⟨u + 4294967296 - (c + p) % 4294967296 - o, 1, by omega, by omega, by omega, by omega, by omega⟩
theorem Nt.val_seg (ws : List Nat) (j k : Nat) : Nt.val ((ws.drop j).take (k + 1)) = Nt.val ((ws.drop j).take k) + 4294967296 ^ k * ws.getD (j + k) 0 := by
  rw [Nt.val_take_step, List.getD_eq_getElem?_getD, List.getElem?_drop, ← List.getD_eq_getElem?_getD]
theorem Nt.seg_set (ws : List Nat) (j k x : Nat) : (((ws.set (j + k) x).drop j).take k) = ((ws.drop j).take k) := by
  rw [List.drop_set, if_neg (by omega), show j + k - j = k by omega, Nt.set_take _ _ _ _ (Nat.le_refl _)]
theorem Nt.val_seg_set (ws : List Nat) (j k x : Nat) (h : j + k < ws.length) : Nt.val (((ws.set (j + k) x).drop j).take (k + 1)) = Nt.val ((ws.drop j).take k) + 4294967296 ^ k * x := by
  rw [Nt.val_seg, Nt.seg_set, Nt.getD_set_self _ _ _ h]
/-- A row, in three pieces. -/
theorem Nt.val_split (ws : List Nat) (j n : Nat) (h : j + n ≤ ws.length) : Nt.val ws = Nt.val (ws.take j) + 4294967296 ^ j * (Nt.val ((ws.drop j).take n) + 4294967296 ^ n * Nt.val (ws.drop (j + n))) := by
  conv => lhs; rw [← List.take_append_drop j ws, ← List.take_append_drop n (ws.drop j)]
  rw [Nt.val_append, Nt.val_append, List.drop_drop, List.length_take, List.length_take, List.length_drop, Nat.min_eq_left (by omega), Nat.min_eq_left (by omega)]
/-- One step of the difference. -/
theorem Nt.sub_step {u0 us d : List Nat} {j k t c o x o' : Nat} (h : Nt.val ((u0.drop j).take k) + 4294967296 ^ k * (c + o) = Nt.val ((us.drop j).take k) + t * Nt.val (d.take k)) (hx : x + (c + t * d.getD k 0) % 4294967296 + o = u0.getD (j + k) 0 + 4294967296 * o') (hk : j + k < us.length) :
    Nt.val ((u0.drop j).take (k + 1)) + 4294967296 ^ (k + 1) * ((c + t * d.getD k 0) / 4294967296 + o') = Nt.val (((us.set (j + k) x).drop j).take (k + 1)) + t * Nt.val (d.take (k + 1)) := by
  rw [Nt.val_seg_set _ _ _ _ hk, Nt.val_seg, Nt.val_take_step d, Nat.pow_succ]
  have e := Nat.mod_add_div (c + t * d.getD k 0) 4294967296
  generalize u0.getD (j + k) 0 = uu at *
  generalize 4294967296 ^ k = P at *
  have e1 : t * (Nt.val (d.take k) + P * d.getD k 0) = t * Nt.val (d.take k) + P * (t * d.getD k 0) := by
    rw [Nat.mul_add, Nat.mul_left_comm]
  rw [e1]
  generalize t * d.getD k 0 = p at *
  generalize (c + p) % 4294967296 = m at *
  generalize (c + p) / 4294967296 = q at *
  have e2 : P * x + P * m + P * o = P * uu + P * 4294967296 * o' := by
    rw [Nat.mul_assoc, ← Nat.mul_add, ← Nat.mul_add, ← Nat.mul_add, hx]
  have e3 : P * m + P * 4294967296 * q = P * c + P * p := by
    rw [Nat.mul_assoc, ← Nat.mul_add, e, Nat.mul_add]
  have e4 : P * 4294967296 * (q + o') = P * 4294967296 * q + P * 4294967296 * o' := Nat.mul_add _ _ _
  have e5 : P * (c + o) = P * c + P * o := Nat.mul_add _ _ _
  omega
/-- One step of adding back. -/
theorem Nt.back_step {u0 us d : List Nat} {j k c : Nat} (h : Nt.val ((us.drop j).take k) + 4294967296 ^ k * c = Nt.val ((u0.drop j).take k) + Nt.val (d.take k)) (hk : j + k < us.length) :
    Nt.val (((us.set (j + k) ((u0.getD (j + k) 0 + d.getD k 0 + c) % 4294967296)).drop j).take (k + 1)) + 4294967296 ^ (k + 1) * ((u0.getD (j + k) 0 + d.getD k 0 + c) / 4294967296) = Nt.val ((u0.drop j).take (k + 1)) + Nt.val (d.take (k + 1)) := by
  rw [Nt.val_seg_set _ _ _ _ hk, Nt.val_seg, Nt.val_take_step d, Nat.pow_succ]
  have e := Nat.mod_add_div (u0.getD (j + k) 0 + d.getD k 0 + c) 4294967296
  generalize u0.getD (j + k) 0 = x at *
  generalize d.getD k 0 = y at *
  generalize (x + y + c) % 4294967296 = m at *
  generalize (x + y + c) / 4294967296 = q at *
  generalize 4294967296 ^ k = P at *
  have e2 : P * m + P * 4294967296 * q = P * x + P * y + P * c := by
    rw [Nat.mul_assoc, ← Nat.mul_add, e, Nat.mul_add, Nat.mul_add]
  omega
/-- A shift upwards, one word. -/
theorem Nt.up_step {a ws : List Nat} {i s c : Nat} (hs : s < 32) (hx : a.getD i 0 < 4294967296) (h : Nt.val (ws.take i) + 4294967296 ^ i * c = Nt.val (a.take i) * 2 ^ s) (hc : c < 2 ^ s) (hi : i < ws.length) :
    c + a.getD i 0 * 2 ^ s % 4294967296 < 4294967296 ∧ a.getD i 0 * 2 ^ s / 4294967296 < 2 ^ s ∧
    Nt.val ((ws.set i (c + a.getD i 0 * 2 ^ s % 4294967296)).take (i + 1)) + 4294967296 ^ (i + 1) * (a.getD i 0 * 2 ^ s / 4294967296) = Nt.val (a.take (i + 1)) * 2 ^ s := by
  rw [Nt.val_set_take _ _ _ hi, Nt.val_take_step a]
  generalize a.getD i 0 = x at *
  have hd : 2 ^ s * 2 ^ (32 - s) = 4294967296 := by rw [← Nat.pow_add, show s + (32 - s) = 32 by omega]
  have hp := Nat.two_pow_pos s
  have hm : x * 2 ^ s % 4294967296 = (x % 2 ^ (32 - s)) * 2 ^ s := by
    rw [← hd, Nat.mul_comm x, Nat.mul_mod_mul_left, Nat.mul_comm]
  have h1 : x % 2 ^ (32 - s) + 1 ≤ 2 ^ (32 - s) := Nat.mod_lt _ (Nat.two_pow_pos _)
  have h2 : (x % 2 ^ (32 - s) + 1) * 2 ^ s ≤ 2 ^ (32 - s) * 2 ^ s := Nat.mul_le_mul_right _ h1
  rw [Nat.add_mul, Nat.one_mul, Nat.mul_comm (2 ^ (32 - s)), hd] at h2
  refine ⟨by omega, ?_, ?_⟩
  · rw [Nat.div_lt_iff_lt_mul (by decide), Nat.mul_comm]
    exact (Nat.mul_lt_mul_left hp).2 hx
  · have e := Nat.mod_add_div (x * 2 ^ s) 4294967296
    rw [Nat.add_mul, Nat.pow_succ, Nat.mul_assoc (4294967296 ^ i) x]
    generalize x * 2 ^ s = y at *
    generalize y % 4294967296 = m at *
    generalize y / 4294967296 = q at *
    generalize 4294967296 ^ i = P at *
    have e2 : P * m + P * 4294967296 * q = P * y := by rw [Nat.mul_assoc, ← Nat.mul_add, e]
    rw [Nat.mul_add]
    omega
end Go.Proofs.YtaepjlghdjcdnaaDoor
