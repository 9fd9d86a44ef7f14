/-
  exact.DivMod of a whole number by a small one: what is left.
-/
import Derived.Test.YtikmebkfdpbidaaGreatDoorTxDivModT
import Derived.Test.YtikmebkfdpbidaaGreatDoorTf
namespace Go.Proofs.YtikmebkfdpbidaaGreatDoor
open Go.RowKit
set_option linter.unusedVariables false
set_option linter.unusedSimpArgs false

theorem Tx.dig_len_lt {n k : Nat} (h : n < 4294967296 ^ k) : (Nt.dig n).length ≤ k := by
  rcases Nat.eq_zero_or_pos n with h0 | h0
  · rw [h0, Nt.dig_zero]; exact Nat.zero_le _
  · have h1 := Nt.dig_pow_le h0
    have h2 := Nt.dig_len_pos.2 h0
    have h3 := (Nat.pow_lt_pow_iff_right (by decide : 1 < 4294967296)).1 (Nat.lt_of_le_of_lt h1 h)
    omega
theorem Tx.dig_lt {n k : Nat} (h : (Nt.dig n).length ≤ k) : n < 4294967296 ^ k := Nat.lt_of_lt_of_le (Nt.dig_lt_pow n) (Nat.pow_le_pow_right (by decide) h)
theorem Tx.len_mul {t d k : Nat} (hl : (Nt.dig t).length ≤ k) (hd : d + 1 ≤ 4294967296) : (Nt.dig (t + t * d)).length ≤ k + 1 := Tx.dig_len_lt (by
  have e : t + t * d = t * (d + 1) := by rw [Nat.mul_add, Nat.mul_one, Nat.add_comm]
  rw [e, Nat.pow_succ]
  exact Nat.lt_of_le_of_lt (Nat.mul_le_mul_left t hd) (Nat.mul_lt_mul_of_pos_right (Tx.dig_lt hl) (by decide)))
theorem Tx.len_succ {t k : Nat} (hl : (Nt.dig t).length ≤ k) : (Nt.dig (t + 1)).length ≤ k + 1 := Tx.dig_len_lt (Nat.lt_of_le_of_lt (Tx.dig_lt hl) (Nat.pow_lt_pow_right (by decide) (Nat.lt_succ_self k)))
theorem Tx.ratS_one (s : Bool) (t : Nat) : Rt.ratS s t 1 = (s && decide (0 < t), t, 1) := by
  unfold Rt.ratS
  rw [Nat.gcd_one_right, Nat.div_one]
/-- What is left of a whole number, from 0 upwards. -/
def Tx.rem (s : Bool) (t d : Nat) : Nat := if s = true then (d - t % d) % d else t % d
def Tx.quo (s : Bool) (t d : Nat) : Nat := if s = true ∧ 0 < t % d then t / d + 1 else t / d
theorem Tx.rem_lt {s : Bool} {t d : Nat} (hd : 0 < d) : Tx.rem s t d < d := by
  unfold Tx.rem
  split <;> exact Nat.mod_lt _ hd
theorem Tx.quo_le {s : Bool} {t d : Nat} (hd : 2 ≤ d) : Tx.quo s t d ≤ t := by
  have h1 : t / d ≤ t / 2 := Nat.div_le_div_left hd (by decide)
  unfold Tx.quo
  split
  · rename_i h
    have : 0 < t := by
      rcases Nat.eq_zero_or_pos t with h0 | h0
      · rw [h0, Nat.zero_mod] at h; omega
      · exact h0
    omega
  · omega
theorem Tx.fl_quo {s : Bool} {t d : Nat} (hd : 0 < d) : Tx.fl (s && decide (0 < t / Nat.gcd t d)) (t / Nat.gcd t d) (d / Nat.gcd t d) = Tx.quo s t d := by
  have hg : 0 < Nat.gcd t d := Nat.gcd_pos_of_pos_right t hd
  obtain ⟨t', ht⟩ := Nat.gcd_dvd_left t d
  obtain ⟨d', hd'⟩ := Nat.gcd_dvd_right t d
  generalize Nat.gcd t d = g at *
  subst ht hd'
  rw [Nat.mul_div_cancel_left _ hg, Nat.mul_div_cancel_left _ hg]
  unfold Tx.fl Tx.quo
  rw [Nat.mul_div_mul_left _ _ hg, Nat.mul_mod_mul_left]
  have hpos : 0 < g * (t' % d') ↔ 0 < t' % d' := by
    constructor
    · intro h
      exact Nat.pos_of_mul_pos_left h |> fun _ => by
        rcases Nat.eq_zero_or_pos (t' % d') with h0 | h0
        · rw [h0, Nat.mul_zero] at h; omega
        · exact h0
    · exact fun h => Nat.mul_pos hg h
  by_cases hc : s = true ∧ 0 < t' % d'
  · have ht0 : 0 < t' := by
      rcases Nat.eq_zero_or_pos t' with h0 | h0
      · rw [h0, Nat.zero_mod] at hc; omega
      · exact h0
    rw [if_pos ⟨by rw [hc.1, decide_eq_true ht0]; rfl, hc.2⟩, if_pos ⟨hc.1, hpos.2 hc.2⟩]
  · rw [if_neg, if_neg]
    · rintro ⟨h1, h2⟩
      exact hc ⟨h1, hpos.1 h2⟩
    · rintro ⟨h1, h2⟩
      refine hc ⟨?_, h2⟩
      cases s
      · exact absurd h1 (by simp)
      · rfl
theorem Tx.rem_law {s : Bool} {t d : Nat} (hd : 0 < d) (hs : t = 0 → s = false) :
    Rt.sumS s t 1 (!((s && decide (0 < t / Nat.gcd t d)) && decide (0 < Tx.quo s t d) && decide (0 < Tx.quo s t d * d)) && decide (0 < Tx.quo s t d * d)) (Tx.quo s t d * d) 1 = (false, Tx.rem s t d, 1) := by
  have hdm := Nat.div_add_mod t d
  have hml := Nat.mod_lt t hd
  have hmul : t / d * d = d * (t / d) := Nat.mul_comm _ _
  have hmul2 : (t / d + 1) * d = d * (t / d) + d := by rw [Nat.add_mul, Nat.one_mul, Nat.mul_comm]
  cases s
  · have hq : Tx.quo false t d = t / d := by unfold Tx.quo; rw [if_neg (by simp)]
    rw [hq]
    simp only [Bool.false_and, Bool.not_false, Bool.true_and]
    unfold Rt.sumS Tx.rem
    rw [if_neg (by simp : ¬ (false = true))]
    by_cases h0 : 0 < t / d * d
    · rw [decide_eq_true h0, if_neg (by simp), if_pos (by omega), Nat.mul_one, Nat.mul_one, Nat.mul_one, Tx.ratS_one]
      simp
      omega
    · rw [decide_eq_false h0, if_pos rfl, Nat.mul_one, Nat.mul_one, Nat.mul_one, Tx.ratS_one]
      simp
      omega
  · have ht : 0 < t := by
      rcases Nat.eq_zero_or_pos t with h | h
      · exact absurd (hs h) (by simp)
      · exact h
    have hg : 0 < t / Nat.gcd t d := Nat.div_pos (Nat.gcd_le_left d ht) (Nat.gcd_pos_of_pos_left d ht)
    have hF : 0 < Tx.quo true t d := by
      unfold Tx.quo
      split
      · exact Nat.succ_pos _
      · rename_i h
        have h0 : t % d = 0 := by
          rcases Nat.eq_zero_or_pos (t % d) with h1 | h1
          · exact h1
          · exact absurd ⟨rfl, h1⟩ h
        rcases Nat.eq_zero_or_pos (t / d) with h1 | h1
        · rw [h1, h0] at hdm; omega
        · exact h1
    have hFd : 0 < Tx.quo true t d * d := Nat.mul_pos hF hd
    rw [decide_eq_true hg, decide_eq_true hF, decide_eq_true hFd]
    simp only [Bool.and_self, Bool.not_true, Bool.false_and]
    unfold Rt.sumS Tx.rem
    rw [if_neg (by simp), if_pos rfl]
    by_cases hr : 0 < t % d
    · have hq : Tx.quo true t d = t / d + 1 := by unfold Tx.quo; rw [if_pos ⟨rfl, hr⟩]
      rw [hq, if_neg (by omega), Nat.mul_one, Nat.mul_one, Nat.mul_one, Tx.ratS_one, Nat.mod_eq_of_lt (by omega : d - t % d < d)]
      simp
      omega
    · have hq : Tx.quo true t d = t / d := by unfold Tx.quo; rw [if_neg (by omega)]
      have h0 : t % d = 0 := by omega
      rw [hq, if_pos (by omega), Nat.mul_one, Nat.mul_one, Nat.mul_one, Tx.ratS_one, h0, Nat.sub_zero, Nat.mod_self]
      simp
      omega
theorem Tx.DivMod_whole (s si sj : Bool) (t d bi bj : Nat) (v v2 : Value) (w : World) (h : Rt.Q w v s t 1 si 0 bi) (h2 : Rt.Q w v2 false d 1 sj 0 bj) (K1 : Rt.SoundAt w v) (K2 : Rt.SoundAt w v2) (hd : 2 ≤ d) (hd2 : d < 4294967295) (hs : t = 0 → s = false) (hl : (Nt.dig t).length ≤ 512) :
    Calls Tryz.prog 77 #[v, v2] w fun e w' => ∃ q r sq, e = .returned (.tuple #[q, r, .int .i64 0]) ∧ Rt.Q w' q sq (Tx.quo s t d) 1 false 0 1 ∧ Rt.Q w' r false (Tx.rem s t d) 1 false 0 1 ∧ Below w.heap.size w w' := by
  have hd0 : 0 < d := by omega
  have hg : 0 < Nat.gcd t d := Nat.gcd_pos_of_pos_right t hd0
  have hql := Tx.quo_le (s := s) (t := t) hd
  have hqlen : (Nt.dig (Tx.quo s t d)).length ≤ 512 := Nat.le_trans (Nt.dig_len_mono hql) hl
  have hqd : Tx.quo s t d * d ≤ t * d := Nat.mul_le_mul_right d hql
  have hsum : (Nt.dig (t + Tx.quo s t d * d)).length ≤ 513 := Nat.le_trans (Nt.dig_len_mono (Nat.add_le_add_left hqd t)) (Tx.len_mul hl (by omega))
  have hqdl : (Nt.dig (Tx.quo s t d * d)).length ≤ 513 := Nat.le_trans (Nt.dig_len_mono (Nat.le_add_left _ t)) hsum
  have hdl : (Nt.dig d).length ≤ 1 := Nt.dig_len_le (by omega)
  have h1l : (Nt.dig 1).length ≤ 1 := Nt.dig_len_le (by decide)
  have h0l : (Nt.dig 0).length ≤ 1 := Nt.dig_len_le (by decide)
  have ht1 : (Nt.dig (t / Nat.gcd t d + 1)).length ≤ 513 := Tx.len_succ (Nat.le_trans (Nt.dig_len_mono (Nat.div_le_self _ _)) hl)
  have htg : (Nt.dig (t / Nat.gcd t d)).length ≤ 512 := Nat.le_trans (Nt.dig_len_mono (Nat.div_le_self _ _)) hl
  have hdg : (Nt.dig (d / Nat.gcd t d)).length ≤ 1 := Nat.le_trans (Nt.dig_len_mono (Nat.div_le_self _ _)) hdl
  have hdg0 : 0 < d / Nat.gcd t d := Nat.div_pos (Nat.gcd_le_right t hd0) hg
  have hrl : (Nt.dig (Tx.rem s t d)).length ≤ 1 := Nt.dig_len_le (by have := Tx.rem_lt (s := s) (t := t) hd0; omega)
  have hP : Rt.prodS s t 1 false 1 d = (s && decide (0 < t / Nat.gcd t d), t / Nat.gcd t d, d / Nat.gcd t d) := by
    unfold Rt.prodS Rt.ratS
    rw [Nat.mul_one, Nat.one_mul]
    cases s <;> rfl
  obtain ⟨sP, hsP⟩ : ∃ z, z = (s && decide (0 < t / Nat.gcd t d)) := ⟨_, rfl⟩
  have hF := Tx.fl_quo (s := s) (t := t) hd0
  have hR := Tx.rem_law (s := s) (t := t) hd0 hs
  rw [← hsP] at hP hF hR
  have hM : Rt.prodS (sP && decide (0 < Tx.quo s t d)) (Tx.quo s t d) 1 false d 1 = (sP && decide (0 < Tx.quo s t d) && decide (0 < Tx.quo s t d * d), Tx.quo s t d * d, 1) := by
    unfold Rt.prodS
    rw [Nat.mul_one, Tx.ratS_one]
    cases (sP && decide (0 < Tx.quo s t d)) <;> rfl
  refine (Tx.DivMod_at s si sj sP (sP && decide (0 < Tx.quo s t d)) (sP && decide (0 < Tx.quo s t d) && decide (0 < Tx.quo s t d * d)) (!(sP && decide (0 < Tx.quo s t d) && decide (0 < Tx.quo s t d * d)) && decide (0 < Tx.quo s t d * d)) false t d bi bj (t / Nat.gcd t d) (d / Nat.gcd t d) (Tx.quo s t d) (Tx.quo s t d * d) 1 (Tx.quo s t d * d) 1 (Tx.rem s t d) 1 v v2 w h h2 K1 K2 hd0 ?_ ?_ ?_ ?_ ?_ ?_ ?_ ?_).mono ?_
  · intro v v2 w h h2
    have := Rt.product_any s false t 1 1 d v v2 w h h2 (by decide) hd0 ⟨by omega, by omega, by omega, by omega⟩ ⟨by rw [Nat.one_mul]; omega, by rw [Nat.mul_one]; omega⟩
    rwa [hP] at this
  · intro v w h
    have := Tx.floor_any sP _ _ v w h hdg0 ⟨by omega, by omega⟩ (by omega)
    rwa [hF] at this
  · intro v v2 w h h2
    have := Rt.product_any (sP && decide (0 < Tx.quo s t d)) false (Tx.quo s t d) 1 d 1 v v2 w h h2 (by decide) (by decide) ⟨by omega, by omega, by omega, by omega⟩ ⟨by rw [Nat.mul_one]; omega, by omega⟩
    rwa [hM] at this
  · intro v w h
    exact Rt.minus_any _ _ _ v w h
  · intro v v2 w h h2
    have := Rt.sum_any s _ t 1 (Tx.quo s t d * d) 1 v v2 w h h2 (by decide) (by decide) ⟨by omega, by omega, by omega, by omega⟩ ⟨by rw [Nat.mul_one]; omega, by rw [Nat.mul_one, Nat.mul_one]; omega⟩
    rwa [hR] at this
  · intro w
    have h0 : Nt.N w (.slice none 0 0) 0 := by unfold Nt.N; rw [Nt.dig_zero]; exact .inl ⟨rfl, rfl⟩
    have := Rt.whole_any false 0 _ w h0 (by omega)
    simpa using this
  · intro v v2 w h h2
    refine (Rt.fit_ok _ _ _ _ _ _ v v2 w h h2 ⟨hqlen, by omega, by omega, by omega⟩).mono ?_
    rintro e w' ⟨v', h1, h2, _, h4⟩
    exact ⟨v', h1, h2, h4⟩
  · intro v v2 w h h2
    refine (Rt.fit_ok _ _ _ _ _ _ v v2 w h h2 ⟨by omega, by omega, by omega, by omega⟩).mono ?_
    rintro e w' ⟨v', h1, h2, _, h4⟩
    exact ⟨v', h1, h2, h4⟩
  · rintro e w' ⟨q, r, h1, h2, h3, h4⟩
    exact ⟨q, r, _, h1, h2, h3, h4⟩
end Go.Proofs.YtikmebkfdpbidaaGreatDoor
