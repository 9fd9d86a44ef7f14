/-
  The reference's Down and odd.
  The reference's odd: a number without its factors of two.
  The greatest common divisor by halves and differences, in plain Lean.
  nat.Less of numbers.
  The reference's Less.
  The reference's Up.
  nat.Order of numbers.
  The reference's Order of numbers.
-/
import Derived.Deep.AppendLies
import Derived.BigQuiet
import Derived.Test.YtikmebkfdpbidaaGreatDoorWa
namespace Go.Proofs.YtikmebkfdpbidaaGreatDoor
open Go.RowKit
set_option linter.unusedVariables false
set_option linter.unusedSimpArgs false

theorem Rn.own_slice {w : World} {B sz : Nat} {t : TypeId} {v : Value} {n : Nat} {xs : List Value} (h : w.ownsRow B t sz v n xs) : ∃ a c, v = .slice a n c := by
  rcases h.2 with ⟨rfl, rfl⟩ | ⟨g, cap, cur, hv, _⟩
  · exact ⟨_, _, rfl⟩
  · exact ⟨_, _, hv⟩
theorem Rn.own_below {w w' : World} {B B2 sz : Nat} {t : TypeId} {v : Value} {n : Nat} {xs : List Value} (h : w.ownsRow B t sz v n xs) (hb : Below B2 w w') (hB : w.heap.size ≤ B2) : w'.ownsRow B t sz v n xs := by
  refine ⟨h.1, ?_⟩
  rcases h.2 with hv | ⟨g, cap, cur, hv, hB', hg, rest⟩
  · exact .inl hv
  · have hlt := (Array.getElem?_eq_some_iff.1 hg).1
    exact .inr ⟨g, cap, cur, hv, hB', by rw [hb.block g (by omega)]; exact hg, rest⟩
/-- The last m digits of N. -/
def Rn.digs (N m : Nat) : List Nat := (List.range m).map fun j => N / 4294967296 ^ j % 4294967296
theorem Rn.digs_succ (N m : Nat) : Rn.digs N (m + 1) = Rn.digs N m ++ [N / 4294967296 ^ m % 4294967296] := by
  unfold Rn.digs
  rw [List.range_succ, List.map_append]
  rfl
theorem Rn.digs_len (N m : Nat) : (Rn.digs N m).length = m := by simp [Rn.digs]
theorem Rn.digs_wd (N m : Nat) : Nt.Wd (Rn.digs N m) := fun x hx => by
  simp only [Rn.digs, List.mem_map] at hx
  obtain ⟨j, _, rfl⟩ := hx
  exact Nat.mod_lt _ (by decide)
theorem Rn.digs_val (N : Nat) : ∀ m, Nt.val (Rn.digs N m) = N % 4294967296 ^ m
  | 0 => by simp [Rn.digs, Nt.val, Nat.mod_one]
  | m + 1 => by
    rw [Rn.digs_succ, Nt.val_append, Rn.digs_val N m, Rn.digs_len, Nat.pow_succ, Nat.mod_mul]
    simp [Nt.val]
/-- The word that Down makes. -/
theorem Rn.down_word {ws : List Nat} (h : Nt.Wd ws) (n j : Nat) : (ws.getD (n / 32 + j) 0 + 4294967296 * ws.getD (n / 32 + j + 1) 0) / 2 ^ (n % 32) % 4294967296 = Nt.val ws / 2 ^ n / 4294967296 ^ j % 4294967296 := by
  have h1 := Rn.digit (n / 32 + j) ws h
  have h2 := Rn.digit (n / 32 + j + 1) ws h
  rw [Nat.pow_succ, ← Nat.div_div_eq_div_mul] at h2
  have hz : ws.getD (n / 32 + j) 0 + 4294967296 * ws.getD (n / 32 + j + 1) 0 = (Nt.val ws / 4294967296 ^ (n / 32 + j)) % (4294967296 * 4294967296) := by
    rw [← h1, ← h2, Nat.mod_mul]
  have hr : n % 32 < 32 := Nat.mod_lt _ (by decide)
  have e : (4294967296 * 4294967296 : Nat) = 2 ^ (n % 32) * (4294967296 * 2 ^ (32 - n % 32)) := by
    have h3 : 2 ^ (n % 32) * 2 ^ (32 - n % 32) = 4294967296 := by rw [← Nat.pow_add, show n % 32 + (32 - n % 32) = 32 by omega]
    rw [Nat.mul_left_comm, h3]
  rw [hz, e, Nat.mod_mul_right_div_self, Nat.mod_mod_of_dvd _ ⟨_, rfl⟩, Nat.div_div_eq_div_mul, Nat.div_div_eq_div_mul]
  congr 2
  have h4 : 2 ^ n = 4294967296 ^ (n / 32) * 2 ^ (n % 32) := by rw [Rn.b32, ← Nat.pow_add, Nat.div_add_mod]
  rw [h4, Nat.pow_add, Nat.mul_right_comm]
theorem Rn.or64 (x y : Nat) (hx : x < 4294967296) (hy : y < 4294967296) : bits .or .u64 (x : Int) ((y : Int) * 4294967296) = ((x + 4294967296 * y : Nat) : Int) := by
  have h1 : bits .or .u64 (x : Int) ((y : Int) * 4294967296) = bits .or .u64 ((y : Int) * 4294967296) (x : Int) := by
    have hc : ∀ n (a b : BitVec n), a ||| b = b ||| a := fun n a b => BitVec.or_comm a b
    show IntKind.u64.wrap _ = IntKind.u64.wrap _
    dsimp only
    rw [hc]
  rw [h1, Nt.join64 y x hy hx, Nat.add_comm]
set_option maxHeartbeats 2000000 in
set_option maxRecDepth 1000000 in
theorem Rn.Down_any (ws : List Nat) (n : Nat) (v : Value) (w : World) (h : Nt.In w v ws) (hw : Nt.Wd ws) (hl : ws.length ≤ 1000000) (hn : n ≤ 100000000) :
    Calls Tryz.prog 243 #[v, .int .i64 n] w fun e w' => ∃ v', e = .returned v' ∧ Nt.N w' v' (Nt.val ws / 2 ^ n) ∧ Below w.heap.size w w' := by
  obtain ⟨ad, cap, rfl⟩ := h.slice
  have HW := Lib.hid (fun w' (hb : Below w.heap.size w w') i => Rn.word_any ws _ i w' (h.below hb (Nat.le_refl _)) hw)
  have HD := Lib.hid (fun j => Rn.down_word hw n j)
  have HX := Lib.hid (fun k => hw.getD k)
  have HVL := Lib.hid (Nt.val_lt ws hw)
  obtain ⟨i0, hi, hz0, hz1, hz2⟩ := info_parts Nt.infoWord
  clear h hw
  go_enter Tryz.func243, Tryz.ntmps243
  go_wp2_with fail
  go_loopg [5, 6] (ws.length - n / 32) (fun g vo i wr => ∃ m k : Nat, k = n / 32 + m ∧ m ≤ ws.length - n / 32 ∧ ws.length - n / 32 ≤ m + g ∧ i = .int .i64 k ∧ wr.ownsRow w.heap.size 144 1 vo m (Nt.vs (Rn.digs (Nt.val ws / 2 ^ n) m)) ∧ Below w.heap.size w wr)
  case atStart => exact ⟨0, n / 32, rfl, Nat.zero_le _, by omega, by first | rfl | go_num | (simp; try omega), World.ownsRow_made w #[] 0 (Nat.le_refl _) (by decide) rfl, (Below.refl _ _).alloc (Nat.le_refl _) _⟩
  case round =>
    obtain ⟨m, k, hkm, hmg, hmg2, rfl, hown, hb⟩ := hrel
    obtain ⟨wo, hwo⟩ : ∃ z, z = wr := ⟨_, rfl⟩
    subst hwo
    have HO := Lib.hid hown
    have HB := Lib.hid hb
    obtain ⟨oa, oc, rfl⟩ := Rn.own_slice hown
    have HM := Lib.hid (And.intro hkm (And.intro hmg hmg2))
    clear hown hb
    by_cases hlt : k < ws.length
    · have hdw := HD.out m
      rw [← hkm] at hdw
      have K1 := HW.out wo HB.out k
      have hx := HX.out k
      have hy := HX.out (k + 1)
      have hg0 : 0 < gk := by omega
      have hml : m ≤ 1000000 := by omega
      clear hkm hmg hmg2
      have K2 := fun w' hb => HW.out w' hb (k + 1)
      rw [show ((k + 1 : Nat) : Int) = (k : Int) + 1 by omega] at K2
      generalize ws.getD k 0 = x at *
      generalize ws.getD (k + 1) 0 = y at *
      have HK2 := Lib.hid K2
      have hor := Rn.or64 x y hx hy
      have hsh : ((y : Int) * 4294967296) % 18446744073709551616 = (y : Int) * 4294967296 := by omega
      obtain ⟨d, hd⟩ : ∃ d, d = Nt.val ws / 2 ^ n / 4294967296 ^ m % 4294967296 := ⟨_, rfl⟩
      rw [← hd] at hdw
      have hdI : ((x : Int) + 4294967296 * (y : Int)) / 2 ^ (n % 32) % 4294967296 = (d : Int) := by
        rw [← hdw, Int.natCast_emod, Int.natCast_ediv, Int.natCast_pow]
        rfl
      have HDS : Hid (Nt.vs (Rn.digs (Nt.val ws / 2 ^ n) m) ++ [.int .u32 (d : Int)] = Nt.vs (Rn.digs (Nt.val ws / 2 ^ n) (m + 1))) := Lib.hid (by rw [Rn.digs_succ, ← hd]; simp [Nt.vs])
      clear hdw K2 hd
      go_wp2_with fail
      refine K1.mono ?_
      rintro z w2 ⟨rfl, hb2⟩
      have HB2 := Lib.hid (HB.out.trans (hb2.mono HB.out.size))
      have HO2 := Lib.hid (Rn.own_below HO.out hb2 (Nat.le_refl _))
      clear hb2 K1
      go_wp2_with fail
      refine (HK2.out _ HB2.out).mono ?_
      rintro z w3 ⟨rfl, hb3⟩
      have HB3 := Lib.hid (HB2.out.trans (hb3.mono HB2.out.size))
      have HO3 := Lib.hid (Rn.own_below HO2.out hb3 (Nat.le_refl _))
      clear hb3
      go_wp2_with (at_builtin; refine Ls.wpList_append _ rfl _ _ 22 rfl w.heap.size 144 i0 (.int .u32 0) 1 4 Tryz.underlying22 hi hz0 hz1 hz2 rfl (by decide) _ m _ rfl (Rn.own_below HO3.out ((Below.refl _ _).alloc (Nat.le_refl _) _) (Nat.le_refl _)) _ 1 [.int .u32 (d : Int)] rfl (.inr ⟨_, _, rfl, rfl, World.news_of_block (heap_alloc_new _ _)⟩) (by intro u hu; simp at hu; subst hu; rfl) (by simp only [maxLen]; omega) (by omega) (Nat.le_trans HB3.out.size (by simp)) ?_)
      intro v' w' hown hg _
      rw [HDS.out] at hown
      have HON := Lib.hid hown
      have hbA : Below w.heap.size w (w3.alloc (.cells #[.int .u32 (d : Int)] 144)) := HB3.out.alloc HB3.out.size _
      have HBN := Lib.hid (hbA.grown hg hbA.size (fun q hq => (Rn.own_below HO3.out ((Below.refl _ _).alloc (Nat.le_refl _) (.cells #[.int .u32 (d : Int)] 144)) (Nat.le_refl _)).lt q hq |>.1))
      obtain ⟨na, nc, rfl⟩ := Rn.own_slice hown
      clear hown hg hbA
      go_wp2_with fail
      go_roundg (gk - 1)
      case measure => omega
      case rel =>
        obtain ⟨h1, h2, h3⟩ := HM.out
        exact ⟨m + 1, k + 1, by omega, by omega, by omega, by first | rfl | go_num | (simp; try omega), HON.out, HBN.out⟩
    · have hN : Nt.val (Rn.digs (Nt.val ws / 2 ^ n) m) = Nt.val ws / 2 ^ n := by
        rw [Rn.digs_val]
        refine Nat.mod_eq_of_lt (Nat.div_lt_of_lt_mul ?_)
        have h4 : 2 ^ n = 4294967296 ^ (n / 32) * 2 ^ (n % 32) := by rw [Rn.b32, ← Nat.pow_add, Nat.div_add_mod]
        have h5 : 4294967296 ^ ws.length ≤ 4294967296 ^ (n / 32 + m) := Nat.pow_le_pow_right (by decide) (by omega)
        rw [Nat.pow_add] at h5
        have h6 : 4294967296 ^ (n / 32) * 4294967296 ^ m ≤ 2 ^ n * 4294967296 ^ m := Nat.mul_le_mul_right _ (by rw [h4]; exact Nat.le_mul_of_pos_right _ (Nat.two_pow_pos _))
        exact Nat.lt_of_lt_of_le HVL.out (Nat.le_trans h5 h6)
      have KN := Rn.Norm_any (Rn.digs (Nt.val ws / 2 ^ n) m) (.slice oa m oc) wo (Nt.In.of_own (B := w.heap.size) (t := 144) (by rw [Rn.digs_len]; exact HO.out)) (Rn.digs_wd _ _) (by rw [Rn.digs_len]; omega)
      rw [hN] at KN
      have HM2 := Lib.hid hN
      clear hN hkm hmg hmg2
      go_wp2_with fail
      refine KN.mono ?_
      rintro z w8 ⟨v8, rfl, hn8, hb8⟩
      have HN8 := Lib.hid hn8
      have HB8 := Lib.hid (HB.out.trans (hb8.mono HB.out.size))
      clear hn8 hb8
      go_wp2_with fail
      go_ret
      exact ⟨_, rfl, HN8.out, HB8.out⟩
end Go.Proofs.YtikmebkfdpbidaaGreatDoor
namespace Go.Proofs.YtikmebkfdpbidaaGreatDoor
open Go.RowKit
set_option linter.unusedVariables false
set_option linter.unusedSimpArgs false

theorem Rn.two_step {v k : Nat} (h : 2 ^ k ∣ v) (h0 : v / 2 ^ k % 2 = 0) : 2 ^ (k + 1) ∣ v := by
  obtain ⟨c, rfl⟩ := h
  rw [Nat.mul_div_cancel_left _ (Nat.two_pow_pos k)] at h0
  obtain ⟨e, rfl⟩ := Nat.dvd_of_mod_eq_zero h0
  exact ⟨e, by rw [Nat.pow_succ, Nat.mul_assoc]⟩
set_option maxHeartbeats 2000000 in
set_option maxRecDepth 1000000 in
theorem Rn.odd_any (ws : List Nat) (v : Value) (w : World) (h : Nt.In w v ws) (hw : Nt.Wd ws) (hl : ws.length ≤ 1000000) (h0 : 0 < Nt.val ws) :
    Calls Tryz.prog 230 #[v] w fun e w' => ∃ (v' : Value) (t o : Nat), e = .returned v' ∧ Nt.N w' v' o ∧ o % 2 = 1 ∧ Nt.val ws = 2 ^ t * o ∧ Below w.heap.size w w' := by
  obtain ⟨ad, cap, rfl⟩ := h.slice
  have HV : Hid (Nt.val ws < 2 ^ (32 * ws.length)) := Lib.hid (by have := Nt.val_lt ws hw; rw [Rn.b32] at this; exact this)
  have HB := Lib.hid (fun w' (hb : Below w.heap.size w w') k hk => Rn.Bit_any ws _ k w' (h.below hb (Nat.le_refl _)) hw hk)
  have HDW := Lib.hid (fun w' (hb : Below w.heap.size w w') n hn => Rn.Down_any ws n _ w' (h.below hb (Nat.le_refl _)) hw hl hn)
  have HBV := Lib.hid (fun k => Rn.bit_val hw k)
  have H0 := Lib.hid h0
  clear h hw h0
  go_enter Tryz.func230, Tryz.ntmps230
  go_wp2_with fail
  go_loopg [3] (32 * ws.length) (fun g i wr => ∃ k : Nat, i = .int .i64 k ∧ k + g = 32 * ws.length ∧ 2 ^ k ∣ Nt.val ws ∧ Below w.heap.size w wr)
  case atStart => exact ⟨0, by first | rfl | go_num | (simp; try omega), by omega, by simp, Below.refl _ _⟩
  case round =>
    obtain ⟨k, rfl, hk, hdv, hb⟩ := hrel
    obtain ⟨wo, hwo⟩ : ∃ z, z = wr := ⟨_, rfl⟩
    subst hwo
    have HDV := Lib.hid hdv
    have HBW := Lib.hid hb
    have hklt : k < 32 * ws.length := by
      rcases Nat.lt_or_ge k (32 * ws.length) with h1 | h1
      · exact h1
      · have h2 := Nat.le_of_dvd H0.out hdv
        have h3 : 2 ^ (32 * ws.length) ≤ 2 ^ k := Nat.pow_le_pow_right (by decide) h1
        have := HV.out
        omega
    clear hdv hb
    have KB := HB.out wo HBW.out k (by omega)
    rw [HBV.out] at KB
    by_cases hx : Nt.val ws / 2 ^ k % 2 = 0
    · rw [hx] at KB
      have HX := Lib.hid hx
      clear hx
      go_wp2_with fail
      refine KB.mono ?_
      rintro z w2 ⟨rfl, hb2⟩
      have HB2 := Lib.hid (HBW.out.trans (hb2.mono HBW.out.size))
      clear hb2 KB
      go_wp2_with fail
      go_roundg (gk - 1)
      case measure => omega
      case rel => exact ⟨k + 1, by first | rfl | go_num | (simp; try omega), by omega, Rn.two_step HDV.out HX.out, HB2.out⟩
    · have hx1 : Nt.val ws / 2 ^ k % 2 = 1 := by
        have h3 : ∀ z : Nat, ¬ z % 2 = 0 → z % 2 = 1 := by omega
        exact h3 _ hx
      have HX := Lib.hid hx1
      rw [hx1] at KB
      clear hx hx1
      go_wp2_with fail
      refine KB.mono ?_
      rintro z w2 ⟨rfl, hb2⟩
      have HB2 := Lib.hid (HBW.out.trans (hb2.mono HBW.out.size))
      have KD := HDW.out w2 HB2.out k (by omega)
      clear hb2 KB
      go_wp2_with fail
      refine KD.mono ?_
      rintro z w3 ⟨v3, rfl, hn3, hb3⟩
      have HN3 := Lib.hid hn3
      have HB3 := Lib.hid (HB2.out.trans (hb3.mono HB2.out.size))
      clear hn3 hb3 KD
      go_wp2_with fail
      go_ret
      exact ⟨_, k, _, rfl, HN3.out, HX.out, (Nat.mul_div_cancel' HDV.out).symm, HB3.out⟩
end Go.Proofs.YtikmebkfdpbidaaGreatDoor
namespace Go.Proofs.YtikmebkfdpbidaaGreatDoor
open Go.RowKit
set_option linter.unusedVariables false
set_option linter.unusedSimpArgs false

theorem Rn.cop_two {o : Nat} (h : o % 2 = 1) (s : Nat) : Nat.Coprime (2 ^ s) o := by
  refine Nat.Coprime.pow_left s ?_
  unfold Nat.Coprime
  have h1 : Nat.gcd 2 o ∣ 2 := Nat.gcd_dvd_left 2 o
  have h2 : Nat.gcd 2 o ∣ o := Nat.gcd_dvd_right 2 o
  have h3 : Nat.gcd 2 o ≤ 2 := Nat.le_of_dvd (by decide) h1
  rcases (show Nat.gcd 2 o = 0 ∨ Nat.gcd 2 o = 1 ∨ Nat.gcd 2 o = 2 by omega) with h4 | h4 | h4
  · rw [h4] at h1
    have := Nat.eq_zero_of_zero_dvd h1
    omega
  · exact h4
  · rw [h4] at h2
    have := Nat.mod_eq_zero_of_dvd h2
    omega
theorem Rn.gcd_two {o y : Nat} (s : Nat) (hy : y % 2 = 1) : Nat.gcd (2 ^ s * o) y = Nat.gcd o y := by
  have hc := Rn.cop_two hy s
  refine Nat.dvd_antisymm (Nat.dvd_gcd ?_ (Nat.gcd_dvd_right _ _)) (Nat.dvd_gcd (Nat.dvd_mul_left_of_dvd (Nat.gcd_dvd_left _ _) _) (Nat.gcd_dvd_right _ _))
  have h1 : Nat.Coprime (Nat.gcd (2 ^ s * o) y) (2 ^ s) := Nat.Coprime.symm (Nat.Coprime.coprime_dvd_right (Nat.gcd_dvd_right _ _) hc)
  exact Nat.Coprime.dvd_of_dvd_mul_left h1 (Nat.gcd_dvd_left _ _)
theorem Rn.two_le {t t1 o : Nat} (ho : o % 2 = 1) (h : 2 ^ t ∣ 2 ^ t1 * o) : t ≤ t1 := by
  rcases Nat.lt_or_ge t1 t with h1 | h1
  · have h2 : 2 ^ (t1 + 1) ∣ 2 ^ t1 * o := Nat.dvd_trans (Nat.pow_dvd_pow 2 h1) h
    rw [Nat.pow_succ] at h2
    have h3 := Nat.dvd_of_mul_dvd_mul_left (Nat.two_pow_pos t1) h2
    have := Nat.mod_eq_zero_of_dvd h3
    omega
  · exact h1
theorem Rn.gcd_twos {m n t t1 t2 o1 o2 : Nat} (hm : m = 2 ^ t1 * o1) (hn : n = 2 ^ t2 * o2) (h1 : o1 % 2 = 1) (h2 : o2 % 2 = 1) (d1 : 2 ^ t ∣ m) (d2 : 2 ^ t ∣ n) (hx : ¬ (m / 2 ^ t % 2 = 0 ∧ n / 2 ^ t % 2 = 0)) : Nat.gcd m n = 2 ^ t * Nat.gcd o1 o2 := by
  subst hm
  subst hn
  obtain ⟨s1, rfl⟩ := Nat.exists_eq_add_of_le (Rn.two_le h1 d1)
  obtain ⟨s2, rfl⟩ := Nat.exists_eq_add_of_le (Rn.two_le h2 d2)
  rw [Nat.pow_add, Nat.pow_add, Nat.mul_assoc, Nat.mul_assoc] at hx ⊢
  rw [Nat.mul_div_cancel_left _ (Nat.two_pow_pos t), Nat.mul_div_cancel_left _ (Nat.two_pow_pos t)] at hx
  rw [Nat.gcd_mul_left]
  congr 1
  rcases Nat.eq_zero_or_pos s1 with e | e
  · subst e
    rw [Nat.pow_zero, Nat.one_mul, Nat.gcd_comm, Rn.gcd_two s2 h1, Nat.gcd_comm]
  · rcases Nat.eq_zero_or_pos s2 with e2 | e2
    · subst e2
      rw [Nat.pow_zero, Nat.one_mul, Rn.gcd_two s1 h2]
    · exfalso
      refine hx ⟨?_, ?_⟩
      · obtain ⟨s, rfl⟩ : ∃ s, s1 = s + 1 := ⟨s1 - 1, by omega⟩
        rw [Nat.pow_succ, Nat.mul_right_comm, Nat.mul_mod_left]
      · obtain ⟨s, rfl⟩ : ∃ s, s2 = s + 1 := ⟨s2 - 1, by omega⟩
        rw [Nat.pow_succ, Nat.mul_right_comm, Nat.mul_mod_left]
/-- One round of differences. -/
theorem Rn.gcd_less {x y t o : Nat} (hy : y % 2 = 1) (hlt : y ≤ x) (h : x - y = 2 ^ t * o) : Nat.gcd o y = Nat.gcd x y := by
  rw [← Rn.gcd_two t hy, ← h]
  exact Nat.gcd_sub_self_left hlt
theorem Rn.size_one {x s : Nat} (h0 : 0 < x) (h1 : x < 2 ^ s) (h2 : s = 0 ∨ 2 ^ (s - 1) ≤ x) : s = 1 ↔ x = 1 := by
  constructor
  · rintro rfl
    omega
  · rintro rfl
    rcases h2 with rfl | h2
    · simp at h1
    · rcases s with _ | _ | s
      · simp at h1
      · rfl
      · have := Nat.pow_le_pow_right (n := 2) (by decide) (show 1 ≤ s + 1 by omega)
        simp at h2
theorem Rn.dig_le {a b : Nat} (h : a ≤ b) : (Nt.dig a).length ≤ (Nt.dig b).length := by
  rcases Nat.lt_or_ge (Nt.dig b).length (Nt.dig a).length with h1 | h1
  · have := Nt.dig_len_lt h1
    omega
  · exact h1
end Go.Proofs.YtikmebkfdpbidaaGreatDoor
namespace Go.Proofs.YtikmebkfdpbidaaGreatDoor
open Go.RowKit
set_option linter.unusedVariables false
set_option linter.unusedSimpArgs false

theorem Nt.less_end {a b ws : List Nat} {n c : Nat} (hw : Nt.Wd ws) (hl : ws.length = n) (h : Nt.val ws + Nt.val b = Nt.val a + 4294967296 ^ n * c) (hab : Nt.val b ≤ Nt.val a) : Nt.val ws = Nt.val a - Nt.val b := by
  have h1 := Nt.val_lt ws hw
  rw [hl] at h1
  rcases Nat.eq_zero_or_pos c with h0 | h0
  · subst h0; omega
  · have : 4294967296 ^ n * 1 ≤ 4294967296 ^ n * c := Nat.mul_le_mul_left _ h0
    omega
set_option maxHeartbeats 4000000 in
set_option maxRecDepth 1000000 in
theorem Nt.less_ws (a b : List Nat) (v v2 : Value) (w : World) (h : Nt.In w v a) (h2 : Nt.In w v2 b) (ha : Nt.Wd a) (hb : Nt.Wd b) (hl : a.length ≤ 500000) (hll : b.length ≤ a.length) (hab : Nt.val b ≤ Nt.val a) : Calls Tryz.prog 170 #[v, v2] w fun e w' => ∃ v', e = .returned v' ∧ Nt.N w' v' (Nt.val a - Nt.val b) ∧ Below w.heap.size w w' := by
  obtain ⟨ad, cap, rfl⟩ := h.slice
  obtain ⟨ad2, cap2, rfl⟩ := h2.slice
  have H := Lib.hid h
  have H2 := Lib.hid h2
  have HA := Lib.hid ha
  have HB := Lib.hid hb
  have hmk := Nt.make a.length w (by omega)
  clear h h2 ha hb
  obtain ⟨T, hT⟩ : ∃ T, w.heap.size = T := ⟨_, rfl⟩
  obtain ⟨w2, hw2⟩ : ∃ z, w.alloc (.cells (Nt.row (List.replicate a.length 0)) 144) = z := ⟨_, rfl⟩
  have q2 : w2.heap[T]? = some (.cells (Nt.row (List.replicate a.length 0)) 144 (0, 0)) := by rw [← hw2, ← hT]; exact heap_alloc_new w _
  have hb2 : Below w.heap.size w w2 := hw2 ▸ (Below.refl _ _).alloc (Nat.le_refl _) _
  rw [hT, hw2] at hmk
  have HT := Lib.hid hT
  have HB2 := Lib.hid hb2
  have HQ2 := Lib.hid q2
  clear hT hw2 hb2 q2
  go_enter Tryz.func170, Tryz.ntmps170
  go_wp2_with fail
  go_loopw [6, 14] (fun cv i wr => ∃ (k c : Nat) (ws : List Nat), i = .int .i64 k ∧ cv = .int .u32 c ∧ k ≤ a.length ∧ c ≤ 1 ∧ ws.length = a.length ∧ Nt.Wd ws ∧ (∀ j, k ≤ j → ws.getD j 0 = 0) ∧ Nt.val (ws.take k) + Nt.val (b.take k) = Nt.val (a.take k) + 4294967296 ^ k * c ∧ wr.heap[T]? = some (.cells (Nt.row ws) 144 (0, 0)) ∧ Below w.heap.size w wr) (fun _ i _ => a.length - (intOf i).toNat)
  case atStart => exact ⟨0, 0, List.replicate a.length 0, rfl, rfl, Nat.zero_le _, by decide, by simp, Nt.Wd.zeros _, fun j _ => Nt.zeros_getD _ _, by simp [Nt.val], HQ2.out, HB2.out⟩
  case round =>
    obtain ⟨k, c, ws, rfl, rfl, hk, hc1, hwl, hwd, hz, hval, hq, hbw⟩ := hrel
    obtain ⟨wo, hwo⟩ : ∃ z, z = wr := ⟨_, rfl⟩
    subst hwo
    have HZ := Lib.hid hz
    have HWD := Lib.hid hwd
    have HV := Lib.hid hval
    have HQ := Lib.hid hq
    have HBW := Lib.hid hbw
    have HWL := Lib.hid hwl
    clear hz hwd hval hq hbw hwl
    by_cases hlt : k < a.length
    · obtain ⟨b1, o1, rfl, _, hcap1, hbl1, hcell1⟩ := (H.out.below HBW.out (Nat.le_refl _)).at (by omega)
      have c1 := hcell1 k hlt
      have hxb := HA.out.getD k
      have hyb := HB.out.getD k
      have hz0 : ws.getD k 0 = 0 := HZ.out k (Nat.le_refl _)
      have hyb2 : k < b.length → ∃ b2 o2, ad2 = some ⟨b2, o2, none⟩ ∧ wo.cell? ⟨b2, o2 + k, none⟩ = some (.int .u32 (b.getD k 0 : Nat)) := fun h => by
        obtain ⟨b2, o2, e, _, _, _, hcell2⟩ := (H2.out.below HBW.out (Nat.le_refl _)).at (by omega)
        exact ⟨b2, o2, e, hcell2 k h⟩
      have hyb3 : ¬ k < b.length → b.getD k 0 = 0 := fun h => Nt.getD_ge b k (by omega)
      have HY2 := Lib.hid hyb2
      have HY3 := Lib.hid hyb3
      clear hcell1 hyb2 hyb3
      have HX := Lib.hid (And.intro hxb hyb)
      have HSTEP : Hid (∀ d c' : Nat, d + b.getD k 0 + c = a.getD k 0 + 4294967296 * c' → Nt.val ((ws.set k d).take (k + 1)) + Nt.val (b.take (k + 1)) = Nt.val (a.take (k + 1)) + 4294967296 ^ (k + 1) * c') := Lib.hid (fun d c' hd => Nt.less_step HV.out (by have := HWL.out; omega) hxb hyb hc1 hd)
      clear hxb hyb hz0
      generalize a.getD k 0 = x at *
      generalize b.getD k 0 = y at *
      have KA := fun w => Nt.Sub32_any x y c w HX.out.1 HX.out.2 hc1
      have HNX : Hid (∀ s j, k + 1 ≤ j → (ws.set k s).getD j 0 = 0) := Lib.hid (fun s j hj => by rw [Nt.getD_set_ne ws k j s (by omega)]; exact HZ.out j (by omega))
      have HST : Hid (∀ s : Nat, ∃ W, wo.setCell ⟨T, k, none⟩ (.int .u32 (s : Int)) = W ∧ wo.cell? ⟨T, k, none⟩ = some (.int .u32 (ws.getD k 0 : Nat)) ∧ wo.frozen? ⟨T, k, none⟩ = false ∧ W.heap[T]? = some (.cells (Nt.row (ws.set k s)) 144 (0, 0)) ∧ Below w.heap.size w W ∧ W.heap.size = wo.heap.size) := Lib.hid (fun s => Nt.store HQ.out k s (by have := HWL.out; omega) HBW.out (by have := HT.out; omega))
      by_cases hlt2 : k < b.length
      · obtain ⟨b2, o2, rfl, c2⟩ := HY2.out hlt2
        have hlt2I : (k : Int) < (b.length : Int) := by omega
        go_wp2_with fail
        refine (KA _).mono ?_
        rintro z wz ⟨s, c', rfl, hs, hc', hd, hwz⟩
        subst hwz
        obtain ⟨W, hW, e1, e2, hQ9, hB9, hS9⟩ := HST.out s
        have HR := Lib.hid (And.intro hs (And.intro hc' (And.intro (HSTEP.out s c' hd) (And.intro hQ9 hB9))))
        clear hs hd hQ9 hB9
        go_wp2_with fail
        go_roundw
        case rel => exact ⟨k + 1, _, _, by first | rfl | go_num | (simp; try omega), rfl, by omega, HR.out.2.1, by rw [List.length_set]; exact HWL.out, HWD.out.set k s HR.out.1, HNX.out s, HR.out.2.2.1, HR.out.2.2.2.1, HR.out.2.2.2.2⟩
        case measure => simp [intOf]; omega
      · obtain rfl := HY3.out hlt2
        have hlt2I : ¬ (k : Int) < (b.length : Int) := by omega
        go_wp2_with fail
        refine (KA _).mono ?_
        rintro z wz ⟨s, c', rfl, hs, hc', hd, hwz⟩
        subst hwz
        obtain ⟨W, hW, e1, e2, hQ9, hB9, hS9⟩ := HST.out s
        have HR := Lib.hid (And.intro hs (And.intro hc' (And.intro (HSTEP.out s c' hd) (And.intro hQ9 hB9))))
        clear hs hd hQ9 hB9
        go_wp2_with fail
        go_roundw
        case rel => exact ⟨k + 1, _, _, by first | rfl | go_num | (simp; try omega), rfl, by omega, HR.out.2.1, by rw [List.length_set]; exact HWL.out, HWD.out.set k s HR.out.1, HNX.out s, HR.out.2.2.1, HR.out.2.2.2.1, HR.out.2.2.2.2⟩
        case measure => simp [intOf]; omega
    · obtain rfl : k = a.length := by omega
      have hlenw := HWL.out
      have hval : Nt.val ws = Nt.val a - Nt.val b := by
        have h2 := HV.out
        rw [List.take_length, List.take_of_length_le hll, List.take_of_length_le (by omega)] at h2
        exact Nt.less_end HWD.out hlenw h2 hab
      have hin : Nt.In wo (.slice (some ⟨T, 0, none⟩) a.length a.length) ws := by
        have := Nt.In.of_row HQ.out
        rw [hlenw] at this
        exact this
      have KN := Nt.norm_any ws _ wo hin HWD.out (by omega)
      rw [hval] at KN
      have hnlt : decide ((a.length : Int) < (a.length : Int)) = false := decide_eq_false (by omega)
      clear hval hin hlenw
      go_wp2_with fail
      refine KN.mono ?_
      rintro z w8 ⟨v8, rfl, hn8, hb8⟩
      have HN8 := Lib.hid hn8
      have HB8 := Lib.hid (HBW.out.trans (hb8.mono HBW.out.size))
      clear hn8 hb8
      go_wp2_with fail
      go_ret
      exact ⟨_, rfl, HN8.out, HB8.out⟩
end Go.Proofs.YtikmebkfdpbidaaGreatDoor
namespace Go.Proofs.YtikmebkfdpbidaaGreatDoor
open Go.RowKit
set_option linter.unusedVariables false
set_option linter.unusedSimpArgs false

theorem Rn.less_step {vo va vb P c c' d x y : Nat} (h : vo + vb = va + P * c) (hd : d + y + c = x + 4294967296 * c') : (vo + P * d) + (vb + P * y) = (va + P * x) + P * 4294967296 * c' := by
  have h2 := congrArg (P * ·) hd
  simp only [Nat.mul_add, ← Nat.mul_assoc] at h2
  omega
theorem Rn.wd_snoc {ws : List Nat} {d : Nat} (h : Nt.Wd ws) (hd : d < 4294967296) : Nt.Wd (ws ++ [d]) := fun x hx => by
  rcases List.mem_append.1 hx with hx | hx
  · exact h x hx
  · simp at hx; omega
set_option maxHeartbeats 2000000 in
set_option maxRecDepth 1000000 in
theorem Rn.Less_any (a b : List Nat) (v v2 : Value) (w : World) (h : Nt.In w v a) (h2 : Nt.In w v2 b) (ha : Nt.Wd a) (hb : Nt.Wd b) (hl : a.length ≤ 1000000) (hll : b.length ≤ a.length) (hab : Nt.val b ≤ Nt.val a) :
    Calls Tryz.prog 222 #[v, v2] w fun e w' => ∃ v', e = .returned v' ∧ Nt.N w' v' (Nt.val a - Nt.val b) ∧ Below w.heap.size w w' := by
  obtain ⟨ad, cap, rfl⟩ := h.slice
  obtain ⟨ad2, cap2, rfl⟩ := h2.slice
  have HWA := Lib.hid (fun w' (hb : Below w.heap.size w w') i => Rn.word_any a _ i w' (h.below hb (Nat.le_refl _)) ha)
  have HWB := Lib.hid (fun w' (hb' : Below w.heap.size w w') i => Rn.word_any b _ i w' (h2.below hb' (Nat.le_refl _)) hb)
  have HX := Lib.hid (fun k => And.intro (ha.getD k) (hb.getD k))
  have HAB := Lib.hid (And.intro hll hab)
  obtain ⟨i0, hi, hz0, hz1, hz2⟩ := info_parts Nt.infoWord
  clear h h2 ha hb hll hab
  go_enter Tryz.func222, Tryz.ntmps222
  go_wp2_with fail
  go_loopg [5, 6, 7] a.length (fun g vo cv i wr => ∃ (k c : Nat) (ws : List Nat), k + g = a.length ∧ i = .int .i64 k ∧ cv = .int .u64 c ∧ c ≤ 1 ∧ ws.length = k ∧ Nt.Wd ws ∧ Nt.val ws + Nt.val (b.take k) = Nt.val (a.take k) + 4294967296 ^ k * c ∧ wr.ownsRow w.heap.size 144 1 vo k (Nt.vs ws) ∧ Below w.heap.size w wr)
  case atStart => exact ⟨0, 0, [], by omega, rfl, rfl, by decide, rfl, fun x hx => by simp at hx, by simp [Nt.val], World.ownsRow_made w #[] 0 (Nat.le_refl _) (by decide) rfl, (Below.refl _ _).alloc (Nat.le_refl _) _⟩
  case round =>
    obtain ⟨k, c, ws, hkg, rfl, rfl, hc1, hwl, hwd, hval, hown, hbw⟩ := hrel
    obtain ⟨wo, hwo⟩ : ∃ z, z = wr := ⟨_, rfl⟩
    subst hwo
    have HO := Lib.hid hown
    have HB := Lib.hid hbw
    have HST := Lib.hid (And.intro hwl (And.intro hwd hval))
    obtain ⟨oa, oc, rfl⟩ := Rn.own_slice hown
    clear hown hbw hwl hwd hval
    by_cases hlt : k < a.length
    · have K1 := HWA.out wo HB.out k
      have HK2 := Lib.hid (fun w' hb => HWB.out w' hb k)
      obtain ⟨hx, hy⟩ := HX.out k
      have HVT := Lib.hid (And.intro (Nt.val_take_step a k) (Nt.val_take_step b k))
      generalize a.getD k 0 = x at *
      generalize b.getD k 0 = y at *
      go_wp2_with fail
      refine K1.mono ?_
      rintro z w2 ⟨rfl, hb2⟩
      have HB2 := Lib.hid (HB.out.trans (hb2.mono HB.out.size))
      have HO2 := Lib.hid (Rn.own_below HO.out hb2 (Nat.le_refl _))
      clear hb2 K1
      go_wp2_with fail
      refine (HK2.out _ HB2.out).mono ?_
      rintro z w3 ⟨rfl, hb3⟩
      have HB3 := Lib.hid (HB2.out.trans (hb3.mono HB2.out.size))
      have HO3 := Lib.hid (Rn.own_below HO2.out hb3 (Nat.le_refl _))
      clear hb3
      by_cases hlt2 : x < y + c
      · have hl2I : (x : Int) < (y : Int) + (c : Int) := by omega
        obtain ⟨d, hd⟩ : ∃ d, d = x + 4294967296 - (y + c) := ⟨_, rfl⟩
        have hdI : (x : Int) + 4294967296 - ((y : Int) + (c : Int)) = (d : Int) := by omega
        have HD : Hid (d + y + c = x + 4294967296 * 1 ∧ d < 4294967296) := Lib.hid (by omega)
        clear hd
        go_wp2_with (at_builtin; refine Ls.wpList_append _ rfl _ _ 22 rfl w.heap.size 144 i0 (.int .u32 0) 1 4 Tryz.underlying22 hi hz0 hz1 hz2 rfl (by decide) _ k _ rfl (Rn.own_below HO3.out ((Below.refl _ _).alloc (Nat.le_refl _) _) (Nat.le_refl _)) _ 1 [.int .u32 (d : Int)] rfl (.inr ⟨_, _, rfl, rfl, World.news_of_block (heap_alloc_new _ _)⟩) (by intro u hu; simp at hu; subst hu; rfl) (by simp only [maxLen]; omega) (by omega) (Nat.le_trans HB3.out.size (by simp)) ?_)
        intro v' w' hown hg _
        rw [show Nt.vs ws ++ [.int .u32 (d : Int)] = Nt.vs (ws ++ [d]) by simp [Nt.vs]] at hown
        have HON := Lib.hid hown
        have hbA : Below w.heap.size w (w3.alloc (.cells #[.int .u32 (d : Int)] 144)) := HB3.out.alloc HB3.out.size _
        have HBN := Lib.hid (hbA.grown hg hbA.size (fun q hq => (Rn.own_below HO3.out ((Below.refl _ _).alloc (Nat.le_refl _) (.cells #[.int .u32 (d : Int)] 144)) (Nat.le_refl _)).lt q hq |>.1))
        obtain ⟨na, nc, rfl⟩ := Rn.own_slice hown
        clear hown hg hbA
        go_wp2_with fail
        go_roundg (gk - 1)
        case measure => omega
        case rel =>
          obtain ⟨h1, h2, h3⟩ := HST.out
          refine ⟨k + 1, 1, ws ++ [d], by omega, by first | rfl | go_num | (simp; try omega), rfl, by decide, by simp [h1], Rn.wd_snoc h2 HD.out.2, ?_, HON.out, HBN.out⟩
          rw [Nt.val_append, HVT.out.1, HVT.out.2, h1, Nat.pow_succ]
          have := Rn.less_step h3 HD.out.1
          simpa [Nt.val] using this
      · have hl2I : ¬ (x : Int) < (y : Int) + (c : Int) := by omega
        obtain ⟨d, hd⟩ : ∃ d, d = x - (y + c) := ⟨_, rfl⟩
        have hdI : (x : Int) - ((y : Int) + (c : Int)) = (d : Int) := by omega
        have HD : Hid (d + y + c = x + 4294967296 * 0 ∧ d < 4294967296) := Lib.hid (by omega)
        clear hd
        go_wp2_with (at_builtin; refine Ls.wpList_append _ rfl _ _ 22 rfl w.heap.size 144 i0 (.int .u32 0) 1 4 Tryz.underlying22 hi hz0 hz1 hz2 rfl (by decide) _ k _ rfl (Rn.own_below HO3.out ((Below.refl _ _).alloc (Nat.le_refl _) _) (Nat.le_refl _)) _ 1 [.int .u32 (d : Int)] rfl (.inr ⟨_, _, rfl, rfl, World.news_of_block (heap_alloc_new _ _)⟩) (by intro u hu; simp at hu; subst hu; rfl) (by simp only [maxLen]; omega) (by omega) (Nat.le_trans HB3.out.size (by simp)) ?_)
        intro v' w' hown hg _
        rw [show Nt.vs ws ++ [.int .u32 (d : Int)] = Nt.vs (ws ++ [d]) by simp [Nt.vs]] at hown
        have HON := Lib.hid hown
        have hbA : Below w.heap.size w (w3.alloc (.cells #[.int .u32 (d : Int)] 144)) := HB3.out.alloc HB3.out.size _
        have HBN := Lib.hid (hbA.grown hg hbA.size (fun q hq => (Rn.own_below HO3.out ((Below.refl _ _).alloc (Nat.le_refl _) (.cells #[.int .u32 (d : Int)] 144)) (Nat.le_refl _)).lt q hq |>.1))
        obtain ⟨na, nc, rfl⟩ := Rn.own_slice hown
        clear hown hg hbA
        go_wp2_with fail
        go_roundg (gk - 1)
        case measure => omega
        case rel =>
          obtain ⟨h1, h2, h3⟩ := HST.out
          refine ⟨k + 1, 0, ws ++ [d], by omega, by first | rfl | go_num | (simp; try omega), rfl, by decide, by simp [h1], Rn.wd_snoc h2 HD.out.2, ?_, HON.out, HBN.out⟩
          rw [Nt.val_append, HVT.out.1, HVT.out.2, h1, Nat.pow_succ]
          have := Rn.less_step h3 HD.out.1
          simpa [Nt.val] using this
    · have hk : k = a.length := by omega
      subst hk
      obtain ⟨h1, h2, h3⟩ := HST.out
      have hN : Nt.val ws = Nt.val a - Nt.val b := by
        rw [List.take_length, List.take_of_length_le HAB.out.1] at h3
        exact Nt.less_end h2 h1 h3 HAB.out.2
      have KN := Rn.Norm_any ws (.slice oa a.length oc) wo (Nt.In.of_own (B := w.heap.size) (t := 144) (by rw [h1]; exact HO.out)) h2 (by omega)
      rw [hN] at KN
      clear hN h1 h2 h3
      go_wp2_with fail
      refine KN.mono ?_
      rintro z w8 ⟨v8, rfl, hn8, hb8⟩
      have HN8 := Lib.hid hn8
      have HB8 := Lib.hid (HB.out.trans (hb8.mono HB.out.size))
      clear hn8 hb8
      go_wp2_with fail
      go_ret
      exact ⟨_, rfl, HN8.out, HB8.out⟩
end Go.Proofs.YtikmebkfdpbidaaGreatDoor
namespace Go.Proofs.YtikmebkfdpbidaaGreatDoor
open Go.RowKit
set_option linter.unusedVariables false
set_option linter.unusedSimpArgs false

theorem Rn.or_low64 {c m s : Nat} (hs : s < 64) (hc : c < 2 ^ s) (hm : 2 ^ s ∣ m) (h : c + m < 18446744073709551616) : bits .or .u64 (c : Int) (m : Int) = ((c + m : Nat) : Int) := by
  have hk : ∀ n : Int, 0 ≤ n → n < 2 ^ 64 → IntKind.u64.wrap n = n := fun n h0 h1 => by rw [IntKind.wrap_u64]; omega
  rw [(bits_nat .u64 64 (by decide) hk c m (by omega) (by omega)).2]
  obtain ⟨q, rfl⟩ := hm
  rw [Nat.or_comm, Nat.mul_comm, ← Nat.shiftLeft_eq, ← Nat.shiftLeft_add_eq_or_of_lt hc, Nat.add_comm]
theorem Rn.own_zeros (w : World) (q : Nat) (hq : q ≤ 1000000) : (w.alloc (.cells (Nt.row (List.replicate q 0)) 144)).ownsRow w.heap.size 144 1 (.slice (some ⟨w.heap.size, 0, none⟩) q q) q (Nt.vs (List.replicate q 0)) := by
  refine ⟨by simp [Nt.vs], .inr ⟨w.heap.size, q, _, rfl, Nat.le_refl _, heap_alloc_new w _, Nat.le_refl _, by simp only [maxLen]; omega, by simp [Nt.row], ?_⟩⟩
  rw [Nat.mul_one]
  have : (Nt.row (List.replicate q 0)).toList = Nt.vs (List.replicate q 0) := by simp [Nt.row, Nt.vs]
  rw [this]
  exact List.take_of_length_le (by simp [Nt.vs])
set_option maxHeartbeats 2000000 in
set_option maxRecDepth 1000000 in
theorem Rn.Up_any (a : List Nat) (n : Nat) (v : Value) (w : World) (h : Nt.In w v a) (ha : Nt.Wd a) (hl : a.length ≤ 400000) (hn : n ≤ 16000000) :
    Calls Tryz.prog 232 #[v, .int .i64 n] w fun e w' => ∃ v', e = .returned v' ∧ Nt.N w' v' (2 ^ n * Nt.val a) ∧ Below w.heap.size w w' := by
  obtain ⟨ad, cap, rfl⟩ := h.slice
  have HWA := Lib.hid (fun w' (hb : Below w.heap.size w w') i => Rn.word_any a _ i w' (h.below hb (Nat.le_refl _)) ha)
  have HX := Lib.hid (fun k => ha.getD k)
  obtain ⟨i0, hi, hz0, hz1, hz2⟩ := info_parts Nt.infoWord
  have hmk := Nt.make (n / 32) w (by omega)
  rw [show ((n / 32 : Nat) : Int) = (n : Int) / 32 by omega] at hmk
  have hr : n % 32 < 32 := Nat.mod_lt _ (by decide)
  have HP : Hid (2 ^ n = 4294967296 ^ (n / 32) * 2 ^ (n % 32)) := Lib.hid (by rw [Rn.b32, ← Nat.pow_add, Nat.div_add_mod])
  have HW0 := Lib.hid (Rn.own_zeros w (n / 32) (by omega))
  clear h ha
  go_enter Tryz.func232, Tryz.ntmps232
  go_wp2_with fail
  go_loopg [5, 6, 7] (a.length + 1) (fun g vo cv i wr => ∃ (k c : Nat) (ws : List Nat), k + g = a.length + 1 ∧ i = .int .i64 k ∧ cv = .int .u64 c ∧ c < 2 ^ (n % 32) ∧ ws.length = n / 32 + k ∧ Nt.Wd ws ∧ Nt.val ws + 4294967296 ^ (n / 32 + k) * c = 2 ^ n * Nt.val (a.take k) ∧ (k = a.length + 1 → c = 0) ∧ wr.ownsRow w.heap.size 144 1 vo (n / 32 + k) (Nt.vs ws) ∧ Below w.heap.size w wr)
  case atStart => exact ⟨0, 0, List.replicate (n / 32) 0, by omega, rfl, rfl, Nat.two_pow_pos _, by simp, Nt.Wd.zeros _, by simp [Nt.val, Nt.val_replicate], fun _ => rfl, HW0.out, (Below.refl _ _).alloc (Nat.le_refl _) _⟩
  case round =>
    obtain ⟨k, c, ws, hkg, rfl, rfl, hc1, hwl, hwd, hval, hcz, hown, hbw⟩ := hrel
    obtain ⟨wo, hwo⟩ : ∃ z, z = wr := ⟨_, rfl⟩
    subst hwo
    obtain ⟨L, hL⟩ : ∃ z, z = n / 32 + k := ⟨_, rfl⟩
    rw [← hL] at hwl hval hown
    have HO := Lib.hid hown
    have HB := Lib.hid hbw
    have HST := Lib.hid (And.intro hwl (And.intro hwd (And.intro hval (And.intro hcz hL))))
    obtain ⟨oa, oc, rfl⟩ := Rn.own_slice hown
    have hL2 : L ≤ 900001 := by omega
    have HKL := Lib.hid hkg
    clear hown hbw hwl hwd hval hcz hL
    by_cases hlt : k ≤ a.length
    · have K1 := HWA.out wo HB.out k
      have hx := HX.out k
      have HVT := Lib.hid (Nt.val_take_step a k)
      have HXZ : Hid (k = a.length → a.getD k 0 = 0) := Lib.hid (fun e => Nt.getD_ge a k (by omega))
      generalize a.getD k 0 = x at *
      have hp32 : 2 ^ (n % 32) ≤ 2147483648 := by
        have := Nat.pow_le_pow_right (n := 2) (by decide) (show n % 32 ≤ 31 by omega)
        exact this
      have hxp : x * 2 ^ (n % 32) ≤ 4294967295 * 2147483648 := Nat.mul_le_mul (by omega) hp32
      have hor := Rn.or_low64 (s := n % 32) (c := c) (m := x * 2 ^ (n % 32)) (by omega) hc1 ⟨x, Nat.mul_comm _ _⟩ (by omega)
      obtain ⟨P, hP⟩ : ∃ P, P = x * 2 ^ (n % 32) := ⟨_, rfl⟩
      rw [← hP] at hor hxp
      have hPI : (x : Int) * 2 ^ (n % 32) = (P : Int) := by rw [hP, Int.natCast_mul, Int.natCast_pow]; rfl
      have hPm : (P : Int) % 18446744073709551616 = (P : Int) := by omega
      have HPX := Lib.hid hP
      clear hP
      go_wp2_with fail
      refine K1.mono ?_
      rintro z w2 ⟨rfl, hb2⟩
      have HB2 := Lib.hid (HB.out.trans (hb2.mono HB.out.size))
      have HO2 := Lib.hid (Rn.own_below HO.out hb2 (Nat.le_refl _))
      clear hb2 K1
      obtain ⟨d, hd⟩ : ∃ d, d = (c + P) % 4294967296 := ⟨_, rfl⟩
      obtain ⟨c2, hc2⟩ : ∃ z, z = (c + P) / 4294967296 := ⟨_, rfl⟩
      have hdI : ((c : Int) + (P : Int)) % 4294967296 = (d : Int) := by omega
      have hcI : ((c : Int) + (P : Int)) / 4294967296 = (c2 : Int) := by omega
      have HDC := Lib.hid (show d + 4294967296 * c2 = c + P ∧ d < 4294967296 by omega)
      have HC2 : Hid (c2 < 2 ^ (n % 32) ∧ (k = a.length → c2 = 0)) := Lib.hid (by
        refine ⟨?_, fun e => ?_⟩
        · rw [hc2]
          refine Nat.div_lt_of_lt_mul ?_
          have h1 : x * 2 ^ (n % 32) ≤ 4294967295 * 2 ^ (n % 32) := Nat.mul_le_mul_right _ (by omega)
          rw [← HPX.out] at h1
          omega
        · have h1 := HPX.out
          rw [HXZ.out e, Nat.zero_mul] at h1
          rw [hc2, h1]
          omega)
      clear hd hc2
      go_wp2_with (at_builtin; refine Ls.wpList_append _ rfl _ _ 22 rfl w.heap.size 144 i0 (.int .u32 0) 1 4 Tryz.underlying22 hi hz0 hz1 hz2 rfl (by decide) _ L _ rfl (Rn.own_below HO2.out ((Below.refl _ _).alloc (Nat.le_refl _) _) (Nat.le_refl _)) _ 1 [.int .u32 (d : Int)] rfl (.inr ⟨_, _, rfl, rfl, World.news_of_block (heap_alloc_new _ _)⟩) (by intro u hu; simp at hu; subst hu; rfl) (by simp only [maxLen]; omega) (by omega) (Nat.le_trans HB2.out.size (by simp)) ?_)
      intro v' w' hown hg _
      rw [show Nt.vs ws ++ [.int .u32 (d : Int)] = Nt.vs (ws ++ [d]) by simp [Nt.vs]] at hown
      have HON := Lib.hid hown
      have hbA : Below w.heap.size w (w2.alloc (.cells #[.int .u32 (d : Int)] 144)) := HB2.out.alloc HB2.out.size _
      have HBN := Lib.hid (hbA.grown hg hbA.size (fun q hq => (Rn.own_below HO2.out ((Below.refl _ _).alloc (Nat.le_refl _) (.cells #[.int .u32 (d : Int)] 144)) (Nat.le_refl _)).lt q hq |>.1))
      obtain ⟨na, nc, rfl⟩ := Rn.own_slice hown
      clear hown hg hbA
      go_wp2_with fail
      go_roundg (gk - 1)
      case measure => omega
      case rel =>
        obtain ⟨h1, h2, h3, h4, h5⟩ := HST.out
        refine ⟨k + 1, c2, ws ++ [d], by omega, by first | rfl | go_num | (simp; try omega), by first | rfl | simp, HC2.out.1, by simp [h1, h5]; omega, Rn.wd_snoc h2 HDC.out.2, ?_, fun e => HC2.out.2 (by omega), by rw [show n / 32 + (k + 1) = L + 1 by omega]; exact HON.out, HBN.out⟩
        rw [Nt.val_append, HVT.out, h1, show n / 32 + (k + 1) = L + 1 by omega, Nat.mul_add, ← h3, HP.out]
        have e1 : Nt.val [d] = d := by simp [Nt.val]
        have e2 : 4294967296 ^ (n / 32) * 2 ^ (n % 32) * (4294967296 ^ k * x) = 4294967296 ^ L * P := by
          rw [HPX.out, h5, Nat.pow_add]
          simp only [Nat.mul_assoc, Nat.mul_left_comm, Nat.mul_comm]
        rw [e1, e2, Nat.pow_succ]
        have e3 := congrArg (4294967296 ^ L * ·) HDC.out.1
        simp only [Nat.mul_add, ← Nat.mul_assoc] at e3
        omega
    · have hk : k = a.length + 1 := by omega
      obtain ⟨h1, h2, h3, h4, h5⟩ := HST.out
      have hN : Nt.val ws = 2 ^ n * Nt.val a := by
        rw [h4 hk, Nat.mul_zero, Nat.add_zero, List.take_of_length_le (by omega)] at h3
        exact h3
      have KN := Rn.Norm_any ws (.slice oa L oc) wo (Nt.In.of_own (B := w.heap.size) (t := 144) (by rw [h1]; exact HO.out)) h2 (by omega)
      rw [hN] at KN
      clear hN h1 h2 h3 h4 h5
      go_wp2_with fail
      refine KN.mono ?_
      rintro z w8 ⟨v8, rfl, hn8, hb8⟩
      have HN8 := Lib.hid hn8
      have HB8 := Lib.hid (HB.out.trans (hb8.mono HB.out.size))
      clear hn8 hb8
      go_wp2_with fail
      go_ret
      exact ⟨_, rfl, HN8.out, HB8.out⟩
end Go.Proofs.YtikmebkfdpbidaaGreatDoor
namespace Go.Proofs.YtikmebkfdpbidaaGreatDoor
open Go.RowKit
set_option linter.unusedVariables false
set_option linter.unusedSimpArgs false

theorem Nt.drewN {B : Nat} {a w : World} (h : Below B a w) (n : Nat) : Below B a (w.drewN n) := h.trans ⟨rfl, rfl, rfl, Nat.le_refl _, fun _ _ => rfl⟩
set_option maxHeartbeats 4000000 in
set_option maxRecDepth 1000000 in
theorem Nt.Order_any (m n : Nat) (v v2 : Value) (w : World) (h : Nt.N w v m) (h2 : Nt.N w v2 n) (hl : (Nt.dig m).length ≤ 4611686018427387904) (hl2 : (Nt.dig n).length ≤ 4611686018427387904) : Calls Tryz.prog 169 #[v, v2] w fun e w' => e = .returned (.int .i64 (Nt.cmp m n)) ∧ Below w.heap.size w w' := by
  unfold Nt.N at h h2
  have hwa := Nt.dig_wd m
  have hwb := Nt.dig_wd n
  have hva := Nt.val_dig m
  have hvb := Nt.val_dig n
  have hlt1 : (Nt.dig m).length < (Nt.dig n).length → Nt.cmp m n = -1 := fun h => Nt.cmp_lt (Nt.dig_len_lt h)
  have hlt2 : (Nt.dig n).length < (Nt.dig m).length → Nt.cmp m n = 1 := fun h => Nt.cmp_gt (Nt.dig_len_lt h)
  have heq : (Nt.dig m).length = (Nt.dig n).length → (∀ j, j < (Nt.dig m).length → (Nt.dig m).getD j 0 = (Nt.dig n).getD j 0) → Nt.cmp m n = 0 := fun h1 h2 => by
    rw [Nt.dig_same h1 h2, Nt.cmp_eq]
  have hd1 : (Nt.dig m).length = (Nt.dig n).length → ∀ i, i < (Nt.dig m).length → (∀ j, i < j → j < (Nt.dig m).length → (Nt.dig m).getD j 0 = (Nt.dig n).getD j 0) → (Nt.dig m).getD i 0 < (Nt.dig n).getD i 0 → Nt.cmp m n = -1 := fun hl i hi hs hx => by
    have := Nt.val_lt_of hwa hwb hl hi hx hs
    rw [hva, hvb] at this
    exact Nt.cmp_lt this
  have hd2 : (Nt.dig m).length = (Nt.dig n).length → ∀ i, i < (Nt.dig m).length → (∀ j, i < j → j < (Nt.dig m).length → (Nt.dig m).getD j 0 = (Nt.dig n).getD j 0) → (Nt.dig n).getD i 0 < (Nt.dig m).getD i 0 → Nt.cmp m n = 1 := fun hl i hi hs hx => by
    have := Nt.val_lt_of hwb hwa hl.symm (by omega) hx (fun j h1 h2 => (hs j h1 (by omega)).symm)
    rw [hva, hvb] at this
    exact Nt.cmp_gt this
  generalize Nt.dig m = a at *
  generalize Nt.dig n = b at *
  generalize Nt.cmp m n = r at *
  obtain ⟨ad, cap, rfl⟩ := h.slice
  obtain ⟨ad2, cap2, rfl⟩ := h2.slice
  have H := Lib.hid h
  have H2 := Lib.hid h2
  have HL1 := Lib.hid hlt1
  have HL2 := Lib.hid hlt2
  have HE := Lib.hid heq
  have HD1 := Lib.hid hd1
  have HD2 := Lib.hid hd2
  clear h h2 hwa hwb hva hvb hlt1 hlt2 heq hd1 hd2
  by_cases hne : a.length = b.length
  case neg =>
    have hneI : ((a.length : Int) != (b.length : Int)) = true := by simp; omega
    by_cases hlt : a.length < b.length
    · obtain rfl := HL1.out hlt
      have hltI : (a.length : Int) < (b.length : Int) := by omega
      clear hne
      go_enter Tryz.func169, Tryz.ntmps169
      go_wp2_with fail
      go_ret
      exact ⟨rfl, Below.refl _ _⟩
    · obtain rfl := HL2.out (by omega)
      have hltI : ¬ (a.length : Int) < (b.length : Int) := by omega
      clear hne
      go_enter Tryz.func169, Tryz.ntmps169
      go_wp2_with fail
      go_ret
      exact ⟨rfl, Below.refl _ _⟩
  case pos =>
    have hneI : ((a.length : Int) != (b.length : Int)) = false := by simp; omega
    have HNE := Lib.hid hne
    clear hne
    go_enter Tryz.func169, Tryz.ntmps169
    go_wp2_with fail
    go_loopw [5] (fun i wr => ∃ k : Nat, i = .int .i64 ((k : Int) - 1) ∧ k ≤ a.length ∧ (∀ j, k ≤ j → j < a.length → a.getD j 0 = b.getD j 0) ∧ Below w.heap.size w wr) (fun i _ => (intOf i + 1).toNat)
    case atStart => exact ⟨a.length, by first | rfl | go_num | (simp; try omega), Nat.le_refl _, fun j h1 h2 => by omega, Below.refl _ _⟩
    case round =>
      obtain ⟨k, rfl, hk, hz, hbw⟩ := hrel
      have HZ := Lib.hid hz
      have HBW := Lib.hid hbw
      clear hz hbw
      rcases k with _ | k
      · obtain rfl := HE.out HNE.out (fun j hj => HZ.out j (Nat.zero_le _) hj)
        go_wp2_with fail
        go_ret
        exact ⟨rfl, HBW.out⟩
      · obtain ⟨b1, o1, rfl, _, hcap1, hbl1, hcell1⟩ := (H.out.below HBW.out (Nat.le_refl _)).at (by omega)
        obtain ⟨b2, o2, rfl, _, hcap2, hbl2, hcell2⟩ := (H2.out.below HBW.out (Nat.le_refl _)).at (by have := HNE.out; omega)
        have c1 := hcell1 k (by omega)
        have c2 := hcell2 k (by have := HNE.out; omega)
        have hk1 : (((k + 1 : Nat) : Int) - 1) = (k : Int) := by omega
        rw [hk1]
        have hkk : k < a.length := by omega
        have hi0 : (0 : Int) ≤ (k : Int) := by omega
        have hi1 : (k : Int) < (a.length : Int) := by omega
        have hi2 : (k : Int) < (b.length : Int) := by have := HNE.out; omega
        have hx1 := fun h => HD1.out HNE.out k hkk (fun j h1 h2 => HZ.out j (by omega) h2) h
        have hx2 := fun h => HD2.out HNE.out k hkk (fun j h1 h2 => HZ.out j (by omega) h2) h
        have hx3 : a.getD k 0 = b.getD k 0 → ∀ j, k ≤ j → j < a.length → a.getD j 0 = b.getD j 0 := fun h j h1 h2 => by
          rcases Nat.lt_or_ge k j with h3 | h3
          · exact HZ.out j (by omega) h2
          · obtain rfl : j = k := by omega
            exact h
        have HX1 := Lib.hid hx1
        have HX2 := Lib.hid hx2
        have HX3 := Lib.hid hx3
        have HBX : Hid (∀ n, Below w.heap.size w (wr.drewN n)) := Lib.hid (fun n => Nt.drewN HBW.out n)
        clear hx1 hx2 hx3 hcell1 hcell2
        generalize a.getD k 0 = x at *
        generalize b.getD k 0 = y at *
        by_cases h1 : x < y
        · obtain rfl := HX1.out h1
          have h1I : (x : Int) < (y : Int) := by omega
          clear h1
          go_wp2_with fail
          go_quiet (fail)
          go_wp2_with fail
          go_ret
          exact ⟨rfl, HBX.out _⟩
        · have h1I : ¬ (x : Int) < (y : Int) := by omega
          by_cases h2 : y < x
          · obtain rfl := HX2.out h2
            have h2I : (y : Int) < (x : Int) := by omega
            go_wp2_with fail
            go_quiet (fail)
            go_wp2_with fail
            go_quiet (fail)
            go_wp2_with fail
            go_ret
            exact ⟨rfl, Nt.drewN (HBX.out _) _⟩
          · have h2I : ¬ (y : Int) < (x : Int) := by omega
            have HXX := Lib.hid (HX3.out (by omega))
            go_wp2_with fail
            go_quiet (fail)
            go_wp2_with fail
            go_quiet (fail)
            go_wp2_with fail
            go_roundw
            case rel => exact ⟨k, by first | rfl | go_num | (simp; try omega), by omega, HXX.out, by first | exact HBX.out _ | exact Nt.drewN (HBX.out _) _⟩
            case measure => simp [intOf]
end Go.Proofs.YtikmebkfdpbidaaGreatDoor
namespace Go.Proofs.YtikmebkfdpbidaaGreatDoor
open Go.RowKit
set_option linter.unusedVariables false
set_option linter.unusedSimpArgs false

set_option maxHeartbeats 4000000 in
set_option maxRecDepth 1000000 in
theorem Rn.Order_any (m n : Nat) (v v2 : Value) (w : World) (h : Nt.N w v m) (h2 : Nt.N w v2 n) (hl : (Nt.dig m).length ≤ 4611686018427387904) (hl2 : (Nt.dig n).length ≤ 4611686018427387904) : Calls Tryz.prog 221 #[v, v2] w fun e w' => e = .returned (.int .i64 (Nt.cmp m n)) ∧ Below w.heap.size w w' := by
  unfold Nt.N at h h2
  have hwa := Nt.dig_wd m
  have hwb := Nt.dig_wd n
  have hva := Nt.val_dig m
  have hvb := Nt.val_dig n
  have hlt1 : (Nt.dig m).length < (Nt.dig n).length → Nt.cmp m n = -1 := fun h => Nt.cmp_lt (Nt.dig_len_lt h)
  have hlt2 : (Nt.dig n).length < (Nt.dig m).length → Nt.cmp m n = 1 := fun h => Nt.cmp_gt (Nt.dig_len_lt h)
  have heq : (Nt.dig m).length = (Nt.dig n).length → (∀ j, j < (Nt.dig m).length → (Nt.dig m).getD j 0 = (Nt.dig n).getD j 0) → Nt.cmp m n = 0 := fun h1 h2 => by
    rw [Nt.dig_same h1 h2, Nt.cmp_eq]
  have hd1 : (Nt.dig m).length = (Nt.dig n).length → ∀ i, i < (Nt.dig m).length → (∀ j, i < j → j < (Nt.dig m).length → (Nt.dig m).getD j 0 = (Nt.dig n).getD j 0) → (Nt.dig m).getD i 0 < (Nt.dig n).getD i 0 → Nt.cmp m n = -1 := fun hl i hi hs hx => by
    have := Nt.val_lt_of hwa hwb hl hi hx hs
    rw [hva, hvb] at this
    exact Nt.cmp_lt this
  have hd2 : (Nt.dig m).length = (Nt.dig n).length → ∀ i, i < (Nt.dig m).length → (∀ j, i < j → j < (Nt.dig m).length → (Nt.dig m).getD j 0 = (Nt.dig n).getD j 0) → (Nt.dig n).getD i 0 < (Nt.dig m).getD i 0 → Nt.cmp m n = 1 := fun hl i hi hs hx => by
    have := Nt.val_lt_of hwb hwa hl.symm (by omega) hx (fun j h1 h2 => (hs j h1 (by omega)).symm)
    rw [hva, hvb] at this
    exact Nt.cmp_gt this
  generalize Nt.dig m = a at *
  generalize Nt.dig n = b at *
  generalize Nt.cmp m n = r at *
  obtain ⟨ad, cap, rfl⟩ := h.slice
  obtain ⟨ad2, cap2, rfl⟩ := h2.slice
  have H := Lib.hid h
  have H2 := Lib.hid h2
  have HL1 := Lib.hid hlt1
  have HL2 := Lib.hid hlt2
  have HE := Lib.hid heq
  have HD1 := Lib.hid hd1
  have HD2 := Lib.hid hd2
  clear h h2 hwa hwb hva hvb hlt1 hlt2 heq hd1 hd2
  by_cases hne : a.length = b.length
  case neg =>
    by_cases hlt : a.length < b.length
    · obtain rfl := HL1.out hlt
      have hltI : (a.length : Int) < (b.length : Int) := by omega
      have hgtI : ¬ (a.length : Int) > (b.length : Int) := by omega
      clear hne
      go_enter Tryz.func221, Tryz.ntmps221
      go_wp2_with fail
      go_ret
      exact ⟨rfl, Below.refl _ _⟩
    · obtain rfl := HL2.out (by omega)
      have hgtI : (a.length : Int) > (b.length : Int) := by omega
      clear hne
      go_enter Tryz.func221, Tryz.ntmps221
      go_wp2_with fail
      go_ret
      exact ⟨rfl, Below.refl _ _⟩
  case pos =>
    have hltI : ¬ (a.length : Int) < (b.length : Int) := by omega
    have hgtI : ¬ (a.length : Int) > (b.length : Int) := by omega
    have HNE := Lib.hid hne
    clear hne
    go_enter Tryz.func221, Tryz.ntmps221
    go_wp2_with fail
    go_loopw [5] (fun i wr => ∃ k : Nat, i = .int .i64 ((k : Int) - 1) ∧ k ≤ a.length ∧ (∀ j, k ≤ j → j < a.length → a.getD j 0 = b.getD j 0) ∧ Below w.heap.size w wr) (fun i _ => (intOf i + 1).toNat)
    case atStart => exact ⟨a.length, by first | rfl | go_num | (simp; try omega), Nat.le_refl _, fun j h1 h2 => by omega, Below.refl _ _⟩
    case round =>
      obtain ⟨k, rfl, hk, hz, hbw⟩ := hrel
      have HZ := Lib.hid hz
      have HBW := Lib.hid hbw
      clear hz hbw
      rcases k with _ | k
      · obtain rfl := HE.out HNE.out (fun j hj => HZ.out j (Nat.zero_le _) hj)
        go_wp2_with fail
        go_ret
        exact ⟨rfl, HBW.out⟩
      · obtain ⟨b1, o1, rfl, _, hcap1, hbl1, hcell1⟩ := (H.out.below HBW.out (Nat.le_refl _)).at (by omega)
        obtain ⟨b2, o2, rfl, _, hcap2, hbl2, hcell2⟩ := (H2.out.below HBW.out (Nat.le_refl _)).at (by have := HNE.out; omega)
        have c1 := hcell1 k (by omega)
        have c2 := hcell2 k (by have := HNE.out; omega)
        have hk1 : (((k + 1 : Nat) : Int) - 1) = (k : Int) := by omega
        rw [hk1]
        have hkk : k < a.length := by omega
        have hi0 : (0 : Int) ≤ (k : Int) := by omega
        have hi1 : (k : Int) < (a.length : Int) := by omega
        have hi2 : (k : Int) < (b.length : Int) := by have := HNE.out; omega
        have hx1 := fun h => HD1.out HNE.out k hkk (fun j h1 h2 => HZ.out j (by omega) h2) h
        have hx2 := fun h => HD2.out HNE.out k hkk (fun j h1 h2 => HZ.out j (by omega) h2) h
        have hx3 : a.getD k 0 = b.getD k 0 → ∀ j, k ≤ j → j < a.length → a.getD j 0 = b.getD j 0 := fun h j h1 h2 => by
          rcases Nat.lt_or_ge k j with h3 | h3
          · exact HZ.out j (by omega) h2
          · obtain rfl : j = k := by omega
            exact h
        have HX1 := Lib.hid hx1
        have HX2 := Lib.hid hx2
        have HX3 := Lib.hid hx3
        have HBX : Hid (∀ n, Below w.heap.size w (wr.drewN n)) := Lib.hid (fun n => Nt.drewN HBW.out n)
        clear hx1 hx2 hx3 hcell1 hcell2
        generalize a.getD k 0 = x at *
        generalize b.getD k 0 = y at *
        by_cases h1 : y < x
        · obtain rfl := HX2.out h1
          have h1I : (x : Int) > (y : Int) := by omega
          clear h1
          go_wp2_with fail
          go_quiet (fail)
          go_wp2_with fail
          go_ret
          exact ⟨rfl, HBX.out _⟩
        · have h1I : ¬ (x : Int) > (y : Int) := by omega
          by_cases h2 : x < y
          · obtain rfl := HX1.out h2
            have h2I : (x : Int) < (y : Int) := by omega
            go_wp2_with fail
            go_quiet (fail)
            go_wp2_with fail
            go_quiet (fail)
            go_wp2_with fail
            go_ret
            exact ⟨rfl, Nt.drewN (HBX.out _) _⟩
          · have h2I : ¬ (x : Int) < (y : Int) := by omega
            have HXX := Lib.hid (HX3.out (by omega))
            go_wp2_with fail
            go_quiet (fail)
            go_wp2_with fail
            go_quiet (fail)
            go_wp2_with fail
            go_roundw
            case rel => exact ⟨k, by first | rfl | go_num | (simp; try omega), by omega, HXX.out, by first | exact HBX.out _ | exact Nt.drewN (HBX.out _) _⟩
            case measure => simp [intOf]
end Go.Proofs.YtikmebkfdpbidaaGreatDoor
