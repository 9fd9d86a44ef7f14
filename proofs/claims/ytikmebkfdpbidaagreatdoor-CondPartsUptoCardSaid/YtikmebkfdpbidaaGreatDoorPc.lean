/-
  The greatest common divisor by halves and differences, in plain Lean.
  nat.Less of numbers.
  The reference's Less.
  The reference's Up.
  nat.Order of numbers.
  The reference's Order of numbers.
  The reference's Divisor: the greatest common divisor.
  Slices of bytes that a call reads or has made, in plain Lean over worlds. No conditions.
-/
import Derived.Deep.AppendLies
import Derived.BigQuiet
import Derived.Laws.AppendOwnNone
import Derived.ChangeSlices
import Derived.RegionTactic
import Derived.OpenShut
import Derived.SizedLaws
import Derived.ProofKit
import Derived.Lib.SmallJoins
import Derived.Test.YtikmebkfdpbidaaGreatDoorPb
import Derived.Test.YtikmebkfdpbidaaGreatDoorPa
namespace Go.Proofs.YtikmebkfdpbidaaGreatDoor
open Go.RowKit
set_option linter.unusedVariables false
set_option linter.unusedSimpArgs false

theorem Rn.cop_two {o : Nat} (h : o % 2 = 1) (s : Nat) : Nat.Coprime (2 ^ s) o := by
  refine Nat.Coprime.pow_left s ?_
  unfold Nat.Coprime
  have h1 : Nat.gcd 2 o ∣ 2 := Nat.gcd_dvd_left 2 o
  have h2 : Nat.gcd 2 o ∣ o := Nat.gcd_dvd_right 2 o
  have h3 : Nat.gcd 2 o ≤ 2 := Nat.le_of_dvd (by decide) h1
  rcases (show Nat.gcd 2 o = 0 ∨ Nat.gcd 2 o = 1 ∨ Nat.gcd 2 o = 2 by omega) with h4 | h4 | h4
  · rw [h4] at h1
    have := Nat.eq_zero_of_zero_dvd h1
    omega
  · exact h4
  · rw [h4] at h2
    have := Nat.mod_eq_zero_of_dvd h2
    omega
theorem Rn.gcd_two {o y : Nat} (s : Nat) (hy : y % 2 = 1) : Nat.gcd (2 ^ s * o) y = Nat.gcd o y := by
  have hc := Rn.cop_two hy s
  refine Nat.dvd_antisymm (Nat.dvd_gcd ?_ (Nat.gcd_dvd_right _ _)) (Nat.dvd_gcd (Nat.dvd_mul_left_of_dvd (Nat.gcd_dvd_left _ _) _) (Nat.gcd_dvd_right _ _))
  have h1 : Nat.Coprime (Nat.gcd (2 ^ s * o) y) (2 ^ s) := Nat.Coprime.symm (Nat.Coprime.coprime_dvd_right (Nat.gcd_dvd_right _ _) hc)
  exact Nat.Coprime.dvd_of_dvd_mul_left h1 (Nat.gcd_dvd_left _ _)
theorem Rn.two_le {t t1 o : Nat} (ho : o % 2 = 1) (h : 2 ^ t ∣ 2 ^ t1 * o) : t ≤ t1 := by
  rcases Nat.lt_or_ge t1 t with h1 | h1
  · have h2 : 2 ^ (t1 + 1) ∣ 2 ^ t1 * o := Nat.dvd_trans (Nat.pow_dvd_pow 2 h1) h
    rw [Nat.pow_succ] at h2
    have h3 := Nat.dvd_of_mul_dvd_mul_left (Nat.two_pow_pos t1) h2
    have := Nat.mod_eq_zero_of_dvd h3
    omega
  · exact h1
theorem Rn.gcd_twos {m n t t1 t2 o1 o2 : Nat} (hm : m = 2 ^ t1 * o1) (hn : n = 2 ^ t2 * o2) (h1 : o1 % 2 = 1) (h2 : o2 % 2 = 1) (d1 : 2 ^ t ∣ m) (d2 : 2 ^ t ∣ n) (hx : ¬ (m / 2 ^ t % 2 = 0 ∧ n / 2 ^ t % 2 = 0)) : Nat.gcd m n = 2 ^ t * Nat.gcd o1 o2 := by
  subst hm
  subst hn
  obtain ⟨s1, rfl⟩ := Nat.exists_eq_add_of_le (Rn.two_le h1 d1)
  obtain ⟨s2, rfl⟩ := Nat.exists_eq_add_of_le (Rn.two_le h2 d2)
  rw [Nat.pow_add, Nat.pow_add, Nat.mul_assoc, Nat.mul_assoc] at hx ⊢
  rw [Nat.mul_div_cancel_left _ (Nat.two_pow_pos t), Nat.mul_div_cancel_left _ (Nat.two_pow_pos t)] at hx
  rw [Nat.gcd_mul_left]
  congr 1
  rcases Nat.eq_zero_or_pos s1 with e | e
  · subst e
    rw [Nat.pow_zero, Nat.one_mul, Nat.gcd_comm, Rn.gcd_two s2 h1, Nat.gcd_comm]
  · rcases Nat.eq_zero_or_pos s2 with e2 | e2
    · subst e2
      rw [Nat.pow_zero, Nat.one_mul, Rn.gcd_two s1 h2]
    · exfalso
      refine hx ⟨?_, ?_⟩
      · obtain ⟨s, rfl⟩ : ∃ s, s1 = s + 1 := ⟨s1 - 1, by omega⟩
        rw [Nat.pow_succ, Nat.mul_right_comm, Nat.mul_mod_left]
      · obtain ⟨s, rfl⟩ : ∃ s, s2 = s + 1 := ⟨s2 - 1, by omega⟩
        rw [Nat.pow_succ, Nat.mul_right_comm, Nat.mul_mod_left]
/-- One round of differences. -/
theorem Rn.gcd_less {x y t o : Nat} (hy : y % 2 = 1) (hlt : y ≤ x) (h : x - y = 2 ^ t * o) : Nat.gcd o y = Nat.gcd x y := by
  rw [← Rn.gcd_two t hy, ← h]
  exact Nat.gcd_sub_self_left hlt
theorem Rn.size_one {x s : Nat} (h0 : 0 < x) (h1 : x < 2 ^ s) (h2 : s = 0 ∨ 2 ^ (s - 1) ≤ x) : s = 1 ↔ x = 1 := by
  constructor
  · rintro rfl
    omega
  · rintro rfl
    rcases h2 with rfl | h2
    · simp at h1
    · rcases s with _ | _ | s
      · simp at h1
      · rfl
      · have := Nat.pow_le_pow_right (n := 2) (by decide) (show 1 ≤ s + 1 by omega)
        simp at h2
theorem Rn.dig_le {a b : Nat} (h : a ≤ b) : (Nt.dig a).length ≤ (Nt.dig b).length := by
  rcases Nat.lt_or_ge (Nt.dig b).length (Nt.dig a).length with h1 | h1
  · have := Nt.dig_len_lt h1
    omega
  · exact h1
end Go.Proofs.YtikmebkfdpbidaaGreatDoor
namespace Go.Proofs.YtikmebkfdpbidaaGreatDoor
open Go.RowKit
set_option linter.unusedVariables false
set_option linter.unusedSimpArgs false

theorem Nt.less_end {a b ws : List Nat} {n c : Nat} (hw : Nt.Wd ws) (hl : ws.length = n) (h : Nt.val ws + Nt.val b = Nt.val a + 4294967296 ^ n * c) (hab : Nt.val b ≤ Nt.val a) : Nt.val ws = Nt.val a - Nt.val b := by
  have h1 := Nt.val_lt ws hw
  rw [hl] at h1
  rcases Nat.eq_zero_or_pos c with h0 | h0
  · subst h0; omega
  · have : 4294967296 ^ n * 1 ≤ 4294967296 ^ n * c := Nat.mul_le_mul_left _ h0
    omega
set_option maxHeartbeats 4000000 in
set_option maxRecDepth 1000000 in
theorem Nt.less_ws (a b : List Nat) (v v2 : Value) (w : World) (h : Nt.In w v a) (h2 : Nt.In w v2 b) (ha : Nt.Wd a) (hb : Nt.Wd b) (hl : a.length ≤ 500000) (hll : b.length ≤ a.length) (hab : Nt.val b ≤ Nt.val a) : Calls Tryz.prog 170 #[v, v2] w fun e w' => ∃ v', e = .returned v' ∧ Nt.N w' v' (Nt.val a - Nt.val b) ∧ Below w.heap.size w w' := by
  obtain ⟨ad, cap, rfl⟩ := h.slice
  obtain ⟨ad2, cap2, rfl⟩ := h2.slice
  have H := Lib.hid h
  have H2 := Lib.hid h2
  have HA := Lib.hid ha
  have HB := Lib.hid hb
  have hmk := Nt.make a.length w (by omega)
  clear h h2 ha hb
  obtain ⟨T, hT⟩ : ∃ T, w.heap.size = T := ⟨_, rfl⟩
  obtain ⟨w2, hw2⟩ : ∃ z, w.alloc (.cells (Nt.row (List.replicate a.length 0)) 144) = z := ⟨_, rfl⟩
  have q2 : w2.heap[T]? = some (.cells (Nt.row (List.replicate a.length 0)) 144 (0, 0)) := by rw [← hw2, ← hT]; exact heap_alloc_new w _
  have hb2 : Below w.heap.size w w2 := hw2 ▸ (Below.refl _ _).alloc (Nat.le_refl _) _
  rw [hT, hw2] at hmk
  have HT := Lib.hid hT
  have HB2 := Lib.hid hb2
  have HQ2 := Lib.hid q2
  clear hT hw2 hb2 q2
  go_enter Tryz.func170, Tryz.ntmps170
  go_wp2_with fail
  go_loopw [6, 14] (fun cv i wr => ∃ (k c : Nat) (ws : List Nat), i = .int .i64 k ∧ cv = .int .u32 c ∧ k ≤ a.length ∧ c ≤ 1 ∧ ws.length = a.length ∧ Nt.Wd ws ∧ (∀ j, k ≤ j → ws.getD j 0 = 0) ∧ Nt.val (ws.take k) + Nt.val (b.take k) = Nt.val (a.take k) + 4294967296 ^ k * c ∧ wr.heap[T]? = some (.cells (Nt.row ws) 144 (0, 0)) ∧ Below w.heap.size w wr) (fun _ i _ => a.length - (intOf i).toNat)
  case atStart => exact ⟨0, 0, List.replicate a.length 0, rfl, rfl, Nat.zero_le _, by decide, by simp, Nt.Wd.zeros _, fun j _ => Nt.zeros_getD _ _, by simp [Nt.val], HQ2.out, HB2.out⟩
  case round =>
    obtain ⟨k, c, ws, rfl, rfl, hk, hc1, hwl, hwd, hz, hval, hq, hbw⟩ := hrel
    obtain ⟨wo, hwo⟩ : ∃ z, z = wr := ⟨_, rfl⟩
    subst hwo
    have HZ := Lib.hid hz
    have HWD := Lib.hid hwd
    have HV := Lib.hid hval
    have HQ := Lib.hid hq
    have HBW := Lib.hid hbw
    have HWL := Lib.hid hwl
    clear hz hwd hval hq hbw hwl
    by_cases hlt : k < a.length
    · obtain ⟨b1, o1, rfl, _, hcap1, hbl1, hcell1⟩ := (H.out.below HBW.out (Nat.le_refl _)).at (by omega)
      have c1 := hcell1 k hlt
      have hxb := HA.out.getD k
      have hyb := HB.out.getD k
      have hz0 : ws.getD k 0 = 0 := HZ.out k (Nat.le_refl _)
      have hyb2 : k < b.length → ∃ b2 o2, ad2 = some ⟨b2, o2, none⟩ ∧ wo.cell? ⟨b2, o2 + k, none⟩ = some (.int .u32 (b.getD k 0 : Nat)) := fun h => by
        obtain ⟨b2, o2, e, _, _, _, hcell2⟩ := (H2.out.below HBW.out (Nat.le_refl _)).at (by omega)
        exact ⟨b2, o2, e, hcell2 k h⟩
      have hyb3 : ¬ k < b.length → b.getD k 0 = 0 := fun h => Nt.getD_ge b k (by omega)
      have HY2 := Lib.hid hyb2
      have HY3 := Lib.hid hyb3
      clear hcell1 hyb2 hyb3
      have HX := Lib.hid (And.intro hxb hyb)
      have HSTEP : Hid (∀ d c' : Nat, d + b.getD k 0 + c = a.getD k 0 + 4294967296 * c' → Nt.val ((ws.set k d).take (k + 1)) + Nt.val (b.take (k + 1)) = Nt.val (a.take (k + 1)) + 4294967296 ^ (k + 1) * c') := Lib.hid (fun d c' hd => Nt.less_step HV.out (by have := HWL.out; omega) hxb hyb hc1 hd)
      clear hxb hyb hz0
      generalize a.getD k 0 = x at *
      generalize b.getD k 0 = y at *
      have KA := fun w => Nt.Sub32_any x y c w HX.out.1 HX.out.2 hc1
      have HNX : Hid (∀ s j, k + 1 ≤ j → (ws.set k s).getD j 0 = 0) := Lib.hid (fun s j hj => by rw [Nt.getD_set_ne ws k j s (by omega)]; exact HZ.out j (by omega))
      have HST : Hid (∀ s : Nat, ∃ W, wo.setCell ⟨T, k, none⟩ (.int .u32 (s : Int)) = W ∧ wo.cell? ⟨T, k, none⟩ = some (.int .u32 (ws.getD k 0 : Nat)) ∧ wo.frozen? ⟨T, k, none⟩ = false ∧ W.heap[T]? = some (.cells (Nt.row (ws.set k s)) 144 (0, 0)) ∧ Below w.heap.size w W ∧ W.heap.size = wo.heap.size) := Lib.hid (fun s => Nt.store HQ.out k s (by have := HWL.out; omega) HBW.out (by have := HT.out; omega))
      by_cases hlt2 : k < b.length
      · obtain ⟨b2, o2, rfl, c2⟩ := HY2.out hlt2
        have hlt2I : (k : Int) < (b.length : Int) := by omega
        go_wp2_with fail
        refine (KA _).mono ?_
        rintro z wz ⟨s, c', rfl, hs, hc', hd, hwz⟩
        subst hwz
        obtain ⟨W, hW, e1, e2, hQ9, hB9, hS9⟩ := HST.out s
        have HR := Lib.hid (And.intro hs (And.intro hc' (And.intro (HSTEP.out s c' hd) (And.intro hQ9 hB9))))
        clear hs hd hQ9 hB9
        go_wp2_with fail
        go_roundw
        case rel => exact ⟨k + 1, _, _, by first | rfl | go_num | (simp; try omega), rfl, by omega, HR.out.2.1, by rw [List.length_set]; exact HWL.out, HWD.out.set k s HR.out.1, HNX.out s, HR.out.2.2.1, HR.out.2.2.2.1, HR.out.2.2.2.2⟩
        case measure => simp [intOf]; omega
      · obtain rfl := HY3.out hlt2
        have hlt2I : ¬ (k : Int) < (b.length : Int) := by omega
        go_wp2_with fail
        refine (KA _).mono ?_
        rintro z wz ⟨s, c', rfl, hs, hc', hd, hwz⟩
        subst hwz
        obtain ⟨W, hW, e1, e2, hQ9, hB9, hS9⟩ := HST.out s
        have HR := Lib.hid (And.intro hs (And.intro hc' (And.intro (HSTEP.out s c' hd) (And.intro hQ9 hB9))))
        clear hs hd hQ9 hB9
        go_wp2_with fail
        go_roundw
        case rel => exact ⟨k + 1, _, _, by first | rfl | go_num | (simp; try omega), rfl, by omega, HR.out.2.1, by rw [List.length_set]; exact HWL.out, HWD.out.set k s HR.out.1, HNX.out s, HR.out.2.2.1, HR.out.2.2.2.1, HR.out.2.2.2.2⟩
        case measure => simp [intOf]; omega
    · obtain rfl : k = a.length := by omega
      have hlenw := HWL.out
      have hval : Nt.val ws = Nt.val a - Nt.val b := by
        have h2 := HV.out
        rw [List.take_length, List.take_of_length_le hll, List.take_of_length_le (by omega)] at h2
        exact Nt.less_end HWD.out hlenw h2 hab
      have hin : Nt.In wo (.slice (some ⟨T, 0, none⟩) a.length a.length) ws := by
        have := Nt.In.of_row HQ.out
        rw [hlenw] at this
        exact this
      have KN := Nt.norm_any ws _ wo hin HWD.out (by omega)
      rw [hval] at KN
      have hnlt : decide ((a.length : Int) < (a.length : Int)) = false := decide_eq_false (by omega)
      clear hval hin hlenw
      go_wp2_with fail
      refine KN.mono ?_
      rintro z w8 ⟨v8, rfl, hn8, hb8⟩
      have HN8 := Lib.hid hn8
      have HB8 := Lib.hid (HBW.out.trans (hb8.mono HBW.out.size))
      clear hn8 hb8
      go_wp2_with fail
      go_ret
      exact ⟨_, rfl, HN8.out, HB8.out⟩
end Go.Proofs.YtikmebkfdpbidaaGreatDoor
namespace Go.Proofs.YtikmebkfdpbidaaGreatDoor
open Go.RowKit
set_option linter.unusedVariables false
set_option linter.unusedSimpArgs false

theorem Rn.less_step {vo va vb P c c' d x y : Nat} (h : vo + vb = va + P * c) (hd : d + y + c = x + 4294967296 * c') : (vo + P * d) + (vb + P * y) = (va + P * x) + P * 4294967296 * c' := by
  have h2 := congrArg (P * ·) hd
  simp only [Nat.mul_add, ← Nat.mul_assoc] at h2
  omega
theorem Rn.wd_snoc {ws : List Nat} {d : Nat} (h : Nt.Wd ws) (hd : d < 4294967296) : Nt.Wd (ws ++ [d]) := fun x hx => by
  rcases List.mem_append.1 hx with hx | hx
  · exact h x hx
  · simp at hx; omega
set_option maxHeartbeats 2000000 in
set_option maxRecDepth 1000000 in
theorem Rn.Less_any (a b : List Nat) (v v2 : Value) (w : World) (h : Nt.In w v a) (h2 : Nt.In w v2 b) (ha : Nt.Wd a) (hb : Nt.Wd b) (hl : a.length ≤ 1000000) (hll : b.length ≤ a.length) (hab : Nt.val b ≤ Nt.val a) :
    Calls Tryz.prog 222 #[v, v2] w fun e w' => ∃ v', e = .returned v' ∧ Nt.N w' v' (Nt.val a - Nt.val b) ∧ Below w.heap.size w w' := by
  obtain ⟨ad, cap, rfl⟩ := h.slice
  obtain ⟨ad2, cap2, rfl⟩ := h2.slice
  have HWA := Lib.hid (fun w' (hb : Below w.heap.size w w') i => Rn.word_any a _ i w' (h.below hb (Nat.le_refl _)) ha)
  have HWB := Lib.hid (fun w' (hb' : Below w.heap.size w w') i => Rn.word_any b _ i w' (h2.below hb' (Nat.le_refl _)) hb)
  have HX := Lib.hid (fun k => And.intro (ha.getD k) (hb.getD k))
  have HAB := Lib.hid (And.intro hll hab)
  obtain ⟨i0, hi, hz0, hz1, hz2⟩ := info_parts Nt.infoWord
  clear h h2 ha hb hll hab
  go_enter Tryz.func222, Tryz.ntmps222
  go_wp2_with fail
  go_loopg [5, 6, 7] a.length (fun g vo cv i wr => ∃ (k c : Nat) (ws : List Nat), k + g = a.length ∧ i = .int .i64 k ∧ cv = .int .u64 c ∧ c ≤ 1 ∧ ws.length = k ∧ Nt.Wd ws ∧ Nt.val ws + Nt.val (b.take k) = Nt.val (a.take k) + 4294967296 ^ k * c ∧ wr.ownsRow w.heap.size 144 1 vo k (Nt.vs ws) ∧ Below w.heap.size w wr)
  case atStart => exact ⟨0, 0, [], by omega, rfl, rfl, by decide, rfl, fun x hx => by simp at hx, by simp [Nt.val], World.ownsRow_made w #[] 0 (Nat.le_refl _) (by decide) rfl, (Below.refl _ _).alloc (Nat.le_refl _) _⟩
  case round =>
    obtain ⟨k, c, ws, hkg, rfl, rfl, hc1, hwl, hwd, hval, hown, hbw⟩ := hrel
    obtain ⟨wo, hwo⟩ : ∃ z, z = wr := ⟨_, rfl⟩
    subst hwo
    have HO := Lib.hid hown
    have HB := Lib.hid hbw
    have HST := Lib.hid (And.intro hwl (And.intro hwd hval))
    obtain ⟨oa, oc, rfl⟩ := Rn.own_slice hown
    clear hown hbw hwl hwd hval
    by_cases hlt : k < a.length
    · have K1 := HWA.out wo HB.out k
      have HK2 := Lib.hid (fun w' hb => HWB.out w' hb k)
      obtain ⟨hx, hy⟩ := HX.out k
      have HVT := Lib.hid (And.intro (Nt.val_take_step a k) (Nt.val_take_step b k))
      generalize a.getD k 0 = x at *
      generalize b.getD k 0 = y at *
      go_wp2_with fail
      refine K1.mono ?_
      rintro z w2 ⟨rfl, hb2⟩
      have HB2 := Lib.hid (HB.out.trans (hb2.mono HB.out.size))
      have HO2 := Lib.hid (Rn.own_below HO.out hb2 (Nat.le_refl _))
      clear hb2 K1
      go_wp2_with fail
      refine (HK2.out _ HB2.out).mono ?_
      rintro z w3 ⟨rfl, hb3⟩
      have HB3 := Lib.hid (HB2.out.trans (hb3.mono HB2.out.size))
      have HO3 := Lib.hid (Rn.own_below HO2.out hb3 (Nat.le_refl _))
      clear hb3
      by_cases hlt2 : x < y + c
      · have hl2I : (x : Int) < (y : Int) + (c : Int) := by omega
        obtain ⟨d, hd⟩ : ∃ d, d = x + 4294967296 - (y + c) := ⟨_, rfl⟩
        have hdI : (x : Int) + 4294967296 - ((y : Int) + (c : Int)) = (d : Int) := by omega
        have HD : Hid (d + y + c = x + 4294967296 * 1 ∧ d < 4294967296) := Lib.hid (by omega)
        clear hd
        go_wp2_with (at_builtin; refine Ls.wpList_append _ rfl _ _ 22 rfl w.heap.size 144 i0 (.int .u32 0) 1 4 Tryz.underlying22 hi hz0 hz1 hz2 rfl (by decide) _ k _ rfl (Rn.own_below HO3.out ((Below.refl _ _).alloc (Nat.le_refl _) _) (Nat.le_refl _)) _ 1 [.int .u32 (d : Int)] rfl (.inr ⟨_, _, rfl, rfl, World.news_of_block (heap_alloc_new _ _)⟩) (by intro u hu; simp at hu; subst hu; rfl) (by simp only [maxLen]; omega) (by omega) (Nat.le_trans HB3.out.size (by simp)) ?_)
        intro v' w' hown hg _
        rw [show Nt.vs ws ++ [.int .u32 (d : Int)] = Nt.vs (ws ++ [d]) by simp [Nt.vs]] at hown
        have HON := Lib.hid hown
        have hbA : Below w.heap.size w (w3.alloc (.cells #[.int .u32 (d : Int)] 144)) := HB3.out.alloc HB3.out.size _
        have HBN := Lib.hid (hbA.grown hg hbA.size (fun q hq => (Rn.own_below HO3.out ((Below.refl _ _).alloc (Nat.le_refl _) (.cells #[.int .u32 (d : Int)] 144)) (Nat.le_refl _)).lt q hq |>.1))
        obtain ⟨na, nc, rfl⟩ := Rn.own_slice hown
        clear hown hg hbA
        go_wp2_with fail
        go_roundg (gk - 1)
        case measure => omega
        case rel =>
          obtain ⟨h1, h2, h3⟩ := HST.out
          refine ⟨k + 1, 1, ws ++ [d], by omega, by first | rfl | go_num | (simp; try omega), rfl, by decide, by simp [h1], Rn.wd_snoc h2 HD.out.2, ?_, HON.out, HBN.out⟩
          rw [Nt.val_append, HVT.out.1, HVT.out.2, h1, Nat.pow_succ]
          have := Rn.less_step h3 HD.out.1
          simpa [Nt.val] using this
      · have hl2I : ¬ (x : Int) < (y : Int) + (c : Int) := by omega
        obtain ⟨d, hd⟩ : ∃ d, d = x - (y + c) := ⟨_, rfl⟩
        have hdI : (x : Int) - ((y : Int) + (c : Int)) = (d : Int) := by omega
        have HD : Hid (d + y + c = x + 4294967296 * 0 ∧ d < 4294967296) := Lib.hid (by omega)
        clear hd
        go_wp2_with (at_builtin; refine Ls.wpList_append _ rfl _ _ 22 rfl w.heap.size 144 i0 (.int .u32 0) 1 4 Tryz.underlying22 hi hz0 hz1 hz2 rfl (by decide) _ k _ rfl (Rn.own_below HO3.out ((Below.refl _ _).alloc (Nat.le_refl _) _) (Nat.le_refl _)) _ 1 [.int .u32 (d : Int)] rfl (.inr ⟨_, _, rfl, rfl, World.news_of_block (heap_alloc_new _ _)⟩) (by intro u hu; simp at hu; subst hu; rfl) (by simp only [maxLen]; omega) (by omega) (Nat.le_trans HB3.out.size (by simp)) ?_)
        intro v' w' hown hg _
        rw [show Nt.vs ws ++ [.int .u32 (d : Int)] = Nt.vs (ws ++ [d]) by simp [Nt.vs]] at hown
        have HON := Lib.hid hown
        have hbA : Below w.heap.size w (w3.alloc (.cells #[.int .u32 (d : Int)] 144)) := HB3.out.alloc HB3.out.size _
        have HBN := Lib.hid (hbA.grown hg hbA.size (fun q hq => (Rn.own_below HO3.out ((Below.refl _ _).alloc (Nat.le_refl _) (.cells #[.int .u32 (d : Int)] 144)) (Nat.le_refl _)).lt q hq |>.1))
        obtain ⟨na, nc, rfl⟩ := Rn.own_slice hown
        clear hown hg hbA
        go_wp2_with fail
        go_roundg (gk - 1)
        case measure => omega
        case rel =>
          obtain ⟨h1, h2, h3⟩ := HST.out
          refine ⟨k + 1, 0, ws ++ [d], by omega, by first | rfl | go_num | (simp; try omega), rfl, by decide, by simp [h1], Rn.wd_snoc h2 HD.out.2, ?_, HON.out, HBN.out⟩
          rw [Nt.val_append, HVT.out.1, HVT.out.2, h1, Nat.pow_succ]
          have := Rn.less_step h3 HD.out.1
          simpa [Nt.val] using this
    · have hk : k = a.length := by omega
      subst hk
      obtain ⟨h1, h2, h3⟩ := HST.out
      have hN : Nt.val ws = Nt.val a - Nt.val b := by
        rw [List.take_length, List.take_of_length_le HAB.out.1] at h3
        exact Nt.less_end h2 h1 h3 HAB.out.2
      have KN := Rn.Norm_any ws (.slice oa a.length oc) wo (Nt.In.of_own (B := w.heap.size) (t := 144) (by rw [h1]; exact HO.out)) h2 (by omega)
      rw [hN] at KN
      clear hN h1 h2 h3
      go_wp2_with fail
      refine KN.mono ?_
      rintro z w8 ⟨v8, rfl, hn8, hb8⟩
      have HN8 := Lib.hid hn8
      have HB8 := Lib.hid (HB.out.trans (hb8.mono HB.out.size))
      clear hn8 hb8
      go_wp2_with fail
      go_ret
      exact ⟨_, rfl, HN8.out, HB8.out⟩
end Go.Proofs.YtikmebkfdpbidaaGreatDoor
namespace Go.Proofs.YtikmebkfdpbidaaGreatDoor
open Go.RowKit
set_option linter.unusedVariables false
set_option linter.unusedSimpArgs false

theorem Rn.or_low64 {c m s : Nat} (hs : s < 64) (hc : c < 2 ^ s) (hm : 2 ^ s ∣ m) (h : c + m < 18446744073709551616) : bits .or .u64 (c : Int) (m : Int) = ((c + m : Nat) : Int) := by
  have hk : ∀ n : Int, 0 ≤ n → n < 2 ^ 64 → IntKind.u64.wrap n = n := fun n h0 h1 => by rw [IntKind.wrap_u64]; omega
  rw [(bits_nat .u64 64 (by decide) hk c m (by omega) (by omega)).2]
  obtain ⟨q, rfl⟩ := hm
  rw [Nat.or_comm, Nat.mul_comm, ← Nat.shiftLeft_eq, ← Nat.shiftLeft_add_eq_or_of_lt hc, Nat.add_comm]
theorem Rn.own_zeros (w : World) (q : Nat) (hq : q ≤ 1000000) : (w.alloc (.cells (Nt.row (List.replicate q 0)) 144)).ownsRow w.heap.size 144 1 (.slice (some ⟨w.heap.size, 0, none⟩) q q) q (Nt.vs (List.replicate q 0)) := by
  refine ⟨by simp [Nt.vs], .inr ⟨w.heap.size, q, _, rfl, Nat.le_refl _, heap_alloc_new w _, Nat.le_refl _, by simp only [maxLen]; omega, by simp [Nt.row], ?_⟩⟩
  rw [Nat.mul_one]
  have : (Nt.row (List.replicate q 0)).toList = Nt.vs (List.replicate q 0) := by simp [Nt.row, Nt.vs]
  rw [this]
  exact List.take_of_length_le (by simp [Nt.vs])
set_option maxHeartbeats 2000000 in
set_option maxRecDepth 1000000 in
theorem Rn.Up_any (a : List Nat) (n : Nat) (v : Value) (w : World) (h : Nt.In w v a) (ha : Nt.Wd a) (hl : a.length ≤ 400000) (hn : n ≤ 16000000) :
    Calls Tryz.prog 232 #[v, .int .i64 n] w fun e w' => ∃ v', e = .returned v' ∧ Nt.N w' v' (2 ^ n * Nt.val a) ∧ Below w.heap.size w w' := by
  obtain ⟨ad, cap, rfl⟩ := h.slice
  have HWA := Lib.hid (fun w' (hb : Below w.heap.size w w') i => Rn.word_any a _ i w' (h.below hb (Nat.le_refl _)) ha)
  have HX := Lib.hid (fun k => ha.getD k)
  obtain ⟨i0, hi, hz0, hz1, hz2⟩ := info_parts Nt.infoWord
  have hmk := Nt.make (n / 32) w (by omega)
  rw [show ((n / 32 : Nat) : Int) = (n : Int) / 32 by omega] at hmk
  have hr : n % 32 < 32 := Nat.mod_lt _ (by decide)
  have HP : Hid (2 ^ n = 4294967296 ^ (n / 32) * 2 ^ (n % 32)) := Lib.hid (by rw [Rn.b32, ← Nat.pow_add, Nat.div_add_mod])
  have HW0 := Lib.hid (Rn.own_zeros w (n / 32) (by omega))
  clear h ha
  go_enter Tryz.func232, Tryz.ntmps232
  go_wp2_with fail
  go_loopg [5, 6, 7] (a.length + 1) (fun g vo cv i wr => ∃ (k c : Nat) (ws : List Nat), k + g = a.length + 1 ∧ i = .int .i64 k ∧ cv = .int .u64 c ∧ c < 2 ^ (n % 32) ∧ ws.length = n / 32 + k ∧ Nt.Wd ws ∧ Nt.val ws + 4294967296 ^ (n / 32 + k) * c = 2 ^ n * Nt.val (a.take k) ∧ (k = a.length + 1 → c = 0) ∧ wr.ownsRow w.heap.size 144 1 vo (n / 32 + k) (Nt.vs ws) ∧ Below w.heap.size w wr)
  case atStart => exact ⟨0, 0, List.replicate (n / 32) 0, by omega, rfl, rfl, Nat.two_pow_pos _, by simp, Nt.Wd.zeros _, by simp [Nt.val, Nt.val_replicate], fun _ => rfl, HW0.out, (Below.refl _ _).alloc (Nat.le_refl _) _⟩
  case round =>
    obtain ⟨k, c, ws, hkg, rfl, rfl, hc1, hwl, hwd, hval, hcz, hown, hbw⟩ := hrel
    obtain ⟨wo, hwo⟩ : ∃ z, z = wr := ⟨_, rfl⟩
    subst hwo
    obtain ⟨L, hL⟩ : ∃ z, z = n / 32 + k := ⟨_, rfl⟩
    rw [← hL] at hwl hval hown
    have HO := Lib.hid hown
    have HB := Lib.hid hbw
    have HST := Lib.hid (And.intro hwl (And.intro hwd (And.intro hval (And.intro hcz hL))))
    obtain ⟨oa, oc, rfl⟩ := Rn.own_slice hown
    have hL2 : L ≤ 900001 := by omega
    have HKL := Lib.hid hkg
    clear hown hbw hwl hwd hval hcz hL
    by_cases hlt : k ≤ a.length
    · have K1 := HWA.out wo HB.out k
      have hx := HX.out k
      have HVT := Lib.hid (Nt.val_take_step a k)
      have HXZ : Hid (k = a.length → a.getD k 0 = 0) := Lib.hid (fun e => Nt.getD_ge a k (by omega))
      generalize a.getD k 0 = x at *
      have hp32 : 2 ^ (n % 32) ≤ 2147483648 := by
        have := Nat.pow_le_pow_right (n := 2) (by decide) (show n % 32 ≤ 31 by omega)
        exact this
      have hxp : x * 2 ^ (n % 32) ≤ 4294967295 * 2147483648 := Nat.mul_le_mul (by omega) hp32
      have hor := Rn.or_low64 (s := n % 32) (c := c) (m := x * 2 ^ (n % 32)) (by omega) hc1 ⟨x, Nat.mul_comm _ _⟩ (by omega)
      obtain ⟨P, hP⟩ : ∃ P, P = x * 2 ^ (n % 32) := ⟨_, rfl⟩
      rw [← hP] at hor hxp
      have hPI : (x : Int) * 2 ^ (n % 32) = (P : Int) := by rw [hP, Int.natCast_mul, Int.natCast_pow]; rfl
      have hPm : (P : Int) % 18446744073709551616 = (P : Int) := by omega
      have HPX := Lib.hid hP
      clear hP
      go_wp2_with fail
      refine K1.mono ?_
      rintro z w2 ⟨rfl, hb2⟩
      have HB2 := Lib.hid (HB.out.trans (hb2.mono HB.out.size))
      have HO2 := Lib.hid (Rn.own_below HO.out hb2 (Nat.le_refl _))
      clear hb2 K1
      obtain ⟨d, hd⟩ : ∃ d, d = (c + P) % 4294967296 := ⟨_, rfl⟩
      obtain ⟨c2, hc2⟩ : ∃ z, z = (c + P) / 4294967296 := ⟨_, rfl⟩
      have hdI : ((c : Int) + (P : Int)) % 4294967296 = (d : Int) := by omega
      have hcI : ((c : Int) + (P : Int)) / 4294967296 = (c2 : Int) := by omega
      have HDC := Lib.hid (show d + 4294967296 * c2 = c + P ∧ d < 4294967296 by omega)
      have HC2 : Hid (c2 < 2 ^ (n % 32) ∧ (k = a.length → c2 = 0)) := Lib.hid (by
        refine ⟨?_, fun e => ?_⟩
        · rw [hc2]
          refine Nat.div_lt_of_lt_mul ?_
          have h1 : x * 2 ^ (n % 32) ≤ 4294967295 * 2 ^ (n % 32) := Nat.mul_le_mul_right _ (by omega)
          rw [← HPX.out] at h1
          omega
        · have h1 := HPX.out
          rw [HXZ.out e, Nat.zero_mul] at h1
          rw [hc2, h1]
          omega)
      clear hd hc2
      go_wp2_with (at_builtin; refine Ls.wpList_append _ rfl _ _ 22 rfl w.heap.size 144 i0 (.int .u32 0) 1 4 Tryz.underlying22 hi hz0 hz1 hz2 rfl (by decide) _ L _ rfl (Rn.own_below HO2.out ((Below.refl _ _).alloc (Nat.le_refl _) _) (Nat.le_refl _)) _ 1 [.int .u32 (d : Int)] rfl (.inr ⟨_, _, rfl, rfl, World.news_of_block (heap_alloc_new _ _)⟩) (by intro u hu; simp at hu; subst hu; rfl) (by simp only [maxLen]; omega) (by omega) (Nat.le_trans HB2.out.size (by simp)) ?_)
      intro v' w' hown hg _
      rw [show Nt.vs ws ++ [.int .u32 (d : Int)] = Nt.vs (ws ++ [d]) by simp [Nt.vs]] at hown
      have HON := Lib.hid hown
      have hbA : Below w.heap.size w (w2.alloc (.cells #[.int .u32 (d : Int)] 144)) := HB2.out.alloc HB2.out.size _
      have HBN := Lib.hid (hbA.grown hg hbA.size (fun q hq => (Rn.own_below HO2.out ((Below.refl _ _).alloc (Nat.le_refl _) (.cells #[.int .u32 (d : Int)] 144)) (Nat.le_refl _)).lt q hq |>.1))
      obtain ⟨na, nc, rfl⟩ := Rn.own_slice hown
      clear hown hg hbA
      go_wp2_with fail
      go_roundg (gk - 1)
      case measure => omega
      case rel =>
        obtain ⟨h1, h2, h3, h4, h5⟩ := HST.out
        refine ⟨k + 1, c2, ws ++ [d], by omega, by first | rfl | go_num | (simp; try omega), by first | rfl | simp, HC2.out.1, by simp [h1, h5]; omega, Rn.wd_snoc h2 HDC.out.2, ?_, fun e => HC2.out.2 (by omega), by rw [show n / 32 + (k + 1) = L + 1 by omega]; exact HON.out, HBN.out⟩
        rw [Nt.val_append, HVT.out, h1, show n / 32 + (k + 1) = L + 1 by omega, Nat.mul_add, ← h3, HP.out]
        have e1 : Nt.val [d] = d := by simp [Nt.val]
        have e2 : 4294967296 ^ (n / 32) * 2 ^ (n % 32) * (4294967296 ^ k * x) = 4294967296 ^ L * P := by
          rw [HPX.out, h5, Nat.pow_add]
          simp only [Nat.mul_assoc, Nat.mul_left_comm, Nat.mul_comm]
        rw [e1, e2, Nat.pow_succ]
        have e3 := congrArg (4294967296 ^ L * ·) HDC.out.1
        simp only [Nat.mul_add, ← Nat.mul_assoc] at e3
        omega
    · have hk : k = a.length + 1 := by omega
      obtain ⟨h1, h2, h3, h4, h5⟩ := HST.out
      have hN : Nt.val ws = 2 ^ n * Nt.val a := by
        rw [h4 hk, Nat.mul_zero, Nat.add_zero, List.take_of_length_le (by omega)] at h3
        exact h3
      have KN := Rn.Norm_any ws (.slice oa L oc) wo (Nt.In.of_own (B := w.heap.size) (t := 144) (by rw [h1]; exact HO.out)) h2 (by omega)
      rw [hN] at KN
      clear hN h1 h2 h3 h4 h5
      go_wp2_with fail
      refine KN.mono ?_
      rintro z w8 ⟨v8, rfl, hn8, hb8⟩
      have HN8 := Lib.hid hn8
      have HB8 := Lib.hid (HB.out.trans (hb8.mono HB.out.size))
      clear hn8 hb8
      go_wp2_with fail
      go_ret
      exact ⟨_, rfl, HN8.out, HB8.out⟩
end Go.Proofs.YtikmebkfdpbidaaGreatDoor
namespace Go.Proofs.YtikmebkfdpbidaaGreatDoor
open Go.RowKit
set_option linter.unusedVariables false
set_option linter.unusedSimpArgs false

theorem Nt.drewN {B : Nat} {a w : World} (h : Below B a w) (n : Nat) : Below B a (w.drewN n) := h.trans ⟨rfl, rfl, rfl, Nat.le_refl _, fun _ _ => rfl⟩
set_option maxHeartbeats 4000000 in
set_option maxRecDepth 1000000 in
theorem Nt.Order_any (m n : Nat) (v v2 : Value) (w : World) (h : Nt.N w v m) (h2 : Nt.N w v2 n) (hl : (Nt.dig m).length ≤ 4611686018427387904) (hl2 : (Nt.dig n).length ≤ 4611686018427387904) : Calls Tryz.prog 169 #[v, v2] w fun e w' => e = .returned (.int .i64 (Nt.cmp m n)) ∧ Below w.heap.size w w' := by
  unfold Nt.N at h h2
  have hwa := Nt.dig_wd m
  have hwb := Nt.dig_wd n
  have hva := Nt.val_dig m
  have hvb := Nt.val_dig n
  have hlt1 : (Nt.dig m).length < (Nt.dig n).length → Nt.cmp m n = -1 := fun h => Nt.cmp_lt (Nt.dig_len_lt h)
  have hlt2 : (Nt.dig n).length < (Nt.dig m).length → Nt.cmp m n = 1 := fun h => Nt.cmp_gt (Nt.dig_len_lt h)
  have heq : (Nt.dig m).length = (Nt.dig n).length → (∀ j, j < (Nt.dig m).length → (Nt.dig m).getD j 0 = (Nt.dig n).getD j 0) → Nt.cmp m n = 0 := fun h1 h2 => by
    rw [Nt.dig_same h1 h2, Nt.cmp_eq]
  have hd1 : (Nt.dig m).length = (Nt.dig n).length → ∀ i, i < (Nt.dig m).length → (∀ j, i < j → j < (Nt.dig m).length → (Nt.dig m).getD j 0 = (Nt.dig n).getD j 0) → (Nt.dig m).getD i 0 < (Nt.dig n).getD i 0 → Nt.cmp m n = -1 := fun hl i hi hs hx => by
    have := Nt.val_lt_of hwa hwb hl hi hx hs
    rw [hva, hvb] at this
    exact Nt.cmp_lt this
  have hd2 : (Nt.dig m).length = (Nt.dig n).length → ∀ i, i < (Nt.dig m).length → (∀ j, i < j → j < (Nt.dig m).length → (Nt.dig m).getD j 0 = (Nt.dig n).getD j 0) → (Nt.dig n).getD i 0 < (Nt.dig m).getD i 0 → Nt.cmp m n = 1 := fun hl i hi hs hx => by
    have := Nt.val_lt_of hwb hwa hl.symm (by omega) hx (fun j h1 h2 => (hs j h1 (by omega)).symm)
    rw [hva, hvb] at this
    exact Nt.cmp_gt this
  generalize Nt.dig m = a at *
  generalize Nt.dig n = b at *
  generalize Nt.cmp m n = r at *
  obtain ⟨ad, cap, rfl⟩ := h.slice
  obtain ⟨ad2, cap2, rfl⟩ := h2.slice
  have H := Lib.hid h
  have H2 := Lib.hid h2
  have HL1 := Lib.hid hlt1
  have HL2 := Lib.hid hlt2
  have HE := Lib.hid heq
  have HD1 := Lib.hid hd1
  have HD2 := Lib.hid hd2
  clear h h2 hwa hwb hva hvb hlt1 hlt2 heq hd1 hd2
  by_cases hne : a.length = b.length
  case neg =>
    have hneI : ((a.length : Int) != (b.length : Int)) = true := by simp; omega
    by_cases hlt : a.length < b.length
    · obtain rfl := HL1.out hlt
      have hltI : (a.length : Int) < (b.length : Int) := by omega
      clear hne
      go_enter Tryz.func169, Tryz.ntmps169
      go_wp2_with fail
      go_ret
      exact ⟨rfl, Below.refl _ _⟩
    · obtain rfl := HL2.out (by omega)
      have hltI : ¬ (a.length : Int) < (b.length : Int) := by omega
      clear hne
      go_enter Tryz.func169, Tryz.ntmps169
      go_wp2_with fail
      go_ret
      exact ⟨rfl, Below.refl _ _⟩
  case pos =>
    have hneI : ((a.length : Int) != (b.length : Int)) = false := by simp; omega
    have HNE := Lib.hid hne
    clear hne
    go_enter Tryz.func169, Tryz.ntmps169
    go_wp2_with fail
    go_loopw [5] (fun i wr => ∃ k : Nat, i = .int .i64 ((k : Int) - 1) ∧ k ≤ a.length ∧ (∀ j, k ≤ j → j < a.length → a.getD j 0 = b.getD j 0) ∧ Below w.heap.size w wr) (fun i _ => (intOf i + 1).toNat)
    case atStart => exact ⟨a.length, by first | rfl | go_num | (simp; try omega), Nat.le_refl _, fun j h1 h2 => by omega, Below.refl _ _⟩
    case round =>
      obtain ⟨k, rfl, hk, hz, hbw⟩ := hrel
      have HZ := Lib.hid hz
      have HBW := Lib.hid hbw
      clear hz hbw
      rcases k with _ | k
      · obtain rfl := HE.out HNE.out (fun j hj => HZ.out j (Nat.zero_le _) hj)
        go_wp2_with fail
        go_ret
        exact ⟨rfl, HBW.out⟩
      · obtain ⟨b1, o1, rfl, _, hcap1, hbl1, hcell1⟩ := (H.out.below HBW.out (Nat.le_refl _)).at (by omega)
        obtain ⟨b2, o2, rfl, _, hcap2, hbl2, hcell2⟩ := (H2.out.below HBW.out (Nat.le_refl _)).at (by have := HNE.out; omega)
        have c1 := hcell1 k (by omega)
        have c2 := hcell2 k (by have := HNE.out; omega)
        have hk1 : (((k + 1 : Nat) : Int) - 1) = (k : Int) := by omega
        rw [hk1]
        have hkk : k < a.length := by omega
        have hi0 : (0 : Int) ≤ (k : Int) := by omega
        have hi1 : (k : Int) < (a.length : Int) := by omega
        have hi2 : (k : Int) < (b.length : Int) := by have := HNE.out; omega
        have hx1 := fun h => HD1.out HNE.out k hkk (fun j h1 h2 => HZ.out j (by omega) h2) h
        have hx2 := fun h => HD2.out HNE.out k hkk (fun j h1 h2 => HZ.out j (by omega) h2) h
        have hx3 : a.getD k 0 = b.getD k 0 → ∀ j, k ≤ j → j < a.length → a.getD j 0 = b.getD j 0 := fun h j h1 h2 => by
          rcases Nat.lt_or_ge k j with h3 | h3
          · exact HZ.out j (by omega) h2
          · obtain rfl : j = k := by omega
            exact h
        have HX1 := Lib.hid hx1
        have HX2 := Lib.hid hx2
        have HX3 := Lib.hid hx3
        have HBX : Hid (∀ n, Below w.heap.size w (wr.drewN n)) := Lib.hid (fun n => Nt.drewN HBW.out n)
        clear hx1 hx2 hx3 hcell1 hcell2
        generalize a.getD k 0 = x at *
        generalize b.getD k 0 = y at *
        by_cases h1 : x < y
        · obtain rfl := HX1.out h1
          have h1I : (x : Int) < (y : Int) := by omega
          clear h1
          go_wp2_with fail
          go_quiet (fail)
          go_wp2_with fail
          go_ret
          exact ⟨rfl, HBX.out _⟩
        · have h1I : ¬ (x : Int) < (y : Int) := by omega
          by_cases h2 : y < x
          · obtain rfl := HX2.out h2
            have h2I : (y : Int) < (x : Int) := by omega
            go_wp2_with fail
            go_quiet (fail)
            go_wp2_with fail
            go_quiet (fail)
            go_wp2_with fail
            go_ret
            exact ⟨rfl, Nt.drewN (HBX.out _) _⟩
          · have h2I : ¬ (y : Int) < (x : Int) := by omega
            have HXX := Lib.hid (HX3.out (by omega))
            go_wp2_with fail
            go_quiet (fail)
            go_wp2_with fail
            go_quiet (fail)
            go_wp2_with fail
            go_roundw
            case rel => exact ⟨k, by first | rfl | go_num | (simp; try omega), by omega, HXX.out, by first | exact HBX.out _ | exact Nt.drewN (HBX.out _) _⟩
            case measure => simp [intOf]
end Go.Proofs.YtikmebkfdpbidaaGreatDoor
namespace Go.Proofs.YtikmebkfdpbidaaGreatDoor
open Go.RowKit
set_option linter.unusedVariables false
set_option linter.unusedSimpArgs false

set_option maxHeartbeats 4000000 in
set_option maxRecDepth 1000000 in
theorem Rn.Order_any (m n : Nat) (v v2 : Value) (w : World) (h : Nt.N w v m) (h2 : Nt.N w v2 n) (hl : (Nt.dig m).length ≤ 4611686018427387904) (hl2 : (Nt.dig n).length ≤ 4611686018427387904) : Calls Tryz.prog 221 #[v, v2] w fun e w' => e = .returned (.int .i64 (Nt.cmp m n)) ∧ Below w.heap.size w w' := by
  unfold Nt.N at h h2
  have hwa := Nt.dig_wd m
  have hwb := Nt.dig_wd n
  have hva := Nt.val_dig m
  have hvb := Nt.val_dig n
  have hlt1 : (Nt.dig m).length < (Nt.dig n).length → Nt.cmp m n = -1 := fun h => Nt.cmp_lt (Nt.dig_len_lt h)
  have hlt2 : (Nt.dig n).length < (Nt.dig m).length → Nt.cmp m n = 1 := fun h => Nt.cmp_gt (Nt.dig_len_lt h)
  have heq : (Nt.dig m).length = (Nt.dig n).length → (∀ j, j < (Nt.dig m).length → (Nt.dig m).getD j 0 = (Nt.dig n).getD j 0) → Nt.cmp m n = 0 := fun h1 h2 => by
    rw [Nt.dig_same h1 h2, Nt.cmp_eq]
  have hd1 : (Nt.dig m).length = (Nt.dig n).length → ∀ i, i < (Nt.dig m).length → (∀ j, i < j → j < (Nt.dig m).length → (Nt.dig m).getD j 0 = (Nt.dig n).getD j 0) → (Nt.dig m).getD i 0 < (Nt.dig n).getD i 0 → Nt.cmp m n = -1 := fun hl i hi hs hx => by
    have := Nt.val_lt_of hwa hwb hl hi hx hs
    rw [hva, hvb] at this
    exact Nt.cmp_lt this
  have hd2 : (Nt.dig m).length = (Nt.dig n).length → ∀ i, i < (Nt.dig m).length → (∀ j, i < j → j < (Nt.dig m).length → (Nt.dig m).getD j 0 = (Nt.dig n).getD j 0) → (Nt.dig n).getD i 0 < (Nt.dig m).getD i 0 → Nt.cmp m n = 1 := fun hl i hi hs hx => by
    have := Nt.val_lt_of hwb hwa hl.symm (by omega) hx (fun j h1 h2 => (hs j h1 (by omega)).symm)
    rw [hva, hvb] at this
    exact Nt.cmp_gt this
  generalize Nt.dig m = a at *
  generalize Nt.dig n = b at *
  generalize Nt.cmp m n = r at *
  obtain ⟨ad, cap, rfl⟩ := h.slice
  obtain ⟨ad2, cap2, rfl⟩ := h2.slice
  have H := Lib.hid h
  have H2 := Lib.hid h2
  have HL1 := Lib.hid hlt1
  have HL2 := Lib.hid hlt2
  have HE := Lib.hid heq
  have HD1 := Lib.hid hd1
  have HD2 := Lib.hid hd2
  clear h h2 hwa hwb hva hvb hlt1 hlt2 heq hd1 hd2
  by_cases hne : a.length = b.length
  case neg =>
    by_cases hlt : a.length < b.length
    · obtain rfl := HL1.out hlt
      have hltI : (a.length : Int) < (b.length : Int) := by omega
      have hgtI : ¬ (a.length : Int) > (b.length : Int) := by omega
      clear hne
      go_enter Tryz.func221, Tryz.ntmps221
      go_wp2_with fail
      go_ret
      exact ⟨rfl, Below.refl _ _⟩
    · obtain rfl := HL2.out (by omega)
      have hgtI : (a.length : Int) > (b.length : Int) := by omega
      clear hne
      go_enter Tryz.func221, Tryz.ntmps221
      go_wp2_with fail
      go_ret
      exact ⟨rfl, Below.refl _ _⟩
  case pos =>
    have hltI : ¬ (a.length : Int) < (b.length : Int) := by omega
    have hgtI : ¬ (a.length : Int) > (b.length : Int) := by omega
    have HNE := Lib.hid hne
    clear hne
    go_enter Tryz.func221, Tryz.ntmps221
    go_wp2_with fail
    go_loopw [5] (fun i wr => ∃ k : Nat, i = .int .i64 ((k : Int) - 1) ∧ k ≤ a.length ∧ (∀ j, k ≤ j → j < a.length → a.getD j 0 = b.getD j 0) ∧ Below w.heap.size w wr) (fun i _ => (intOf i + 1).toNat)
    case atStart => exact ⟨a.length, by first | rfl | go_num | (simp; try omega), Nat.le_refl _, fun j h1 h2 => by omega, Below.refl _ _⟩
    case round =>
      obtain ⟨k, rfl, hk, hz, hbw⟩ := hrel
      have HZ := Lib.hid hz
      have HBW := Lib.hid hbw
      clear hz hbw
      rcases k with _ | k
      · obtain rfl := HE.out HNE.out (fun j hj => HZ.out j (Nat.zero_le _) hj)
        go_wp2_with fail
        go_ret
        exact ⟨rfl, HBW.out⟩
      · obtain ⟨b1, o1, rfl, _, hcap1, hbl1, hcell1⟩ := (H.out.below HBW.out (Nat.le_refl _)).at (by omega)
        obtain ⟨b2, o2, rfl, _, hcap2, hbl2, hcell2⟩ := (H2.out.below HBW.out (Nat.le_refl _)).at (by have := HNE.out; omega)
        have c1 := hcell1 k (by omega)
        have c2 := hcell2 k (by have := HNE.out; omega)
        have hk1 : (((k + 1 : Nat) : Int) - 1) = (k : Int) := by omega
        rw [hk1]
        have hkk : k < a.length := by omega
        have hi0 : (0 : Int) ≤ (k : Int) := by omega
        have hi1 : (k : Int) < (a.length : Int) := by omega
        have hi2 : (k : Int) < (b.length : Int) := by have := HNE.out; omega
        have hx1 := fun h => HD1.out HNE.out k hkk (fun j h1 h2 => HZ.out j (by omega) h2) h
        have hx2 := fun h => HD2.out HNE.out k hkk (fun j h1 h2 => HZ.out j (by omega) h2) h
        have hx3 : a.getD k 0 = b.getD k 0 → ∀ j, k ≤ j → j < a.length → a.getD j 0 = b.getD j 0 := fun h j h1 h2 => by
          rcases Nat.lt_or_ge k j with h3 | h3
          · exact HZ.out j (by omega) h2
          · obtain rfl : j = k := by omega
            exact h
        have HX1 := Lib.hid hx1
        have HX2 := Lib.hid hx2
        have HX3 := Lib.hid hx3
        have HBX : Hid (∀ n, Below w.heap.size w (wr.drewN n)) := Lib.hid (fun n => Nt.drewN HBW.out n)
        clear hx1 hx2 hx3 hcell1 hcell2
        generalize a.getD k 0 = x at *
        generalize b.getD k 0 = y at *
        by_cases h1 : y < x
        · obtain rfl := HX2.out h1
          have h1I : (x : Int) > (y : Int) := by omega
          clear h1
          go_wp2_with fail
          go_quiet (fail)
          go_wp2_with fail
          go_ret
          exact ⟨rfl, HBX.out _⟩
        · have h1I : ¬ (x : Int) > (y : Int) := by omega
          by_cases h2 : x < y
          · obtain rfl := HX1.out h2
            have h2I : (x : Int) < (y : Int) := by omega
            go_wp2_with fail
            go_quiet (fail)
            go_wp2_with fail
            go_quiet (fail)
            go_wp2_with fail
            go_ret
            exact ⟨rfl, Nt.drewN (HBX.out _) _⟩
          · have h2I : ¬ (x : Int) < (y : Int) := by omega
            have HXX := Lib.hid (HX3.out (by omega))
            go_wp2_with fail
            go_quiet (fail)
            go_wp2_with fail
            go_quiet (fail)
            go_wp2_with fail
            go_roundw
            case rel => exact ⟨k, by first | rfl | go_num | (simp; try omega), by omega, HXX.out, by first | exact HBX.out _ | exact Nt.drewN (HBX.out _) _⟩
            case measure => simp [intOf]
end Go.Proofs.YtikmebkfdpbidaaGreatDoor
namespace Go.Proofs.YtikmebkfdpbidaaGreatDoor
open Go.RowKit
set_option linter.unusedVariables false
set_option linter.unusedSimpArgs false

set_option maxHeartbeats 2000000 in
set_option maxRecDepth 1000000 in
theorem Rn.Divisor_any (m n : Nat) (v v2 : Value) (w : World) (h : Nt.N w v m) (h2 : Nt.N w v2 n) (hl : (Nt.dig m).length ≤ 400000) (hl2 : (Nt.dig n).length ≤ 400000) :
    Calls Tryz.prog 203 #[v, v2] w fun e w' => ∃ v', e = .returned v' ∧ Nt.N w' v' (Nat.gcd m n) ∧ Below w.heap.size w w' := by
  obtain ⟨ad, cap, rfl⟩ := Nt.In.slice h
  obtain ⟨ad2, cap2, rfl⟩ := Nt.In.slice h2
  rcases Nat.eq_zero_or_pos m with hm0 | hm0
  · have hlen : (Nt.dig m).length = 0 := by rw [hm0, Nt.dig_zero]; rfl
    rw [hlen]
    have KN := Rn.Norm_any (Nt.dig n) _ w h2 (Nt.dig_wd _) (by omega)
    rw [Nt.val_dig] at KN
    have HG : Hid (Nat.gcd m n = n) := Lib.hid (by rw [hm0, Nat.gcd_zero_left])
    clear h h2 hlen hm0
    go_enter Tryz.func203, Tryz.ntmps203
    go_wp2_with fail
    refine KN.mono ?_
    rintro z w8 ⟨v8, rfl, hn8, hb8⟩
    have HN8 := Lib.hid (And.intro hn8 hb8)
    clear hn8 hb8
    go_wp2_with fail
    go_ret
    exact ⟨_, rfl, by rw [HG.out]; exact HN8.out.1, HN8.out.2⟩
  have hmI : (((Nt.dig m).length : Int) == 0) = false := by
    have := Nt.dig_len_pos.2 hm0
    exact beq_eq_false_iff_ne.2 (by omega)
  rcases Nat.eq_zero_or_pos n with hn0 | hn0
  · have hlen : (Nt.dig n).length = 0 := by rw [hn0, Nt.dig_zero]; rfl
    rw [hlen]
    have KN := Rn.Norm_any (Nt.dig m) _ w h (Nt.dig_wd _) (by omega)
    rw [Nt.val_dig] at KN
    have HG : Hid (Nat.gcd m n = m) := Lib.hid (by rw [hn0, Nat.gcd_zero_right])
    clear h h2 hlen hm0 hn0
    go_enter Tryz.func203, Tryz.ntmps203
    go_wp2_with fail
    refine KN.mono ?_
    rintro z w8 ⟨v8, rfl, hn8, hb8⟩
    have HN8 := Lib.hid (And.intro hn8 hb8)
    clear hn8 hb8
    go_wp2_with fail
    go_ret
    exact ⟨_, rfl, by rw [HG.out]; exact HN8.out.1, HN8.out.2⟩
  have hnI : (((Nt.dig n).length : Int) == 0) = false := by
    have := Nt.dig_len_pos.2 hn0
    exact beq_eq_false_iff_ne.2 (by omega)
  have HBM : Hid (∀ w', Below w.heap.size w w' → ∀ k, k ≤ 4611686018427387904 → Calls Tryz.prog 229 #[.slice ad (Nt.dig m).length cap, .int .i64 (k : Nat)] w' fun e w'' => e = .returned (.int .u32 (m / 2 ^ k % 2 : Nat)) ∧ Below w'.heap.size w' w'') := Lib.hid (fun w' hb k hk => by
    have := Rn.Bit_any (Nt.dig m) _ k w' (Nt.In.below h hb (Nat.le_refl _)) (Nt.dig_wd _) hk
    rw [Rn.bit_val (Nt.dig_wd _), Nt.val_dig] at this
    exact this)
  have HBN : Hid (∀ w', Below w.heap.size w w' → ∀ k, k ≤ 4611686018427387904 → Calls Tryz.prog 229 #[.slice ad2 (Nt.dig n).length cap2, .int .i64 (k : Nat)] w' fun e w'' => e = .returned (.int .u32 (n / 2 ^ k % 2 : Nat)) ∧ Below w'.heap.size w' w'') := Lib.hid (fun w' hb k hk => by
    have := Rn.Bit_any (Nt.dig n) _ k w' (Nt.In.below h2 hb (Nat.le_refl _)) (Nt.dig_wd _) hk
    rw [Rn.bit_val (Nt.dig_wd _), Nt.val_dig] at this
    exact this)
  have HOM := Lib.hid (fun w' (hb : Below w.heap.size w w') => Rn.odd_any (Nt.dig m) _ w' (Nt.In.below h hb (Nat.le_refl _)) (Nt.dig_wd _) (by omega) (by rw [Nt.val_dig]; exact hm0))
  have HON := Lib.hid (fun w' (hb : Below w.heap.size w w') => Rn.odd_any (Nt.dig n) _ w' (Nt.In.below h2 hb (Nat.le_refl _)) (Nt.dig_wd _) (by omega) (by rw [Nt.val_dig]; exact hn0))
  rw [Nt.val_dig] at HOM HON
  have HVM : Hid (m < 2 ^ (32 * (Nt.dig m).length)) := Lib.hid (by have := Nt.val_lt (Nt.dig m) (Nt.dig_wd _); rw [Nt.val_dig, Rn.b32] at this; exact this)
  have HM0 := Lib.hid hm0
  have HML := Lib.hid (And.intro hl hl2)
  clear h h2 hm0 hn0
  go_enter Tryz.func203, Tryz.ntmps203
  go_wp2_with fail
  go_loopg [5] (32 * (Nt.dig m).length) (fun g i wr => ∃ k : Nat, i = .int .i64 k ∧ k + g = 32 * (Nt.dig m).length ∧ 2 ^ k ∣ m ∧ 2 ^ k ∣ n ∧ Below w.heap.size w wr)
  case atStart => exact ⟨0, by first | rfl | go_num | (simp; try omega), by omega, by simp, by simp, Below.refl _ _⟩
  case round =>
    obtain ⟨k, rfl, hk, hd1, hd2, hb⟩ := hrel
    obtain ⟨wo, hwo⟩ : ∃ z, z = wr := ⟨_, rfl⟩
    subst hwo
    have hklt : k < 32 * (Nt.dig m).length := by
      rcases Nat.lt_or_ge k (32 * (Nt.dig m).length) with h1 | h1
      · exact h1
      · have h2 := Nat.le_of_dvd HM0.out hd1
        have h3 : 2 ^ (32 * (Nt.dig m).length) ≤ 2 ^ k := Nat.pow_le_pow_right (by decide) h1
        have := HVM.out
        omega
    have HDV := Lib.hid (And.intro hd1 hd2)
    have HBW := Lib.hid hb
    have HKL : Hid (k ≤ 16000000 ∧ k < 32 * (Nt.dig m).length) := Lib.hid (by omega)
    have KM := HBM.out wo HBW.out k (by omega)
    clear hd1 hd2 hb
    by_cases hx : m / 2 ^ k % 2 = 0
    · rw [hx] at KM
      have HX1 := Lib.hid hx
      clear hx
      go_wp2_with fail
      refine KM.mono ?_
      rintro z w1 ⟨rfl, hb1⟩
      have HB1 := Lib.hid (HBW.out.trans (hb1.mono HBW.out.size))
      have KNN := HBN.out w1 HB1.out k (by omega)
      clear hb1 KM
      by_cases hx2 : n / 2 ^ k % 2 = 0
      · rw [hx2] at KNN
        have HX2 := Lib.hid hx2
        clear hx2
        go_wp2_with fail
        refine KNN.mono ?_
        rintro z w2 ⟨rfl, hb2⟩
        have HB2 := Lib.hid (HB1.out.trans (hb2.mono HB1.out.size))
        clear hb2 KNN
        go_wp2_with fail
        go_roundg (gk - 1)
        case measure => omega
        case rel => exact ⟨k + 1, by first | rfl | go_num | (simp; try omega), by omega, Rn.two_step HDV.out.1 HX1.out, Rn.two_step HDV.out.2 HX2.out, HB2.out⟩
      · have HEX : Hid (¬ (m / 2 ^ k % 2 = 0 ∧ n / 2 ^ k % 2 = 0)) := Lib.hid (fun h => hx2 h.2)
        have hx1 : n / 2 ^ k % 2 = 1 := by
          have h3 : ∀ z : Nat, ¬ z % 2 = 0 → z % 2 = 1 := by omega
          exact h3 _ hx2
        rw [hx1] at KNN
        clear hx2 hx1
        go_wp2_with fail
        refine KNN.mono ?_
        rintro z w2 ⟨rfl, hb2⟩
        have HB2 := Lib.hid (HB1.out.trans (hb2.mono HB1.out.size))
        clear hb2 KNN hk hklt
        go_wp2_with fail
        refine (HOM.out w2 HB2.out).mono ?_
        rintro z w3 ⟨v3, t1, o1, rfl, hn3, ho1, hm1, hb3⟩
        have HB3 := Lib.hid (HB2.out.trans (hb3.mono HB2.out.size))
        obtain ⟨a3, c3, rfl⟩ := Nt.In.slice hn3
        have HN3 := Lib.hid (And.intro hn3 (And.intro ho1 hm1))
        clear hn3 ho1 hm1 hb3
        go_wp2_with fail
        refine (HON.out w3 HB3.out).mono ?_
        rintro z w4 ⟨v4, t2, o2, rfl, hn4, ho2, hm2, hb4⟩
        have HB4 := Lib.hid (HB3.out.trans (hb4.mono HB3.out.size))
        obtain ⟨a4, c4, rfl⟩ := Nt.In.slice hn4
        have HN4 := Lib.hid (And.intro hn4 (And.intro ho2 hm2))
        have HN3' := Lib.hid (Nt.In.below HN3.out.1 hb4 (Nat.le_refl _))
        have HG : Hid (Nat.gcd m n = 2 ^ k * Nat.gcd o1 o2) := Lib.hid (Rn.gcd_twos HN3.out.2.2 hm2 HN3.out.2.1 ho2 HDV.out.1 HDV.out.2 HEX.out)
        have HLO : Hid ((Nt.dig o1).length ≤ 400000 ∧ (Nt.dig o2).length ≤ 400000) := Lib.hid ⟨Nat.le_trans (Rn.dig_le (by rw [HN3.out.2.2]; exact Nat.le_mul_of_pos_left _ (Nat.two_pow_pos _))) HML.out.1, Nat.le_trans (Rn.dig_le (by rw [hm2]; exact Nat.le_mul_of_pos_left _ (Nat.two_pow_pos _))) HML.out.2⟩
        clear hn4 ho2 hm2 hb4
        go_wp2_with fail
        go_loopg [0, 1] (o1 + o2) (fun g va vb wr => ∃ x y : Nat, x + y = g ∧ Nt.N wr va x ∧ Nt.N wr vb y ∧ x % 2 = 1 ∧ y % 2 = 1 ∧ Nat.gcd x y = Nat.gcd o1 o2 ∧ (Nt.dig x).length ≤ 400000 ∧ (Nt.dig y).length ≤ 400000 ∧ Below w.heap.size w wr)
        case atStart => exact ⟨o1, o2, rfl, HN3'.out, HN4.out.1, HN3.out.2.1, HN4.out.2.1, rfl, HLO.out.1, HLO.out.2, HB4.out⟩
        case round =>
          obtain ⟨x, y, hg, hnx, hny, hox, hoy, hgc, hlx, hly, hbp⟩ := hrel
          obtain ⟨wp, hwp⟩ : ∃ z, z = wr := ⟨_, rfl⟩
          subst hwp
          have HXY := Lib.hid (And.intro hnx (And.intro hny (And.intro hox (And.intro hoy (And.intro hgc (And.intro hlx hly))))))
          have HBP := Lib.hid hbp
          have HXP : Hid (0 < x ∧ 0 < y) := Lib.hid (by omega)
          obtain ⟨px, cx, rfl⟩ := Nt.In.slice hnx
          obtain ⟨py, cy, rfl⟩ := Nt.In.slice hny
          have HORD := Lib.hid (fun w' (hb : Below wp.heap.size wp w') => Rn.Order_any x y _ _ w' (Nt.In.below hnx hb (Nat.le_refl _)) (Nt.In.below hny hb (Nat.le_refl _)) (by omega) (by omega))
          have HSX := Lib.hid (fun w' (hb : Below wp.heap.size wp w') => Rn.Size_any (Nt.dig x) _ w' (Nt.In.below hnx hb (Nat.le_refl _)) (Nt.dig_wd _) (by omega))
          have HSY := Lib.hid (fun w' (hb : Below wp.heap.size wp w') => Rn.Size_any (Nt.dig y) _ w' (Nt.In.below hny hb (Nat.le_refl _)) (Nt.dig_wd _) (by omega))
          rw [Nt.val_dig] at HSX HSY
          clear hnx hny hox hoy hgc hbp
          rcases Nat.lt_trichotomy x y with hxy | hxy | hxy
          · have HLT := Lib.hid hxy
            have HLS := Lib.hid (fun w' (hb : Below wp.heap.size wp w') => Rn.Less_any (Nt.dig y) (Nt.dig x) _ _ w' (Nt.In.below HXY.out.2.1 hb (Nat.le_refl _)) (Nt.In.below HXY.out.1 hb (Nat.le_refl _)) (Nt.dig_wd _) (Nt.dig_wd _) (by omega) (Rn.dig_le (by omega)) (by rw [Nt.val_dig, Nt.val_dig]; omega))
            rw [Nt.val_dig, Nt.val_dig] at HLS
            have HLEN : Hid ((Nt.dig (y - x)).length ≤ 1000000) := Lib.hid (Nat.le_trans (Rn.dig_le (show y - x ≤ y by omega)) (by omega))
            rw [Nt.cmp_lt hxy] at HORD
            clear hxy hlx hly
            go_wp2_with fail
            refine (HORD.out wp (Below.refl _ _)).mono ?_
            rintro z w5 ⟨rfl, hb5⟩
            have HB5 := Lib.hid (HBP.out.trans (hb5.mono HBP.out.size))
            have HP5 := Lib.hid hb5
            clear hb5
            go_wp2_with fail
            refine (HSX.out w5 HP5.out).mono ?_
            rintro z w6 ⟨s1, rfl, hs1a, hs1b, hb6⟩
            have HS1 := Lib.hid (Rn.size_one HXP.out.1 hs1a hs1b)
            have HB6 := Lib.hid (HB5.out.trans (hb6.mono HB5.out.size))
            have HP6 := Lib.hid (HP5.out.trans (hb6.mono HP5.out.size))
            clear hs1a hs1b hb6
            by_cases hs : s1 = 1
            · subst hs
              have HONE : Hid (Nat.gcd x y = 1) := Lib.hid (by rw [HS1.out.1 rfl]; exact Nat.gcd_one_left _)
              have hA : Below w.heap.size w (w6.alloc (.cells (Nt.row [1]) 144)) := HB6.out.alloc HB6.out.size _
              have KU := Rn.Up_any [1] k _ (w6.alloc (.cells (Nt.row [1]) 144)) (Nt.In.of_row (heap_alloc_new w6 _)) (fun z hz => by simp at hz; omega) (by simp) HKL.out.1
              have e1 : Nt.row [1] = #[.int .u32 1] := rfl
              rw [e1] at KU hA
              have HAX := Lib.hid hA
              clear e1 hA
              go_wp2_with fail
              refine KU.mono ?_
              rintro z wu ⟨vu, rfl, hnu, hbu⟩
              have HNU := Lib.hid hnu
              have HBU := Lib.hid (HAX.out.trans (hbu.mono HAX.out.size))
              clear KU hnu hbu
              go_wp2_with fail
              go_ret
              refine ⟨_, rfl, ?_, HBU.out⟩
              have e2 : Nt.val [1] = 1 := by simp [Nt.val]
              have := HNU.out
              rw [e2] at this
              rw [HG.out, ← HXY.out.2.2.2.2.1, HONE.out]
              exact this
            · have hsI : ((s1 : Int) == 1) = false := by simp; omega
              go_wp2_with fail
              refine (HSY.out w6 HP6.out).mono ?_
              rintro z w7 ⟨s2, rfl, hs2a, hs2b, hb7⟩
              have HS2 := Lib.hid (Rn.size_one HXP.out.2 hs2a hs2b)
              have HB7 := Lib.hid (HB6.out.trans (hb7.mono HB6.out.size))
              have HP7 := Lib.hid (HP6.out.trans (hb7.mono HP6.out.size))
              clear hs2a hs2b hb7
              by_cases hs2 : s2 = 1
              · subst hs2
                have HONE : Hid (Nat.gcd x y = 1) := Lib.hid (by rw [HS2.out.1 rfl]; exact Nat.gcd_one_right _)
                have hA : Below w.heap.size w (w7.alloc (.cells (Nt.row [1]) 144)) := HB7.out.alloc HB7.out.size _
                have KU := Rn.Up_any [1] k _ (w7.alloc (.cells (Nt.row [1]) 144)) (Nt.In.of_row (heap_alloc_new w7 _)) (fun z hz => by simp at hz; omega) (by simp) HKL.out.1
                have e1 : Nt.row [1] = #[.int .u32 1] := rfl
                rw [e1] at KU hA
                have HAX := Lib.hid hA
                clear e1 hA
                go_wp2_with fail
                refine KU.mono ?_
                rintro z wu ⟨vu, rfl, hnu, hbu⟩
                have HNU := Lib.hid hnu
                have HBU := Lib.hid (HAX.out.trans (hbu.mono HAX.out.size))
                clear KU hnu hbu
                go_wp2_with fail
                go_ret
                refine ⟨_, rfl, ?_, HBU.out⟩
                have e2 : Nt.val [1] = 1 := by simp [Nt.val]
                have := HNU.out
                rw [e2] at this
                rw [HG.out, ← HXY.out.2.2.2.2.1, HONE.out]
                exact this
              · have hs2I : ((s2 : Int) == 1) = false := by simp; omega
                go_wp2_with fail
                refine (HORD.out w7 HP7.out).mono ?_
                rintro z w8 ⟨rfl, hb8⟩
                have HB8 := Lib.hid (HB7.out.trans (hb8.mono HB7.out.size))
                have HP8 := Lib.hid (HP7.out.trans (hb8.mono HP7.out.size))
                clear hb8
                have KL := HLS.out w8 HP8.out
                go_wp2_with fail
                refine KL.mono ?_
                rintro z w9 ⟨v9, rfl, hn9, hb9⟩
                have HB9 := Lib.hid (HB8.out.trans (hb9.mono HB8.out.size))
                have HP9 := Lib.hid (HP8.out.trans (hb9.mono HP8.out.size))
                have KO := Rn.odd_any (Nt.dig (y - x)) v9 w9 hn9 (Nt.dig_wd _) HLEN.out (by rw [Nt.val_dig]; have := HLT.out; omega)
                rw [Nt.val_dig] at KO
                obtain ⟨p9, c9, rfl⟩ := Nt.In.slice hn9
                clear hn9 hb9 KL
                go_wp2_with fail
                refine KO.mono ?_
                rintro z wq ⟨vq, t3, o3, rfl, hnq, ho3, hd3, hbq⟩
                have HBQ := Lib.hid (HB9.out.trans (hbq.mono HB9.out.size))
                have HPQ := Lib.hid (HP9.out.trans (hbq.mono HP9.out.size))
                have HNQ := Lib.hid (And.intro hnq (And.intro ho3 hd3))
                obtain ⟨pq, cq, rfl⟩ := Nt.In.slice hnq
                clear hnq hbq KO ho3 hd3
                go_wp2_with fail
                have HO3 : Hid (o3 ≤ y - x) := Lib.hid (by
                  rw [HNQ.out.2.2]
                  exact Nat.le_mul_of_pos_left _ (Nat.two_pow_pos _))
                have hlt9 := HLT.out
                have hle9 := HO3.out
                have hps := HXP.out
                go_roundg (o3 + x)
                case measure => omega
                case rel =>
                  obtain ⟨q1, q2, q3, q4, q5, q6, q7⟩ := HXY.out
                  refine ⟨o3, x, rfl, HNQ.out.1, Nt.In.below q1 HPQ.out (Nat.le_refl _), HNQ.out.2.1, q3, ?_, Nat.le_trans (Rn.dig_le (show o3 ≤ y by omega)) q7, q6, HBQ.out⟩
                  rw [← q5]
                  rw [Rn.gcd_less q3 (by omega) HNQ.out.2.2, Nat.gcd_comm]
          · subst hxy
            rw [Nt.cmp_eq] at HORD
            have KUX := Lib.hid (fun w' (hb : Below wp.heap.size wp w') => Rn.Up_any (Nt.dig x) k _ w' (Nt.In.below HXY.out.1 hb (Nat.le_refl _)) (Nt.dig_wd _) (by omega) HKL.out.1)
            rw [Nt.val_dig] at KUX
            clear hlx hly
            go_wp2_with fail
            refine (HORD.out wp (Below.refl _ _)).mono ?_
            rintro z w5 ⟨rfl, hb5⟩
            have HB5 := Lib.hid (HBP.out.trans (hb5.mono HBP.out.size))
            have HP5 := Lib.hid hb5
            clear hb5
            go_wp2_with fail
            refine (KUX.out w5 HP5.out).mono ?_
            rintro z w6 ⟨v6, rfl, hn6, hb6⟩
            have HN6 := Lib.hid hn6
            have HB6 := Lib.hid (HB5.out.trans (hb6.mono HB5.out.size))
            clear hn6 hb6
            go_wp2_with fail
            go_ret
            refine ⟨_, rfl, ?_, HB6.out⟩
            rw [HG.out, ← HXY.out.2.2.2.2.1, Nat.gcd_self]
            exact HN6.out
          · have HLT := Lib.hid hxy
            have HLS := Lib.hid (fun w' (hb : Below wp.heap.size wp w') => Rn.Less_any (Nt.dig x) (Nt.dig y) _ _ w' (Nt.In.below HXY.out.1 hb (Nat.le_refl _)) (Nt.In.below HXY.out.2.1 hb (Nat.le_refl _)) (Nt.dig_wd _) (Nt.dig_wd _) (by omega) (Rn.dig_le (by omega)) (by rw [Nt.val_dig, Nt.val_dig]; omega))
            rw [Nt.val_dig, Nt.val_dig] at HLS
            have HLEN : Hid ((Nt.dig (x - y)).length ≤ 1000000) := Lib.hid (Nat.le_trans (Rn.dig_le (show x - y ≤ x by omega)) (by omega))
            rw [Nt.cmp_gt hxy] at HORD
            clear hxy hlx hly
            go_wp2_with fail
            refine (HORD.out wp (Below.refl _ _)).mono ?_
            rintro z w5 ⟨rfl, hb5⟩
            have HB5 := Lib.hid (HBP.out.trans (hb5.mono HBP.out.size))
            have HP5 := Lib.hid hb5
            clear hb5
            go_wp2_with fail
            refine (HSX.out w5 HP5.out).mono ?_
            rintro z w6 ⟨s1, rfl, hs1a, hs1b, hb6⟩
            have HS1 := Lib.hid (Rn.size_one HXP.out.1 hs1a hs1b)
            have HB6 := Lib.hid (HB5.out.trans (hb6.mono HB5.out.size))
            have HP6 := Lib.hid (HP5.out.trans (hb6.mono HP5.out.size))
            clear hs1a hs1b hb6
            by_cases hs : s1 = 1
            · subst hs
              have HONE : Hid (Nat.gcd x y = 1) := Lib.hid (by rw [HS1.out.1 rfl]; exact Nat.gcd_one_left _)
              have hA : Below w.heap.size w (w6.alloc (.cells (Nt.row [1]) 144)) := HB6.out.alloc HB6.out.size _
              have KU := Rn.Up_any [1] k _ (w6.alloc (.cells (Nt.row [1]) 144)) (Nt.In.of_row (heap_alloc_new w6 _)) (fun z hz => by simp at hz; omega) (by simp) HKL.out.1
              have e1 : Nt.row [1] = #[.int .u32 1] := rfl
              rw [e1] at KU hA
              have HAX := Lib.hid hA
              clear e1 hA
              go_wp2_with fail
              refine KU.mono ?_
              rintro z wu ⟨vu, rfl, hnu, hbu⟩
              have HNU := Lib.hid hnu
              have HBU := Lib.hid (HAX.out.trans (hbu.mono HAX.out.size))
              clear KU hnu hbu
              go_wp2_with fail
              go_ret
              refine ⟨_, rfl, ?_, HBU.out⟩
              have e2 : Nt.val [1] = 1 := by simp [Nt.val]
              have := HNU.out
              rw [e2] at this
              rw [HG.out, ← HXY.out.2.2.2.2.1, HONE.out]
              exact this
            · have hsI : ((s1 : Int) == 1) = false := by simp; omega
              go_wp2_with fail
              refine (HSY.out w6 HP6.out).mono ?_
              rintro z w7 ⟨s2, rfl, hs2a, hs2b, hb7⟩
              have HS2 := Lib.hid (Rn.size_one HXP.out.2 hs2a hs2b)
              have HB7 := Lib.hid (HB6.out.trans (hb7.mono HB6.out.size))
              have HP7 := Lib.hid (HP6.out.trans (hb7.mono HP6.out.size))
              clear hs2a hs2b hb7
              by_cases hs2 : s2 = 1
              · subst hs2
                have HONE : Hid (Nat.gcd x y = 1) := Lib.hid (by rw [HS2.out.1 rfl]; exact Nat.gcd_one_right _)
                have hA : Below w.heap.size w (w7.alloc (.cells (Nt.row [1]) 144)) := HB7.out.alloc HB7.out.size _
                have KU := Rn.Up_any [1] k _ (w7.alloc (.cells (Nt.row [1]) 144)) (Nt.In.of_row (heap_alloc_new w7 _)) (fun z hz => by simp at hz; omega) (by simp) HKL.out.1
                have e1 : Nt.row [1] = #[.int .u32 1] := rfl
                rw [e1] at KU hA
                have HAX := Lib.hid hA
                clear e1 hA
                go_wp2_with fail
                refine KU.mono ?_
                rintro z wu ⟨vu, rfl, hnu, hbu⟩
                have HNU := Lib.hid hnu
                have HBU := Lib.hid (HAX.out.trans (hbu.mono HAX.out.size))
                clear KU hnu hbu
                go_wp2_with fail
                go_ret
                refine ⟨_, rfl, ?_, HBU.out⟩
                have e2 : Nt.val [1] = 1 := by simp [Nt.val]
                have := HNU.out
                rw [e2] at this
                rw [HG.out, ← HXY.out.2.2.2.2.1, HONE.out]
                exact this
              · have hs2I : ((s2 : Int) == 1) = false := by simp; omega
                go_wp2_with fail
                refine (HORD.out w7 HP7.out).mono ?_
                rintro z w8 ⟨rfl, hb8⟩
                have HB8 := Lib.hid (HB7.out.trans (hb8.mono HB7.out.size))
                have HP8 := Lib.hid (HP7.out.trans (hb8.mono HP7.out.size))
                clear hb8
                have KL := HLS.out w8 HP8.out
                go_wp2_with fail
                refine KL.mono ?_
                rintro z w9 ⟨v9, rfl, hn9, hb9⟩
                have HB9 := Lib.hid (HB8.out.trans (hb9.mono HB8.out.size))
                have HP9 := Lib.hid (HP8.out.trans (hb9.mono HP8.out.size))
                have KO := Rn.odd_any (Nt.dig (x - y)) v9 w9 hn9 (Nt.dig_wd _) HLEN.out (by rw [Nt.val_dig]; have := HLT.out; omega)
                rw [Nt.val_dig] at KO
                obtain ⟨p9, c9, rfl⟩ := Nt.In.slice hn9
                clear hn9 hb9 KL
                go_wp2_with fail
                refine KO.mono ?_
                rintro z wq ⟨vq, t3, o3, rfl, hnq, ho3, hd3, hbq⟩
                have HBQ := Lib.hid (HB9.out.trans (hbq.mono HB9.out.size))
                have HPQ := Lib.hid (HP9.out.trans (hbq.mono HP9.out.size))
                have HNQ := Lib.hid (And.intro hnq (And.intro ho3 hd3))
                obtain ⟨pq, cq, rfl⟩ := Nt.In.slice hnq
                clear hnq hbq KO ho3 hd3
                go_wp2_with fail
                have HO3 : Hid (o3 ≤ x - y) := Lib.hid (by
                  rw [HNQ.out.2.2]
                  exact Nat.le_mul_of_pos_left _ (Nat.two_pow_pos _))
                have hlt9 := HLT.out
                have hle9 := HO3.out
                have hps := HXP.out
                go_roundg (o3 + y)
                case measure => omega
                case rel =>
                  obtain ⟨q1, q2, q3, q4, q5, q6, q7⟩ := HXY.out
                  refine ⟨o3, y, rfl, HNQ.out.1, Nt.In.below q2 HPQ.out (Nat.le_refl _), HNQ.out.2.1, q4, ?_, Nat.le_trans (Rn.dig_le (show o3 ≤ x by omega)) q6, q7, HBQ.out⟩
                  rw [← q5]
                  exact Rn.gcd_less q4 (by omega) HNQ.out.2.2
    · have HEX : Hid (¬ (m / 2 ^ k % 2 = 0 ∧ n / 2 ^ k % 2 = 0)) := Lib.hid (fun h => hx h.1)
      have hx1 : m / 2 ^ k % 2 = 1 := by
        have h3 : ∀ z : Nat, ¬ z % 2 = 0 → z % 2 = 1 := by omega
        exact h3 _ hx
      rw [hx1] at KM
      clear hx hx1
      go_wp2_with fail
      refine KM.mono ?_
      rintro z w1 ⟨rfl, hb1⟩
      have HB1 := Lib.hid (HBW.out.trans (hb1.mono HBW.out.size))
      clear hb1 KM hk hklt
      go_wp2_with fail
      refine (HOM.out w1 HB1.out).mono ?_
      rintro z w3 ⟨v3, t1, o1, rfl, hn3, ho1, hm1, hb3⟩
      have HB3 := Lib.hid (HB1.out.trans (hb3.mono HB1.out.size))
      obtain ⟨a3, c3, rfl⟩ := Nt.In.slice hn3
      have HN3 := Lib.hid (And.intro hn3 (And.intro ho1 hm1))
      clear hn3 ho1 hm1 hb3
      go_wp2_with fail
      refine (HON.out w3 HB3.out).mono ?_
      rintro z w4 ⟨v4, t2, o2, rfl, hn4, ho2, hm2, hb4⟩
      have HB4 := Lib.hid (HB3.out.trans (hb4.mono HB3.out.size))
      obtain ⟨a4, c4, rfl⟩ := Nt.In.slice hn4
      have HN4 := Lib.hid (And.intro hn4 (And.intro ho2 hm2))
      have HN3' := Lib.hid (Nt.In.below HN3.out.1 hb4 (Nat.le_refl _))
      have HG : Hid (Nat.gcd m n = 2 ^ k * Nat.gcd o1 o2) := Lib.hid (Rn.gcd_twos HN3.out.2.2 hm2 HN3.out.2.1 ho2 HDV.out.1 HDV.out.2 HEX.out)
      have HLO : Hid ((Nt.dig o1).length ≤ 400000 ∧ (Nt.dig o2).length ≤ 400000) := Lib.hid ⟨Nat.le_trans (Rn.dig_le (by rw [HN3.out.2.2]; exact Nat.le_mul_of_pos_left _ (Nat.two_pow_pos _))) HML.out.1, Nat.le_trans (Rn.dig_le (by rw [hm2]; exact Nat.le_mul_of_pos_left _ (Nat.two_pow_pos _))) HML.out.2⟩
      clear hn4 ho2 hm2 hb4
      go_wp2_with fail
      go_loopg [0, 1] (o1 + o2) (fun g va vb wr => ∃ x y : Nat, x + y = g ∧ Nt.N wr va x ∧ Nt.N wr vb y ∧ x % 2 = 1 ∧ y % 2 = 1 ∧ Nat.gcd x y = Nat.gcd o1 o2 ∧ (Nt.dig x).length ≤ 400000 ∧ (Nt.dig y).length ≤ 400000 ∧ Below w.heap.size w wr)
      case atStart => exact ⟨o1, o2, rfl, HN3'.out, HN4.out.1, HN3.out.2.1, HN4.out.2.1, rfl, HLO.out.1, HLO.out.2, HB4.out⟩
      case round =>
        obtain ⟨x, y, hg, hnx, hny, hox, hoy, hgc, hlx, hly, hbp⟩ := hrel
        obtain ⟨wp, hwp⟩ : ∃ z, z = wr := ⟨_, rfl⟩
        subst hwp
        have HXY := Lib.hid (And.intro hnx (And.intro hny (And.intro hox (And.intro hoy (And.intro hgc (And.intro hlx hly))))))
        have HBP := Lib.hid hbp
        have HXP : Hid (0 < x ∧ 0 < y) := Lib.hid (by omega)
        obtain ⟨px, cx, rfl⟩ := Nt.In.slice hnx
        obtain ⟨py, cy, rfl⟩ := Nt.In.slice hny
        have HORD := Lib.hid (fun w' (hb : Below wp.heap.size wp w') => Rn.Order_any x y _ _ w' (Nt.In.below hnx hb (Nat.le_refl _)) (Nt.In.below hny hb (Nat.le_refl _)) (by omega) (by omega))
        have HSX := Lib.hid (fun w' (hb : Below wp.heap.size wp w') => Rn.Size_any (Nt.dig x) _ w' (Nt.In.below hnx hb (Nat.le_refl _)) (Nt.dig_wd _) (by omega))
        have HSY := Lib.hid (fun w' (hb : Below wp.heap.size wp w') => Rn.Size_any (Nt.dig y) _ w' (Nt.In.below hny hb (Nat.le_refl _)) (Nt.dig_wd _) (by omega))
        rw [Nt.val_dig] at HSX HSY
        clear hnx hny hox hoy hgc hbp
        rcases Nat.lt_trichotomy x y with hxy | hxy | hxy
        · have HLT := Lib.hid hxy
          have HLS := Lib.hid (fun w' (hb : Below wp.heap.size wp w') => Rn.Less_any (Nt.dig y) (Nt.dig x) _ _ w' (Nt.In.below HXY.out.2.1 hb (Nat.le_refl _)) (Nt.In.below HXY.out.1 hb (Nat.le_refl _)) (Nt.dig_wd _) (Nt.dig_wd _) (by omega) (Rn.dig_le (by omega)) (by rw [Nt.val_dig, Nt.val_dig]; omega))
          rw [Nt.val_dig, Nt.val_dig] at HLS
          have HLEN : Hid ((Nt.dig (y - x)).length ≤ 1000000) := Lib.hid (Nat.le_trans (Rn.dig_le (show y - x ≤ y by omega)) (by omega))
          rw [Nt.cmp_lt hxy] at HORD
          clear hxy hlx hly
          go_wp2_with fail
          refine (HORD.out wp (Below.refl _ _)).mono ?_
          rintro z w5 ⟨rfl, hb5⟩
          have HB5 := Lib.hid (HBP.out.trans (hb5.mono HBP.out.size))
          have HP5 := Lib.hid hb5
          clear hb5
          go_wp2_with fail
          refine (HSX.out w5 HP5.out).mono ?_
          rintro z w6 ⟨s1, rfl, hs1a, hs1b, hb6⟩
          have HS1 := Lib.hid (Rn.size_one HXP.out.1 hs1a hs1b)
          have HB6 := Lib.hid (HB5.out.trans (hb6.mono HB5.out.size))
          have HP6 := Lib.hid (HP5.out.trans (hb6.mono HP5.out.size))
          clear hs1a hs1b hb6
          by_cases hs : s1 = 1
          · subst hs
            have HONE : Hid (Nat.gcd x y = 1) := Lib.hid (by rw [HS1.out.1 rfl]; exact Nat.gcd_one_left _)
            have hA : Below w.heap.size w (w6.alloc (.cells (Nt.row [1]) 144)) := HB6.out.alloc HB6.out.size _
            have KU := Rn.Up_any [1] k _ (w6.alloc (.cells (Nt.row [1]) 144)) (Nt.In.of_row (heap_alloc_new w6 _)) (fun z hz => by simp at hz; omega) (by simp) HKL.out.1
            have e1 : Nt.row [1] = #[.int .u32 1] := rfl
            rw [e1] at KU hA
            have HAX := Lib.hid hA
            clear e1 hA
            go_wp2_with fail
            refine KU.mono ?_
            rintro z wu ⟨vu, rfl, hnu, hbu⟩
            have HNU := Lib.hid hnu
            have HBU := Lib.hid (HAX.out.trans (hbu.mono HAX.out.size))
            clear KU hnu hbu
            go_wp2_with fail
            go_ret
            refine ⟨_, rfl, ?_, HBU.out⟩
            have e2 : Nt.val [1] = 1 := by simp [Nt.val]
            have := HNU.out
            rw [e2] at this
            rw [HG.out, ← HXY.out.2.2.2.2.1, HONE.out]
            exact this
          · have hsI : ((s1 : Int) == 1) = false := by simp; omega
            go_wp2_with fail
            refine (HSY.out w6 HP6.out).mono ?_
            rintro z w7 ⟨s2, rfl, hs2a, hs2b, hb7⟩
            have HS2 := Lib.hid (Rn.size_one HXP.out.2 hs2a hs2b)
            have HB7 := Lib.hid (HB6.out.trans (hb7.mono HB6.out.size))
            have HP7 := Lib.hid (HP6.out.trans (hb7.mono HP6.out.size))
            clear hs2a hs2b hb7
            by_cases hs2 : s2 = 1
            · subst hs2
              have HONE : Hid (Nat.gcd x y = 1) := Lib.hid (by rw [HS2.out.1 rfl]; exact Nat.gcd_one_right _)
              have hA : Below w.heap.size w (w7.alloc (.cells (Nt.row [1]) 144)) := HB7.out.alloc HB7.out.size _
              have KU := Rn.Up_any [1] k _ (w7.alloc (.cells (Nt.row [1]) 144)) (Nt.In.of_row (heap_alloc_new w7 _)) (fun z hz => by simp at hz; omega) (by simp) HKL.out.1
              have e1 : Nt.row [1] = #[.int .u32 1] := rfl
              rw [e1] at KU hA
              have HAX := Lib.hid hA
              clear e1 hA
              go_wp2_with fail
              refine KU.mono ?_
              rintro z wu ⟨vu, rfl, hnu, hbu⟩
              have HNU := Lib.hid hnu
              have HBU := Lib.hid (HAX.out.trans (hbu.mono HAX.out.size))
              clear KU hnu hbu
              go_wp2_with fail
              go_ret
              refine ⟨_, rfl, ?_, HBU.out⟩
              have e2 : Nt.val [1] = 1 := by simp [Nt.val]
              have := HNU.out
              rw [e2] at this
              rw [HG.out, ← HXY.out.2.2.2.2.1, HONE.out]
              exact this
            · have hs2I : ((s2 : Int) == 1) = false := by simp; omega
              go_wp2_with fail
              refine (HORD.out w7 HP7.out).mono ?_
              rintro z w8 ⟨rfl, hb8⟩
              have HB8 := Lib.hid (HB7.out.trans (hb8.mono HB7.out.size))
              have HP8 := Lib.hid (HP7.out.trans (hb8.mono HP7.out.size))
              clear hb8
              have KL := HLS.out w8 HP8.out
              go_wp2_with fail
              refine KL.mono ?_
              rintro z w9 ⟨v9, rfl, hn9, hb9⟩
              have HB9 := Lib.hid (HB8.out.trans (hb9.mono HB8.out.size))
              have HP9 := Lib.hid (HP8.out.trans (hb9.mono HP8.out.size))
              have KO := Rn.odd_any (Nt.dig (y - x)) v9 w9 hn9 (Nt.dig_wd _) HLEN.out (by rw [Nt.val_dig]; have := HLT.out; omega)
              rw [Nt.val_dig] at KO
              obtain ⟨p9, c9, rfl⟩ := Nt.In.slice hn9
              clear hn9 hb9 KL
              go_wp2_with fail
              refine KO.mono ?_
              rintro z wq ⟨vq, t3, o3, rfl, hnq, ho3, hd3, hbq⟩
              have HBQ := Lib.hid (HB9.out.trans (hbq.mono HB9.out.size))
              have HPQ := Lib.hid (HP9.out.trans (hbq.mono HP9.out.size))
              have HNQ := Lib.hid (And.intro hnq (And.intro ho3 hd3))
              obtain ⟨pq, cq, rfl⟩ := Nt.In.slice hnq
              clear hnq hbq KO ho3 hd3
              go_wp2_with fail
              have HO3 : Hid (o3 ≤ y - x) := Lib.hid (by
                rw [HNQ.out.2.2]
                exact Nat.le_mul_of_pos_left _ (Nat.two_pow_pos _))
              have hlt9 := HLT.out
              have hle9 := HO3.out
              have hps := HXP.out
              go_roundg (o3 + x)
              case measure => omega
              case rel =>
                obtain ⟨q1, q2, q3, q4, q5, q6, q7⟩ := HXY.out
                refine ⟨o3, x, rfl, HNQ.out.1, Nt.In.below q1 HPQ.out (Nat.le_refl _), HNQ.out.2.1, q3, ?_, Nat.le_trans (Rn.dig_le (show o3 ≤ y by omega)) q7, q6, HBQ.out⟩
                rw [← q5]
                rw [Rn.gcd_less q3 (by omega) HNQ.out.2.2, Nat.gcd_comm]
        · subst hxy
          rw [Nt.cmp_eq] at HORD
          have KUX := Lib.hid (fun w' (hb : Below wp.heap.size wp w') => Rn.Up_any (Nt.dig x) k _ w' (Nt.In.below HXY.out.1 hb (Nat.le_refl _)) (Nt.dig_wd _) (by omega) HKL.out.1)
          rw [Nt.val_dig] at KUX
          clear hlx hly
          go_wp2_with fail
          refine (HORD.out wp (Below.refl _ _)).mono ?_
          rintro z w5 ⟨rfl, hb5⟩
          have HB5 := Lib.hid (HBP.out.trans (hb5.mono HBP.out.size))
          have HP5 := Lib.hid hb5
          clear hb5
          go_wp2_with fail
          refine (KUX.out w5 HP5.out).mono ?_
          rintro z w6 ⟨v6, rfl, hn6, hb6⟩
          have HN6 := Lib.hid hn6
          have HB6 := Lib.hid (HB5.out.trans (hb6.mono HB5.out.size))
          clear hn6 hb6
          go_wp2_with fail
          go_ret
          refine ⟨_, rfl, ?_, HB6.out⟩
          rw [HG.out, ← HXY.out.2.2.2.2.1, Nat.gcd_self]
          exact HN6.out
        · have HLT := Lib.hid hxy
          have HLS := Lib.hid (fun w' (hb : Below wp.heap.size wp w') => Rn.Less_any (Nt.dig x) (Nt.dig y) _ _ w' (Nt.In.below HXY.out.1 hb (Nat.le_refl _)) (Nt.In.below HXY.out.2.1 hb (Nat.le_refl _)) (Nt.dig_wd _) (Nt.dig_wd _) (by omega) (Rn.dig_le (by omega)) (by rw [Nt.val_dig, Nt.val_dig]; omega))
          rw [Nt.val_dig, Nt.val_dig] at HLS
          have HLEN : Hid ((Nt.dig (x - y)).length ≤ 1000000) := Lib.hid (Nat.le_trans (Rn.dig_le (show x - y ≤ x by omega)) (by omega))
          rw [Nt.cmp_gt hxy] at HORD
          clear hxy hlx hly
          go_wp2_with fail
          refine (HORD.out wp (Below.refl _ _)).mono ?_
          rintro z w5 ⟨rfl, hb5⟩
          have HB5 := Lib.hid (HBP.out.trans (hb5.mono HBP.out.size))
          have HP5 := Lib.hid hb5
          clear hb5
          go_wp2_with fail
          refine (HSX.out w5 HP5.out).mono ?_
          rintro z w6 ⟨s1, rfl, hs1a, hs1b, hb6⟩
          have HS1 := Lib.hid (Rn.size_one HXP.out.1 hs1a hs1b)
          have HB6 := Lib.hid (HB5.out.trans (hb6.mono HB5.out.size))
          have HP6 := Lib.hid (HP5.out.trans (hb6.mono HP5.out.size))
          clear hs1a hs1b hb6
          by_cases hs : s1 = 1
          · subst hs
            have HONE : Hid (Nat.gcd x y = 1) := Lib.hid (by rw [HS1.out.1 rfl]; exact Nat.gcd_one_left _)
            have hA : Below w.heap.size w (w6.alloc (.cells (Nt.row [1]) 144)) := HB6.out.alloc HB6.out.size _
            have KU := Rn.Up_any [1] k _ (w6.alloc (.cells (Nt.row [1]) 144)) (Nt.In.of_row (heap_alloc_new w6 _)) (fun z hz => by simp at hz; omega) (by simp) HKL.out.1
            have e1 : Nt.row [1] = #[.int .u32 1] := rfl
            rw [e1] at KU hA
            have HAX := Lib.hid hA
            clear e1 hA
            go_wp2_with fail
            refine KU.mono ?_
            rintro z wu ⟨vu, rfl, hnu, hbu⟩
            have HNU := Lib.hid hnu
            have HBU := Lib.hid (HAX.out.trans (hbu.mono HAX.out.size))
            clear KU hnu hbu
            go_wp2_with fail
            go_ret
            refine ⟨_, rfl, ?_, HBU.out⟩
            have e2 : Nt.val [1] = 1 := by simp [Nt.val]
            have := HNU.out
            rw [e2] at this
            rw [HG.out, ← HXY.out.2.2.2.2.1, HONE.out]
            exact this
          · have hsI : ((s1 : Int) == 1) = false := by simp; omega
            go_wp2_with fail
            refine (HSY.out w6 HP6.out).mono ?_
            rintro z w7 ⟨s2, rfl, hs2a, hs2b, hb7⟩
            have HS2 := Lib.hid (Rn.size_one HXP.out.2 hs2a hs2b)
            have HB7 := Lib.hid (HB6.out.trans (hb7.mono HB6.out.size))
            have HP7 := Lib.hid (HP6.out.trans (hb7.mono HP6.out.size))
            clear hs2a hs2b hb7
            by_cases hs2 : s2 = 1
            · subst hs2
              have HONE : Hid (Nat.gcd x y = 1) := Lib.hid (by rw [HS2.out.1 rfl]; exact Nat.gcd_one_right _)
              have hA : Below w.heap.size w (w7.alloc (.cells (Nt.row [1]) 144)) := HB7.out.alloc HB7.out.size _
              have KU := Rn.Up_any [1] k _ (w7.alloc (.cells (Nt.row [1]) 144)) (Nt.In.of_row (heap_alloc_new w7 _)) (fun z hz => by simp at hz; omega) (by simp) HKL.out.1
              have e1 : Nt.row [1] = #[.int .u32 1] := rfl
              rw [e1] at KU hA
              have HAX := Lib.hid hA
              clear e1 hA
              go_wp2_with fail
              refine KU.mono ?_
              rintro z wu ⟨vu, rfl, hnu, hbu⟩
              have HNU := Lib.hid hnu
              have HBU := Lib.hid (HAX.out.trans (hbu.mono HAX.out.size))
              clear KU hnu hbu
              go_wp2_with fail
              go_ret
              refine ⟨_, rfl, ?_, HBU.out⟩
              have e2 : Nt.val [1] = 1 := by simp [Nt.val]
              have := HNU.out
              rw [e2] at this
              rw [HG.out, ← HXY.out.2.2.2.2.1, HONE.out]
              exact this
            · have hs2I : ((s2 : Int) == 1) = false := by simp; omega
              go_wp2_with fail
              refine (HORD.out w7 HP7.out).mono ?_
              rintro z w8 ⟨rfl, hb8⟩
              have HB8 := Lib.hid (HB7.out.trans (hb8.mono HB7.out.size))
              have HP8 := Lib.hid (HP7.out.trans (hb8.mono HP7.out.size))
              clear hb8
              have KL := HLS.out w8 HP8.out
              go_wp2_with fail
              refine KL.mono ?_
              rintro z w9 ⟨v9, rfl, hn9, hb9⟩
              have HB9 := Lib.hid (HB8.out.trans (hb9.mono HB8.out.size))
              have HP9 := Lib.hid (HP8.out.trans (hb9.mono HP8.out.size))
              have KO := Rn.odd_any (Nt.dig (x - y)) v9 w9 hn9 (Nt.dig_wd _) HLEN.out (by rw [Nt.val_dig]; have := HLT.out; omega)
              rw [Nt.val_dig] at KO
              obtain ⟨p9, c9, rfl⟩ := Nt.In.slice hn9
              clear hn9 hb9 KL
              go_wp2_with fail
              refine KO.mono ?_
              rintro z wq ⟨vq, t3, o3, rfl, hnq, ho3, hd3, hbq⟩
              have HBQ := Lib.hid (HB9.out.trans (hbq.mono HB9.out.size))
              have HPQ := Lib.hid (HP9.out.trans (hbq.mono HP9.out.size))
              have HNQ := Lib.hid (And.intro hnq (And.intro ho3 hd3))
              obtain ⟨pq, cq, rfl⟩ := Nt.In.slice hnq
              clear hnq hbq KO ho3 hd3
              go_wp2_with fail
              have HO3 : Hid (o3 ≤ x - y) := Lib.hid (by
                rw [HNQ.out.2.2]
                exact Nat.le_mul_of_pos_left _ (Nat.two_pow_pos _))
              have hlt9 := HLT.out
              have hle9 := HO3.out
              have hps := HXP.out
              go_roundg (o3 + y)
              case measure => omega
              case rel =>
                obtain ⟨q1, q2, q3, q4, q5, q6, q7⟩ := HXY.out
                refine ⟨o3, y, rfl, HNQ.out.1, Nt.In.below q2 HPQ.out (Nat.le_refl _), HNQ.out.2.1, q4, ?_, Nat.le_trans (Rn.dig_le (show o3 ≤ x by omega)) q6, q7, HBQ.out⟩
                rw [← q5]
                exact Rn.gcd_less q4 (by omega) HNQ.out.2.2
end Go.Proofs.YtikmebkfdpbidaaGreatDoor
namespace Go.Proofs.YtikmebkfdpbidaaGreatDoor.By
open Go.RowKit
set_option linter.unusedVariables false

/-- The cells of bytes. -/
def vals (s : ByteArray) : List Value := (List.range s.size).map fun j => Value.int .u8 (Cd.byt s j)
theorem vals_len (s : ByteArray) : (vals s).length = s.size := by simp [vals]
theorem vals_at (s : ByteArray) (j : Nat) (h : j < s.size) : (vals s)[j]? = some (.int .u8 (Cd.byt s j)) := by simp [vals, h]

/-- The value v can be read as the bytes s; nil or not. -/
def In (w : World) (v : Value) (s : ByteArray) : Prop :=
  (v = .slice none 0 0 ∧ s.size = 0) ∨ (∃ a cap, v = .slice (some a) 0 cap ∧ s.size = 0) ∨
  (0 < s.size ∧ ∃ b off cap, v = .slice (some ⟨b, off, none⟩) s.size cap ∧ s.size ≤ cap ∧ b < w.heap.size ∧ ∀ j, j < s.size → w.cell? ⟨b, off + j, none⟩ = some (.int .u8 (Cd.byt s j)))

theorem In.below {w w' : World} {v : Value} {s : ByteArray} {B : Nat} (h : In w v s) (hb : Below B w w') (hB : w.heap.size ≤ B) : In w' v s := by
  rcases h with h | h | ⟨h0, b, off, cap, hv, h1, h2, hc⟩
  · exact .inl h
  · exact .inr (.inl h)
  · exact .inr (.inr ⟨h0, b, off, cap, hv, h1, by have := hb.size; omega, fun j hj => (hb.cell (p := ⟨b, off + j, none⟩) (by show b < B; omega)).trans (hc j hj)⟩)
theorem In.slice {w : World} {v : Value} {s : ByteArray} (h : In w v s) : ∃ ad cap, v = .slice ad s.size cap := by
  rcases h with ⟨h, h0⟩ | ⟨a, cap, h, h0⟩ | ⟨h0, b, off, cap, hv, _⟩
  · exact ⟨none, 0, by rw [h, h0]⟩
  · exact ⟨some a, cap, by rw [h, h0]⟩
  · exact ⟨_, cap, hv⟩
theorem In.of_own {w : World} {B : Nat} {t : TypeId} {v : Value} {s : ByteArray} (h : w.ownsRow B t 1 v s.size (vals s)) : In w v s := by
  rcases h.2 with ⟨hv, h0⟩ | ⟨g, cap, cur, hv, hB, hg, hn, hm, hs, ht⟩
  · exact .inl ⟨hv, h0⟩
  · rcases Nat.eq_zero_or_pos s.size with h0 | h0
    · exact .inr (.inl ⟨_, cap, by rw [hv, h0], h0⟩)
    · refine .inr (.inr ⟨h0, g, 0, cap, hv, hn, (Array.getElem?_eq_some_iff.1 hg).1, fun i hi => ?_⟩)
      have := h.cells (g := g) (by rw [hv]; rfl) i _ (vals_at s i hi)
      rw [← this, Sl.addr_add]

/-- 'append(dst, v...)' of bytes onto what the call owns. -/
theorem run_append_bytes {P : Program} (w : World) (t ty : TypeId) (base : Nat) (e : TypeId) (i : TypeInfo) (z : Value) (ht : P.underlying t = some (.slice e)) (hi : P.info? e = some i) (hz : i.zero = some z)
    (hsize : i.size = 1) (hby : i.bytes = 1) (hzs : z.cells.size = 1)
    (v : Value) (n : Nat) (xs : List Value) (hown : w.ownsRow base e 1 v n xs) (xv : Value) (S : ByteArray) (hin : In w xv S)
    (h63 : n + S.size ≤ maxLen) (hbytes : n + S.size ≤ 140737488355328) (hbase : base ≤ w.heap.size) :
    ∃ v' w', (Builtin.append_ #[t, t] ty #[v, xv]).run P w = .ok v' w' ∧ w'.ownsRow base e 1 v' (n + S.size) (xs ++ vals S) ∧ w.grownBy w' v.ownBlock ∧ (v' = .slice none 0 0 → v = .slice none 0 0) := by
  rcases hin with ⟨rfl, h0⟩ | ⟨ad, cap, rfl, h0⟩ | ⟨h0, b, off, cap, rfl, h1, h2, hc⟩
  · have hv0 : vals S = [] := List.length_eq_zero_iff.1 (by rw [vals_len, h0])
    refine ⟨v, w, run_append_owned_none (P := P) (w := w) base t ty e i 1 ht hi v n xs hown, ?_, ⟨rfl, rfl, rfl, Nat.le_refl _, fun _ _ _ => rfl⟩, id⟩
    rw [hv0, h0, List.append_nil, Nat.add_zero]
    exact hown
  · have hv0 : vals S = [] := List.length_eq_zero_iff.1 (by rw [vals_len, h0])
    obtain ⟨v', w', hr, h1, h2, h3⟩ := run_append_own (P := P) w base t ty e i z 1 1 ht hi hz hsize hby hzs (by decide) v n xs hown ad 0 cap [] rfl (by simp) (by simp) (by omega) (by omega) hbase
    refine ⟨v', w', hr, ?_, h2, fun hh => (h3.1 hh).1⟩
    rw [hv0, h0]
    exact h1
  · obtain ⟨v', w', hr, h1, h2, h3⟩ := run_append_own (P := P) w base t ty e i z 1 1 ht hi hz hsize hby hzs (by decide) v n xs hown ⟨b, off, none⟩ S.size cap (vals S) (by rw [vals_len, Nat.mul_one]) (fun j u hj => by
      have hj2 : j < S.size := by have := (List.getElem?_eq_some_iff.1 hj).1; rw [vals_len] at this; exact this
      rw [vals_at S j hj2] at hj
      cases hj
      rw [Sl.addr_add]
      exact hc j hj2) (fun u hu => by obtain ⟨j, _, rfl⟩ := List.mem_map.1 hu; rfl) h63 (by omega) hbase
    exact ⟨v', w', hr, h1, h2, fun hh => (h3.1 hh).1⟩

section
variable {P : Program} {w : World} {ops : Array Oper} {rest : List Oper} {o : Oper} {a : Act} {Q : Exit → Act → World → Prop}
theorem wp_append_bytes {K : Act → World → Prop} (s x : Operand) (t : TypeId)
    (ho : o.op = .call { callee := .builtin .append, args := #[s, x], argTypes := #[t, t] })
    (base : Nat) (e : TypeId) (i : TypeInfo) (z : Value) (ht : P.underlying t = some (.slice e)) (hi : P.info? e = some i) (hz : i.zero = some z)
    (hsize : i.size = 1) (hby : i.bytes = 1) (hzs : z.cells.size = 1)
    (v : Value) (n : Nat) (xs : List Value) (hs : a.eval s = v) (hown : w.ownsRow base e 1 v n xs)
    (xv : Value) (S : ByteArray) (hx : a.eval x = xv) (hin : In w xv S)
    (h63 : n + S.size ≤ maxLen) (hbytes : n + S.size ≤ 140737488355328) (hbase : base ≤ w.heap.size)
    (h : ∀ v' w', w'.ownsRow base e 1 v' (n + S.size) (xs ++ vals S) → w.grownBy w' v.ownBlock → (v' = .slice none 0 0 → v = .slice none 0 0) → K (a.put o.dst v') w') : o.wp P a w K Q := by
  obtain ⟨v', w', hr, h2, h3, h4⟩ := run_append_bytes (P := P) w t o.type base e i z ht hi hz hsize hby hzs v n xs hown xv S hin h63 hbytes hbase
  unfold Oper.wp execOp
  simp only [ho, resolve, invoke, builtin, Sem.run_bind, Sem.run_pure, Result.andThen_ok, List.map_toArray, List.map_cons, List.map_nil, hs, hx, hr]
  exact h v' w' h2 h3 h4
theorem wpList_append_bytes (hgd : o.guard = none) (s x : Operand) (t : TypeId)
    (ho : o.op = .call { callee := .builtin .append, args := #[s, x], argTypes := #[t, t] })
    (base : Nat) (e : TypeId) (i : TypeInfo) (z : Value) (ht : P.underlying t = some (.slice e)) (hi : P.info? e = some i) (hz : i.zero = some z)
    (hsize : i.size = 1) (hby : i.bytes = 1) (hzs : z.cells.size = 1)
    (v : Value) (n : Nat) (xs : List Value) (hs : a.eval s = v) (hown : w.ownsRow base e 1 v n xs)
    (xv : Value) (S : ByteArray) (hx : a.eval x = xv) (hin : In w xv S)
    (h63 : n + S.size ≤ maxLen) (hbytes : n + S.size ≤ 140737488355328) (hbase : base ≤ w.heap.size)
    (h : ∀ v' w', w'.ownsRow base e 1 v' (n + S.size) (xs ++ vals S) → w.grownBy w' v.ownBlock → (v' = .slice none 0 0 → v = .slice none 0 0) → wpList P ops Q rest (a.put o.dst v') w') : wpList P ops Q (o :: rest) a w :=
  wpList_plain hgd fun _ hK => wp_append_bytes s x t ho base e i z ht hi hz hsize hby hzs v n xs hs hown xv S hx hin h63 hbytes hbase fun v' w' h2 h3 h4 => hK _ _ (h v' w' h2 h3 h4)
/-- The same at a step of a region that draws. -/
theorem step_append_bytes {K : Act → World → Prop} {E : Prop} (hgd : o.guard = none) (s x : Operand) (t : TypeId)
    (ho : o.op = .call { callee := .builtin .append, args := #[s, x], argTypes := #[t, t] })
    (base : Nat) (e : TypeId) (i : TypeInfo) (z : Value) (ht : P.underlying t = some (.slice e)) (hi : P.info? e = some i) (hz : i.zero = some z)
    (hsize : i.size = 1) (hby : i.bytes = 1) (hzs : z.cells.size = 1)
    (v : Value) (n : Nat) (xs : List Value) (hs : a.eval s = v) (hown : w.ownsRow base e 1 v n xs)
    (xv : Value) (S : ByteArray) (hx : a.eval x = xv) (hin : In w xv S)
    (h63 : n + S.size ≤ maxLen) (hbytes : n + S.size ≤ 140737488355328) (hbase : base ≤ w.heap.size)
    (h : ∀ v' w', w'.ownsRow base e 1 v' (n + S.size) (xs ++ vals S) → w.grownBy w' v.ownBlock → (v' = .slice none 0 0 → v = .slice none 0 0) → K (a.put o.dst v') w') :
    if Region.wanted o (yielded ops a.tmps) = true then Oper.wp P o a w K Q else E := by
  have hw : Region.wanted o (yielded ops a.tmps) = true := by simp [Region.wanted, hgd]
  rw [if_pos hw]
  exact wp_append_bytes s x t ho base e i z ht hi hz hsize hby hzs v n xs hs hown xv S hx hin h63 hbytes hbase h
end

/-- Bytes off a list of numbers. -/
def ofNums (zs : List Int) : ByteArray := ⟨(zs.map fun z => z.toNat.toUInt8).toArray⟩
theorem ofNums_size (zs : List Int) : (ofNums zs).size = zs.length := by
  show (List.toArray _).size = _
  simp
theorem ofNums_byt (zs : List Int) (hz : ∀ n ∈ zs, (Lit.int .u8 n).wf = true) (j : Nat) (h : j < zs.length) : Cd.byt (ofNums zs) j = zs.getD j 0 := by
  have hb := bounds_u8 (hz _ (List.getElem_mem h))
  have e : (ofNums zs).get! j = (zs[j]).toNat.toUInt8 := by
    show (ofNums zs).data[j]! = _
    unfold ofNums
    simp [h]
  unfold Cd.byt
  rw [e, List.getD_eq_getElem?_getD, List.getElem?_eq_getElem h]
  have : ((zs[j]).toNat.toUInt8).toNat = (zs[j]).toNat := by
    rw [Nat.toUInt8, UInt8.toNat_ofNat']
    omega
  rw [this]
  simp
  omega

/-- An argument that is a slice of bytes. -/
theorem In.open {H : Type} {enc : TypeId × Value → H} {P : Program} {w : World} {base : Nat} {spare : Nat → Bool} {held : Bool} {t e : TypeId} {v : Value} {d : DataW H} {ps : List MemPlace} (ht : P.underlying t = some (.slice e)) (he : P.underlying e = some (.int .u8)) (hc : P.cellsOf e = 1)
    (hv : ∃ a len cap, v = .slice a len cap) (hj : DataW.Trod enc P w base spare held t v d ps) :
    ∃ s : ByteArray, In w v s ∧ ((d = .nil ∧ s.size = 0) ∨ ∃ elems spare, d = .slice elems spare ∧ elems.length = s.size) := by
  obtain ⟨a0, len, cap, rfl⟩ := hv
  obtain ⟨fuel, hf⟩ := hj
  rcases Go.ChangeShapes.open_ints ht he hc hf with ⟨hcs, hx⟩ | ⟨a, len', cap', zs, hcs, _, hl, hm, hz, hx, hcell, hwz⟩
  · simp only [Value.cells, List.cons.injEq, Value.slice.injEq, and_true] at hcs
    simp only [Prod.mk.injEq] at hx
    refine ⟨⟨#[]⟩, .inl ⟨?_, rfl⟩, .inl ⟨hx.1, rfl⟩⟩
    simp_all
  · simp only [Prod.mk.injEq] at hx
    have hlz : len' ≤ zs.length := by rw [hz]; split <;> omega
    have hsz : (ofNums (zs.take len')).size = len' := by rw [ofNums_size, List.length_take]; omega
    have hva : (Value.slice a0 len cap) = .slice (some a) len' cap' := by simpa [Value.cells] using hcs
    refine ⟨ofNums (zs.take len'), ?_, .inr ⟨_, _, hx.1, by simp [Go.ChangeShapes.lits, hsz]; omega⟩⟩
    rcases Nat.eq_zero_or_pos len' with h0 | h0
    · exact .inr (.inl ⟨a, cap', by rw [hva, h0], by rw [hsz, h0]⟩)
    · obtain ⟨b, off, rfl, hcl⟩ := ints_at hcell (by omega)
      refine .inr (.inr ⟨by omega, b, off, cap', by rw [hva, hsz], by omega, ?_, fun j hj => ?_⟩)
      · have h1 := hcl 0 (by omega)
        rcases Nat.lt_or_ge b w.heap.size with h | h
        · exact h
        · simp [World.cell?, Array.getElem?_eq_none h] at h1
      · rw [hsz] at hj
        rw [hcl j (by omega), ofNums_byt _ (fun n hn => hwz n (List.mem_of_mem_take hn)) j (by rw [List.length_take]; omega)]
        congr 2
        rw [List.getD_eq_getElem?_getD, List.getD_eq_getElem?_getD, List.getElem?_take, if_pos hj]
theorem In.at {w : World} {ad : Option Addr} {n cap : Nat} {s : ByteArray} (h : In w (.slice ad n cap) s) (h0 : 0 < s.size) : ∃ b off, ad = some ⟨b, off, none⟩ ∧ b < w.heap.size ∧ s.size ≤ cap ∧ ∀ j, j < s.size → w.cell? ⟨b, off + j, none⟩ = some (.int .u8 (Cd.byt s j)) := by
  rcases h with ⟨_, h1⟩ | ⟨_, _, _, h1⟩ | ⟨_, b, off, c2, hv, h1, h2, hc⟩
  · omega
  · omega
  · simp only [Value.slice.injEq] at hv
    obtain ⟨rfl, _, rfl⟩ := hv
    exact ⟨b, off, rfl, h2, h1, hc⟩

/-- The cells of a list of bytes. -/
def bv (l : List UInt8) : List Value := l.map fun b => Value.int .u8 b.toNat
theorem bv_nil : bv [] = [] := rfl
theorem bv_append (a b : List UInt8) : bv (a ++ b) = bv a ++ bv b := by simp [bv]
theorem bv_len (l : List UInt8) : (bv l).length = l.length := by simp [bv]
theorem vals_bv (l : List UInt8) : vals ⟨l.toArray⟩ = bv l := by
  have hz : (ByteArray.mk l.toArray).size = l.length := by show l.toArray.size = _; simp
  apply List.ext_getElem?
  intro j
  rcases Nat.lt_or_ge j l.length with h | h
  · rw [vals_at _ j (by rw [hz]; exact h)]
    have : (ByteArray.mk l.toArray).get! j = l[j] := by
      show l.toArray[j]! = _
      simp [h]
    unfold Cd.byt
    rw [this]
    simp [bv, h]
  · rw [List.getElem?_eq_none (by rw [vals_len, hz]; exact h), List.getElem?_eq_none (by rw [bv_len]; exact h)]
theorem In.of_bv {w : World} {B : Nat} {t : TypeId} {v : Value} {l : List UInt8} (h : w.ownsRow B t 1 v l.length (bv l)) : In w v ⟨l.toArray⟩ := by
  have hz : (ByteArray.mk l.toArray).size = l.length := by show l.toArray.size = _; simp
  refine In.of_own (B := B) (t := t) ?_
  rw [hz, vals_bv]
  exact h

/-- An append of plain cells onto what the call owns: the new row, and the old one, which still reads as it did. -/
theorem run_append_keep {P : Program} (w : World) (t ty : TypeId) (base : Nat) (e : TypeId) (i : TypeInfo) (z : Value) (ht : P.underlying t = some (.slice e)) (hi : P.info? e = some i) (hz : i.zero = some z)
    (hsize : i.size = 1) (hby : i.bytes = 1) (hzs : z.cells.size = 1)
    (v : Value) (n : Nat) (xs : List Value) (hown : w.ownsRow base e 1 v n xs)
    (a : Addr) (m c : Nat) (news : List Value) (hl : news.length = m) (hnews : ∀ j u, news[j]? = some u → w.cell? (a.add j) = some u) (h1 : ∀ u ∈ news, u.oneCell' = true)
    (h63 : n + m ≤ maxLen) (hbytes : n + m ≤ 140737488355328) (hbase : base ≤ w.heap.size) :
    ∃ v' w', (Builtin.append_ #[t, t] ty #[v, .slice (some a) m c]).run P w = .ok v' w' ∧ w'.ownsRow base e 1 v' (n + m) (xs ++ news) ∧ w.grownBy w' v.ownBlock ∧ w'.ownsRow base e 1 v n xs := by
  obtain ⟨v', w', hr, h2, h3, h4⟩ := run_append_own (P := P) w base t ty e i z 1 1 ht hi hz hsize hby hzs (by decide) v n xs hown a m c news (by rw [hl, Nat.mul_one]) hnews h1 h63 (by omega) hbase
  refine ⟨v', w', hr, h2, h3, hown.1, ?_⟩
  rcases hown.2 with ⟨hv, h0⟩ | ⟨g, cap, cur, hv, hbg, hg, hnc, hcm, hcs, htake⟩
  · exact .inl ⟨hv, h0⟩
  · subst hv
    have hxl : xs.length = n := by rw [hown.1, Nat.mul_one]
    rw [Nat.mul_one] at hcs htake
    by_cases hroom : n + m ≤ cap
    · have hr2 := run_append_room (P := P) w t ty e i ht hi g n cap cur hg a m c news (by rw [hl, hsize, Nat.mul_one]) hnews h1 hroom (by rw [hsize, Nat.mul_one, hl, hcs]; exact hroom)
      rw [hr] at hr2
      simp only [Result.ok.injEq] at hr2
      obtain ⟨rfl, rfl⟩ := hr2
      rw [hsize, Nat.mul_one]
      refine .inr ⟨g, cap, _, rfl, hbg, setRow_heap w g cur _ e _ hg, hnc, hcm, ?_, ?_⟩
      · rw [Nat.mul_one]
        simp only [List.size_toArray, List.length_append, List.length_take, List.length_drop, Array.length_toList]
        omega
      · rw [htake]
        simp only [List.append_assoc]
        rw [← hxl]
        exact List.take_left
    · have holds : ∀ j u, xs[j]? = some u → w.cell? ((⟨g, 0, none⟩ : Addr).add j) = some u := hown.cells (g := g) rfl
      have hr2 := run_append_grow (P := P) w t ty e i z ht hi hz ⟨g, 0, none⟩ n cap xs (by rw [hsize, Nat.mul_one]; exact hxl) holds a m c news (by rw [hl, hsize, Nat.mul_one]) hnews (by omega) (by simp only [maxLen] at h63; omega) (by rw [hby]; exact growslice_fits (by omega) (by omega))
      rw [hr] at hr2
      simp only [Result.ok.injEq] at hr2
      obtain ⟨rfl, rfl⟩ := hr2
      refine .inr ⟨g, cap, cur, rfl, hbg, ?_, hnc, hcm, by first | exact hcs | (rw [Nat.mul_one]; exact hcs), by first | exact htake | (rw [Nat.mul_one]; exact htake)⟩
      exact (Lib.alloc_old w.drew _ g (Array.getElem?_eq_some_iff.1 hg).1).trans hg
section
variable {P : Program} {w : World} {ops : Array Oper} {rest : List Oper} {o : Oper} {a : Act} {Q : Exit → Act → World → Prop}
theorem wpList_append_keep (hgd : o.guard = none) (s x : Operand) (t : TypeId)
    (ho : o.op = .call { callee := .builtin .append, args := #[s, x], argTypes := #[t, t] })
    (base : Nat) (e : TypeId) (i : TypeInfo) (z : Value) (ht : P.underlying t = some (.slice e)) (hi : P.info? e = some i) (hz : i.zero = some z)
    (hsize : i.size = 1) (hby : i.bytes = 1) (hzs : z.cells.size = 1)
    (v : Value) (n : Nat) (xs : List Value) (hs : a.eval s = v) (hown : w.ownsRow base e 1 v n xs)
    (ad : Addr) (m c : Nat) (news : List Value) (hx : a.eval x = .slice (some ad) m c) (hl : news.length = m) (hnews : ∀ j u, news[j]? = some u → w.cell? (ad.add j) = some u) (h1 : ∀ u ∈ news, u.oneCell' = true)
    (h63 : n + m ≤ maxLen) (hbytes : n + m ≤ 140737488355328) (hbase : base ≤ w.heap.size)
    (h : ∀ v' w', w'.ownsRow base e 1 v' (n + m) (xs ++ news) → w.grownBy w' v.ownBlock → w'.ownsRow base e 1 v n xs → wpList P ops Q rest (a.put o.dst v') w') : wpList P ops Q (o :: rest) a w := by
  refine wpList_plain hgd fun K hK => ?_
  obtain ⟨v', w', hr, h2, h3, h4⟩ := run_append_keep (P := P) w t o.type base e i z ht hi hz hsize hby hzs v n xs hown ad m c news hl hnews h1 h63 hbytes hbase
  unfold Oper.wp execOp
  simp only [ho, resolve, invoke, builtin, Sem.run_bind, Sem.run_pure, Result.andThen_ok, List.map_toArray, List.map_cons, List.map_nil, hs, hx, hr]
  exact hK _ _ (h v' w' h2 h3 h4)
end
end Go.Proofs.YtikmebkfdpbidaaGreatDoor.By
