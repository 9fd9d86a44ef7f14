/-
  nat.Over, nat.Divisor of numbers, where the divisor is one word.
  nat.Times of numbers.
  Fractions: exact.rat, whole, minus.
  Fractions: exact.sum, product.
-/
import Derived.Deep.LoopGhost
import Derived.Laws.Bits64
import Derived.Deep.RegionHeld3
import Derived.Test.YtikmebkfdpbidaaGreatDoorNtOverLW
import Derived.Test.YtikmebkfdpbidaaGreatDoorWb
import Derived.Test.YtikmebkfdpbidaaGreatDoorWa
namespace Go.Proofs.YtikmebkfdpbidaaGreatDoor
open Go.RowKit
set_option linter.unusedVariables false
set_option linter.unusedSimpArgs false

/-- The divisions by one word. -/
def Nt.Ok1 (m n : Nat) : Prop := n < 4294967296 ∧ (Nt.dig m).length ≤ 400000
/-- Which divisions are served. -/
def Nt.Ok (m n : Nat) : Prop := (Nt.dig n).length ≤ 400000 ∧ (Nt.dig m).length ≤ 400000
theorem Nt.dig_len_mono {m n : Nat} (h : m ≤ n) : (Nt.dig m).length ≤ (Nt.dig n).length := by
  rcases Nat.lt_or_ge (Nt.dig n).length (Nt.dig m).length with h1 | h1
  · have := Nt.dig_len_lt h1
    omega
  · exact h1
theorem Nt.dig_len_one {n : Nat} (h0 : 0 < n) (h : n < 4294967296) : (Nt.dig n).length = 1 := by rw [Nt.dig_small h0 h]; rfl
theorem Nt.dig_len_le {n : Nat} (h : n < 4294967296) : (Nt.dig n).length ≤ 1 := by
  rcases Nat.eq_zero_or_pos n with h0 | h0
  · subst h0; rw [Nt.dig_zero]; exact Nat.zero_le _
  · rw [Nt.dig_len_one h0 h]; exact Nat.le_refl _
theorem Nt.Ok.step {m n : Nat} (h : Nt.Ok m n) (hn : 0 < n) : Nt.Ok n (m % n) :=
  ⟨Nat.le_trans (Nt.dig_len_mono (Nat.le_of_lt (Nat.mod_lt _ hn))) h.1, h.1⟩

set_option maxHeartbeats 4000000 in
set_option maxRecDepth 1000000 in
theorem Nt.Over_short (m n : Nat) (v v2 : Value) (w : World) (h : Nt.N w v m) (h2 : Nt.N w v2 n) (hn : 0 < n) (hok : Nt.Ok1 m n) : Calls Tryz.prog 130 #[v, v2] w fun e w' => ∃ q r, e = .returned (.tuple #[q, r]) ∧ Nt.N w' q (m / n) ∧ Nt.N w' r (m % n) ∧ Below w.heap.size w w' := by
  have hl1 := hok.2
  have hl2 := Nt.dig_len_one hn hok.1
  have KO := Nt.Order_any m n v v2 w h h2 (by omega) (by omega)
  obtain ⟨ad, cap, rfl⟩ := Nt.In.slice h
  obtain ⟨ad2, cap2, rfl⟩ := Nt.In.slice h2
  have H := Lib.hid h
  have H2 := Lib.hid h2
  have hn32 := hok.1
  clear h h2 hok
  by_cases hlt : m < n
  · rw [Nt.cmp_lt hlt] at KO
    have hq : m / n = 0 := Nat.div_eq_of_lt hlt
    have hr : m % n = m := Nat.mod_eq_of_lt hlt
    rw [hq, hr]
    have KC := fun w h => Nt.Clone_any (Nt.dig m) (.slice ad (Nt.dig m).length cap) w h (by omega)
    clear hq hr
    generalize (Nt.dig m).length = l at *
    generalize (Nt.dig n).length = l2 at *
    clear hlt hn hn32 hl2
    go_enter Tryz.func130, Tryz.ntmps130
    go_wp2_with fail
    refine KO.mono ?_
    rintro x w1 ⟨rfl, hb1⟩
    have HB1 := Lib.hid hb1
    clear hb1
    go_wp2_with fail
    refine (KC _ (H.out.below HB1.out (Nat.le_refl _))).mono ?_
    rintro x w2 ⟨v2, rfl, hi2, hb2⟩
    have HI2 := Lib.hid hi2
    have HB2 := Lib.hid (HB1.out.trans (hb2.mono HB1.out.size))
    clear hi2 hb2
    go_wp2_with fail
    go_ret2
    exact ⟨_, _, rfl, Nt.N.zero _, HI2.out, HB2.out⟩
  · have hc : ¬ Nt.cmp m n < 0 := fun h => hlt (Nt.cmp_neg.1 h)
    have hcd : decide (Nt.cmp m n < 0) = false := decide_eq_false hc
    have hdn := Nt.dig_small hn hn32
    obtain ⟨b2, o2, rfl, hl22, hcap2, hbl2, hcell2⟩ := Nt.In.at H2.out (by omega)
    have c2 := hcell2 0 (by omega)
    rw [hdn] at c2
    simp only [Nat.add_zero, List.getD_cons_zero] at c2
    rw [hl2] at *
    have KS := fun w h => Nt.short_ws (Nt.dig m) n (.slice ad (Nt.dig m).length cap) w h (Nt.dig_wd m) (by omega) hn hn32
    rw [Nt.val_dig] at KS
    have hml : m % n < 4294967296 := Nat.lt_trans (Nat.mod_lt _ hn) hn32
    have hnw : Nt.Wd [m % n] := fun x hx => by simp only [List.mem_singleton] at hx; omega
    have KN := fun v w h => Nt.norm_any [m % n] v w h hnw (by simp)
    rw [show Nt.val [m % n] = m % n by simp [Nt.val]] at KN
    have HA : Hid (∀ w : World, Nt.In (w.alloc (.cells #[.int .u32 (m % n : Nat)] 144)) (.slice (some ⟨w.heap.size, 0, none⟩) 1 1) [m % n] ∧ Below w.heap.size w (w.alloc (.cells #[.int .u32 (m % n : Nat)] 144))) := Lib.hid (fun w => by
      refine ⟨?_, (Below.refl _ _).alloc (Nat.le_refl _) _⟩
      have e : (#[.int .u32 (m % n : Nat)] : Array Value) = Nt.row [m % n] := by simp [Nt.row]
      rw [e]
      exact Nt.In.of_row (heap_alloc_new w _))
    generalize m % n = r at *
    generalize (Nt.dig m).length = l at *
    clear hcell2 hdn hc hlt hl22 hnw
    generalize Nt.cmp m n = cc at *
    go_enter Tryz.func130, Tryz.ntmps130
    go_wp2_with fail
    refine KO.mono ?_
    rintro x w1 ⟨rfl, hb1⟩
    have c3 := (hb1.cell (p := ⟨b2, o2, none⟩) hbl2).trans c2
    have HB1 := Lib.hid hb1
    clear hb1 c2
    go_wp2_with fail
    refine (KS _ (H.out.below HB1.out (Nat.le_refl _))).mono ?_
    rintro x w2 ⟨vq, rfl, hq2, hb2⟩
    have HQ2 := Lib.hid hq2
    have HB2 := Lib.hid (HB1.out.trans (hb2.mono HB1.out.size))
    clear hq2 hb2 c3
    go_wp2_with fail
    refine (KN _ _ (HA.out _).1).mono ?_
    rintro x w3 ⟨vr, rfl, hr3, hb3⟩
    have HR3 := Lib.hid hr3
    have hb3 := (HA.out w2).2.trans (hb3.mono (HA.out w2).2.size)
    have HQ3 := Lib.hid (HQ2.out.below hb3 (Nat.le_refl _))
    have HB3 := Lib.hid (HB2.out.trans (hb3.mono HB2.out.size))
    clear hr3 hb3
    go_wp2_with fail
    go_ret2
    exact ⟨_, _, rfl, HQ3.out, HR3.out, HB3.out⟩
set_option maxHeartbeats 4000000 in
set_option maxRecDepth 1000000 in
theorem Nt.Over_less (m n : Nat) (v v2 : Value) (w : World) (h : Nt.N w v m) (h2 : Nt.N w v2 n) (hlt : m < n) (hok : Nt.Ok m n) : Calls Tryz.prog 130 #[v, v2] w fun e w' => ∃ q r, e = .returned (.tuple #[q, r]) ∧ Nt.N w' q (m / n) ∧ Nt.N w' r (m % n) ∧ Below w.heap.size w w' := by
  have hl1 := hok.2
  have hl2 := hok.1
  have KO := Nt.Order_any m n v v2 w h h2 (by omega) (by omega)
  obtain ⟨ad, cap, rfl⟩ := Nt.In.slice h
  obtain ⟨ad2, cap2, rfl⟩ := Nt.In.slice h2
  have H := Lib.hid h
  clear h h2 hok
  rw [Nt.cmp_lt hlt] at KO
  have hq : m / n = 0 := Nat.div_eq_of_lt hlt
  have hr : m % n = m := Nat.mod_eq_of_lt hlt
  rw [hq, hr]
  have KC := fun w h => Nt.Clone_any (Nt.dig m) (.slice ad (Nt.dig m).length cap) w h (by omega)
  clear hq hr
  generalize (Nt.dig m).length = l at *
  generalize (Nt.dig n).length = l2 at *
  clear hlt hl2
  go_enter Tryz.func130, Tryz.ntmps130
  go_wp2_with fail
  refine KO.mono ?_
  rintro x w1 ⟨rfl, hb1⟩
  have HB1 := Lib.hid hb1
  clear hb1
  go_wp2_with fail
  refine (KC _ (H.out.below HB1.out (Nat.le_refl _))).mono ?_
  rintro x w2 ⟨v2, rfl, hi2, hb2⟩
  have HI2 := Lib.hid hi2
  have HB2 := Lib.hid (HB1.out.trans (hb2.mono HB1.out.size))
  clear hi2 hb2
  go_wp2_with fail
  go_ret2
  exact ⟨_, _, rfl, Nt.N.zero _, HI2.out, HB2.out⟩
theorem Nt.Over_any (m n : Nat) (v v2 : Value) (w : World) (h : Nt.N w v m) (h2 : Nt.N w v2 n) (hn : 0 < n) (hok : Nt.Ok m n) : Calls Tryz.prog 130 #[v, v2] w fun e w' => ∃ q r, e = .returned (.tuple #[q, r]) ∧ Nt.N w' q (m / n) ∧ Nt.N w' r (m % n) ∧ Below w.heap.size w w' := by
  rcases Nat.lt_or_ge n 4294967296 with h1 | h1
  · exact Nt.Over_short m n v v2 w h h2 hn ⟨h1, hok.2⟩
  · rcases Nat.lt_or_ge m n with h3 | h3
    · exact Nt.Over_less m n v v2 w h h2 h3 hok
    · exact Nt.Over_long m n v v2 w h h2 h1 h3 hok.2
set_option maxHeartbeats 4000000 in
set_option maxRecDepth 1000000 in
theorem Nt.Divisor_any (m n : Nat) (v v2 : Value) (w : World) (h : Nt.N w v m) (h2 : Nt.N w v2 n) (hok : Nt.Ok m n) : Calls Tryz.prog 129 #[v, v2] w fun e w' => ∃ v', e = .returned v' ∧ Nt.N w' v' (Nat.gcd m n) ∧ Below w.heap.size w w' := by
  obtain ⟨ad, cap, rfl⟩ := Nt.In.slice h
  obtain ⟨ad2, cap2, rfl⟩ := Nt.In.slice h2
  have H := Lib.hid h
  have H2 := Lib.hid h2
  have HOK := Lib.hid hok
  clear h h2 hok
  go_enter Tryz.func129, Tryz.ntmps129
  go_wp2_with fail
  go_loopg [0, 1] n (fun g va vb wr => ∃ a : Nat, Nt.N wr va a ∧ Nt.N wr vb g ∧ Nt.Ok a g ∧ Nat.gcd a g = Nat.gcd m n ∧ Below w.heap.size w wr)
  case atStart => exact ⟨m, H.out, H2.out, HOK.out, rfl, Below.refl _ _⟩
  case round =>
    obtain ⟨a, ha, hb, hok, hg, hbw⟩ := hrel
    obtain ⟨adA, capA, rfl⟩ := Nt.In.slice ha
    obtain ⟨adB, capB, rfl⟩ := Nt.In.slice hb
    obtain ⟨wo, hwo⟩ : ∃ z, z = wr := ⟨_, rfl⟩
    subst hwo
    have HA := Lib.hid ha
    have HB := Lib.hid hb
    have HK := Lib.hid hok
    have HG := Lib.hid hg
    have HBW := Lib.hid hbw
    clear ha hb hok hg hbw H H2 HOK
    rcases Nat.eq_zero_or_pos gk with h0 | h0
    · subst h0
      have hl0 : ((Nt.dig 0).length : Int) = 0 := by rw [Nt.dig_zero]; rfl
      have KC := fun w h => Nt.Clone_any (Nt.dig a) (.slice adA (Nt.dig a).length capA) w h (by have := HK.out.2; omega)
      have hga : a = Nat.gcd m n := by have := HG.out; rwa [Nat.gcd_zero_right] at this
      have HGA := Lib.hid hga
      clear hga
      generalize (Nt.dig a).length = l at *
      go_wp2_with fail
      refine (KC _ HA.out).mono ?_
      rintro x w2 ⟨v2, rfl, hi2, hb2⟩
      have HI2 := Lib.hid hi2
      have HB2 := Lib.hid (HBW.out.trans (hb2.mono HBW.out.size))
      clear hi2 hb2
      go_wp2_with fail
      go_ret
      exact ⟨_, rfl, HGA.out ▸ HI2.out, HB2.out⟩
    · have hl1 := Nt.dig_len_pos.2 h0
      have KO := Nt.Over_any a gk _ _ wo HA.out HB.out h0 HK.out
      have hlp : ((Nt.dig gk).length : Int) > 0 := by omega
      have HL1 := Lib.hid hl1
      clear hl1
      go_wp2_with fail
      refine KO.mono ?_
      rintro x w2 ⟨q, r, rfl, hq2, hr2, hb2⟩
      have HR2 := Lib.hid hr2
      have HB2 := Lib.hid (HB.out.below hb2 (Nat.le_refl _))
      have HBB := Lib.hid (HBW.out.trans (hb2.mono HBW.out.size))
      clear hq2 hr2 hb2
      go_wp2_with fail
      go_roundg (a % gk)
      case measure => exact Nat.mod_lt _ h0
      case rel => exact ⟨gk, HB2.out, HR2.out, HK.out.step h0, by rw [Nt.gcd_step, HG.out], HBB.out⟩
end Go.Proofs.YtikmebkfdpbidaaGreatDoor
namespace Go.Proofs.YtikmebkfdpbidaaGreatDoor
open Go.RowKit
set_option linter.unusedVariables false
set_option linter.unusedSimpArgs false

set_option maxHeartbeats 4000000 in
set_option maxRecDepth 1000000 in
theorem Nt.times_ws (a b : List Nat) (v v2 : Value) (w : World) (h : Nt.In w v a) (h2 : Nt.In w v2 b) (ha : Nt.Wd a) (hb : Nt.Wd b) (hl : a.length ≤ 400000) (hll : b.length ≤ 400000) : Calls Tryz.prog 167 #[v, v2] w fun e w' => ∃ v', e = .returned v' ∧ Nt.N w' v' (Nt.val a * Nt.val b) ∧ Below w.heap.size w w' := by
  obtain ⟨ad, cap, rfl⟩ := h.slice
  obtain ⟨ad2, cap2, rfl⟩ := h2.slice
  have H := Lib.hid h
  have H2 := Lib.hid h2
  have HA := Lib.hid ha
  have HB := Lib.hid hb
  have hmk := Nt.make (a.length + b.length) w (by omega)
  have hcast : (((a.length + b.length : Nat) : Int)) = (a.length : Int) + (b.length : Int) := by omega
  rw [hcast] at hmk
  clear h h2 ha hb hcast
  obtain ⟨T, hT⟩ : ∃ T, w.heap.size = T := ⟨_, rfl⟩
  obtain ⟨w2, hw2⟩ : ∃ z, w.alloc (.cells (Nt.row (List.replicate (a.length + b.length) 0)) 144) = z := ⟨_, rfl⟩
  have q2 : w2.heap[T]? = some (.cells (Nt.row (List.replicate (a.length + b.length) 0)) 144 (0, 0)) := by rw [← hw2, ← hT]; exact heap_alloc_new w _
  have hb2 : Below w.heap.size w w2 := hw2 ▸ (Below.refl _ _).alloc (Nat.le_refl _) _
  rw [hT, hw2] at hmk
  have HT := Lib.hid hT
  have HB2 := Lib.hid hb2
  have HQ2 := Lib.hid q2
  clear hT hw2 hb2 q2
  go_enter Tryz.func167, Tryz.ntmps167
  go_wp2_with fail
  go_loopw [19] (fun i wr => ∃ (k : Nat) (ws : List Nat), i = .int .i64 k ∧ k ≤ a.length ∧ ws.length = a.length + b.length ∧ Nt.Wd ws ∧ (∀ j, k + b.length ≤ j → ws.getD j 0 = 0) ∧ Nt.val ws = Nt.val (a.take k) * Nt.val b ∧ wr.heap[T]? = some (.cells (Nt.row ws) 144 (0, 0)) ∧ Below w.heap.size w wr) (fun i _ => a.length - (intOf i).toNat)
  case atStart => exact ⟨0, List.replicate (a.length + b.length) 0, rfl, Nat.zero_le _, by simp, Nt.Wd.zeros _, fun j _ => Nt.zeros_getD _ _, by rw [Nt.val_replicate]; simp [Nt.val], HQ2.out, HB2.out⟩
  case round =>
    obtain ⟨k, ws, rfl, hk, hwl, hwd, hz, hval, hq, hbw⟩ := hrel
    obtain ⟨wo, hwo⟩ : ∃ z, z = wr := ⟨_, rfl⟩
    subst hwo
    have HZ := Lib.hid hz
    have HWD := Lib.hid hwd
    have HV := Lib.hid hval
    have HQ := Lib.hid hq
    have HBW := Lib.hid hbw
    have HWL := Lib.hid hwl
    clear hz hwd hval hq hbw hwl
    by_cases hlt : k < a.length
    · obtain ⟨b1, o1, rfl, _, hcap1, hbl1, hcell1⟩ := (H.out.below HBW.out (Nat.le_refl _)).at (by omega)
      have c1 := hcell1 k hlt
      have hxb := HA.out.getD k
      have HEND : Hid (∀ (us : List Nat) (c : Nat), us.length = a.length + b.length → us.getD (k + b.length) 0 = 0 → Nt.val us + 4294967296 ^ (k + b.length) * c = Nt.val (a.take k) * Nt.val b + 4294967296 ^ k * (a.getD k 0 * Nt.val (b.take b.length)) → Nt.val (us.set (k + b.length) c) = Nt.val (a.take (k + 1)) * Nt.val b) := Lib.hid (fun us c hl2 hz2 h => Nt.times_end h (by omega) hz2)
      clear hcell1
      generalize a.getD k 0 = x at *
      have HX := Lib.hid hxb
      clear hxb
      go_wp2_with fail
      go_loopw [8, 26] (fun cv i wr => ∃ (j c : Nat) (us : List Nat), i = .int .i64 j ∧ cv = .int .u64 c ∧ j ≤ b.length ∧ c < 4294967296 ∧ us.length = a.length + b.length ∧ Nt.Wd us ∧ (∀ t, k + b.length ≤ t → us.getD t 0 = 0) ∧ Nt.val us + 4294967296 ^ (k + j) * c = Nt.val (a.take k) * Nt.val b + 4294967296 ^ k * (x * Nt.val (b.take j)) ∧ wr.heap[T]? = some (.cells (Nt.row us) 144 (0, 0)) ∧ Below w.heap.size w wr) (fun _ i _ => b.length - (intOf i).toNat)
      case atStart => exact ⟨0, 0, ws, rfl, rfl, Nat.zero_le _, by decide, HWL.out, HWD.out, HZ.out, by rw [HV.out]; simp [Nt.val], HQ.out, HBW.out⟩
      case round =>
        obtain ⟨j, c, us, rfl, rfl, hj, hc, hul, hud, huz, huv, huq, hub⟩ := hrel
        obtain ⟨wi, hwi⟩ : ∃ z, z = wr := ⟨_, rfl⟩
        subst hwi
        clear HZ HWD HV HQ HBW HWL c1
        have HZ := Lib.hid huz
        have HWD := Lib.hid hud
        have HV := Lib.hid huv
        have HQ := Lib.hid huq
        have HBW := Lib.hid hub
        have HWL := Lib.hid hul
        clear huz hud huv huq hub hul
        by_cases hlt2 : j < b.length
        · obtain ⟨b2, o2, rfl, _, hcap2, hbl2, hcell2⟩ := (H2.out.below HBW.out (Nat.le_refl _)).at (by omega)
          have c2 := hcell2 j hlt2
          have hyb := HB.out.getD j
          have hob := HWD.out.getD (k + j)
          have hstep := Nt.times_step (ws := us) (b := b) (i := k) (j := j) (c := c) (x := x) HV.out (by have := HWL.out; omega)
          have hbd := Nt.times_bd hc HX.out hyb hob
          have c3 := Nt.cell_row HQ.out (k + j) (by have := HWL.out; omega)
          have HSTEP := Lib.hid hstep
          clear hcell2 hstep
          generalize b.getD j 0 = y at *
          have HO : Hid (us.getD (k + j) 0 = us.getD (k + j) 0) := Lib.hid rfl
          generalize us.getD (k + j) 0 = o at *
          have hmul : ((x : Int) * (y : Int)) % 18446744073709551616 = ((x * y : Nat) : Int) := by
            have h1 : x * y < 18446744073709551616 := by omega
            rw [← Int.natCast_mul]
            omega
          obtain ⟨p, hp⟩ : ∃ p, x * y = p := ⟨_, rfl⟩
          rw [hp] at hmul hbd HSTEP
          have hs1 : ((p : Int) + (o : Int)) % 18446744073709551616 = (p : Int) + (o : Int) := by omega
          have hs2 : ((c : Int) + ((p : Int) + (o : Int))) % 18446744073709551616 = ((c + p + o : Nat) : Int) := by omega
          obtain ⟨s, hs⟩ : ∃ s, c + p + o = s := ⟨_, rfl⟩
          rw [hs] at hs2 hbd HSTEP
          obtain ⟨lo, hlo⟩ : ∃ lo, s % 4294967296 = lo := ⟨_, rfl⟩
          obtain ⟨hi, hhi⟩ : ∃ hi, s / 4294967296 = hi := ⟨_, rfl⟩
          rw [hlo, hhi] at HSTEP
          rw [hhi] at hbd
          have g1 : IntKind.u64.wrap (x : Int) = (x : Int) := by rw [IntKind.wrap_u64]; have := HX.out; omega
          have g2 : IntKind.u64.wrap (y : Int) = (y : Int) := by rw [IntKind.wrap_u64]; omega
          have g3 : IntKind.u64.wrap ((x : Int) * (y : Int)) = (p : Int) := by rw [IntKind.wrap_u64]; exact hmul
          have g4 : IntKind.u64.wrap ((p : Int) + (o : Int)) = (p : Int) + (o : Int) := by rw [IntKind.wrap_u64]; exact hs1
          have g5 : IntKind.u64.wrap ((c : Int) + ((p : Int) + (o : Int))) = (s : Int) := by rw [IntKind.wrap_u64]; exact hs2
          have hloI : (s : Int) % 4294967296 = (lo : Int) := by rw [← hlo]; rfl
          have hhiI : (s : Int) / 4294967296 = (hi : Int) := by rw [← hhi]; rfl
          have hlol : lo < 4294967296 := by omega
          obtain ⟨W, hW, e1, e2, hQ9, hB9, hS9⟩ := Nt.store HQ.out (k + j) lo (by have := HWL.out; omega) HBW.out (by have := HT.out; omega)
          have HNX : Hid (∀ t, k + b.length ≤ t → (us.set (k + j) lo).getD t 0 = 0) := Lib.hid (fun t ht => by rw [Nt.getD_set_ne us (k + j) t lo (by omega)]; exact HZ.out t ht)
          have HR := Lib.hid (And.intro hbd.2 (And.intro hlol (And.intro hQ9 hB9)))
          have hkj : (k : Int) + (j : Int) < (a.length : Int) + (b.length : Int) := by omega
          clear hp hs hlo hhi hbd hlol hQ9 hB9 hS9 hyb hob HO
          go_wp2_with fail
          go_roundw
          case rel => exact ⟨j + 1, hi, _, by first | rfl | go_num | (simp; try omega), by first | rfl | rw [hhiI], by omega, HR.out.1, by rw [List.length_set]; exact HWL.out, HWD.out.set _ _ HR.out.2.1, HNX.out, HSTEP.out, HR.out.2.2.1, HR.out.2.2.2⟩
          case measure => simp [intOf]; omega
        · obtain rfl : j = b.length := by omega
          have hval := HEND.out us c HWL.out (HZ.out _ (Nat.le_refl _)) HV.out
          obtain ⟨W, hW, e1, e2, hQ9, hB9, hS9⟩ := Nt.store HQ.out (k + b.length) c (by have := HWL.out; omega) HBW.out (by have := HT.out; omega)
          have HNX : Hid (∀ t, k + 1 + b.length ≤ t → (us.set (k + b.length) c).getD t 0 = 0) := Lib.hid (fun t ht => by rw [Nt.getD_set_ne us (k + b.length) t c (by omega)]; exact HZ.out t (by omega))
          have HR := Lib.hid (And.intro hval (And.intro hQ9 hB9))
          have hkj : (k : Int) + (b.length : Int) < (a.length : Int) + (b.length : Int) := by omega
          have hcw : (c : Int) % 4294967296 = (c : Int) := by omega
          have hnlt : decide ((b.length : Int) < (b.length : Int)) = false := decide_eq_false (by omega)
          clear hval hQ9 hB9 hS9
          go_wp2_with fail
          go_roundw
          case rel => exact ⟨k + 1, _, by first | rfl | go_num | (simp; try omega), by omega, by rw [List.length_set]; exact HWL.out, HWD.out.set _ _ hc, HNX.out, HR.out.1, HR.out.2.1, HR.out.2.2⟩
          case measure => simp [intOf]; omega
    · obtain rfl : k = a.length := by omega
      have hval := HV.out
      rw [List.take_length] at hval
      have hin : Nt.In wo (.slice (some ⟨T, 0, none⟩) (a.length + b.length) (a.length + b.length)) ws := by
        have := Nt.In.of_row HQ.out
        rw [HWL.out] at this
        exact this
      have KN := Nt.norm_any ws _ wo hin HWD.out (by have := HWL.out; omega)
      rw [hval] at KN
      have hnlt : decide ((a.length : Int) < (a.length : Int)) = false := decide_eq_false (by omega)
      clear hval hin
      go_wp2_with fail
      refine KN.mono ?_
      rintro z w8 ⟨v8, rfl, hn8, hb8⟩
      have HN8 := Lib.hid hn8
      have HB8 := Lib.hid (HBW.out.trans (hb8.mono HBW.out.size))
      clear hn8 hb8
      go_wp2_with fail
      go_ret
      exact ⟨_, rfl, HN8.out, HB8.out⟩
end Go.Proofs.YtikmebkfdpbidaaGreatDoor
namespace Go.Proofs.YtikmebkfdpbidaaGreatDoor
open Go.RowKit
set_option linter.unusedVariables false
set_option linter.unusedSimpArgs false

theorem Rt.cell_of {w : World} {b : Nat} {C : Array Value} {t : TypeId} (h : w.heap[b]? = some (.cells C t (0, 0))) (k : Nat) : w.cell? ⟨b, k, none⟩ = C[k]? := by
  simp [World.cell?, h]
theorem Rt.setCells {w : World} {b : Nat} {C : Array Value} {t : TypeId} (h : w.heap[b]? = some (.cells C t (0, 0))) (k : Nat) (u : Value) : (w.setCell ⟨b, k, none⟩ u).heap[b]? = some (.cells (C.set! k u) t (0, 0)) := by
  obtain ⟨hlt, hk⟩ := Array.getElem?_eq_some_iff.1 h
  show (w.heap.modify b _)[b]? = _
  rw [Array.getElem?_eq_getElem (by rw [Array.size_modify]; exact hlt), Array.getElem_modify_self, hk]
  rfl
theorem Rt.frozen_of {w : World} {b : Nat} {C : Array Value} {t : TypeId} (h : w.heap[b]? = some (.cells C t (0, 0))) (k : Nat) : w.frozen? ⟨b, k, none⟩ = false := by
  simp [World.frozen?, h]
/-- Three cells are stored. -/
theorem Rt.put3 {w : World} {b : Nat} {v0 v1 v2 : Value} {t : TypeId} (h : w.heap[b]? = some (.cells #[v0, v1, v2] t (0, 0))) (u0 u1 u2 : Value) :
    ∃ W1 W2 W3 : World,
    (w.cell? ⟨b, 0, none⟩ = some v0 ∧ w.frozen? ⟨b, 0, none⟩ = false ∧ w.setCell ⟨b, 0, none⟩ u0 = W1) ∧
    (W1.cell? ⟨b, 1, none⟩ = some v1 ∧ W1.frozen? ⟨b, 1, none⟩ = false ∧ W1.setCell ⟨b, 1, none⟩ u1 = W2) ∧
    (W2.cell? ⟨b, 2, none⟩ = some v2 ∧ W2.frozen? ⟨b, 2, none⟩ = false ∧ W2.setCell ⟨b, 2, none⟩ u2 = W3) ∧
    (W3.cell? ⟨b, 0, none⟩ = some u0 ∧ W3.cell? ⟨b, 1, none⟩ = some u1 ∧ W3.cell? ⟨b, 2, none⟩ = some u2) ∧
    Hid (W3.heap[b]? = some (.cells #[u0, u1, u2] t (0, 0)) ∧ W3.heap.size = w.heap.size ∧ (∀ q, q ≠ b → W3.heap[q]? = w.heap[q]?) ∧ ∀ (B : Nat) (w0 : World), Below B w0 w → B ≤ b → Below B w0 W3) := by
  have h1 : (w.setCell ⟨b, 0, none⟩ u0).heap[b]? = some (.cells #[u0, v1, v2] t (0, 0)) := Rt.setCells h 0 u0
  have h2 : ((w.setCell ⟨b, 0, none⟩ u0).setCell ⟨b, 1, none⟩ u1).heap[b]? = some (.cells #[u0, u1, v2] t (0, 0)) := Rt.setCells h1 1 u1
  have h3 : (((w.setCell ⟨b, 0, none⟩ u0).setCell ⟨b, 1, none⟩ u1).setCell ⟨b, 2, none⟩ u2).heap[b]? = some (.cells #[u0, u1, u2] t (0, 0)) := Rt.setCells h2 2 u2
  refine ⟨_, _, _, ⟨Rt.cell_of h 0, Rt.frozen_of h 0, rfl⟩, ⟨Rt.cell_of h1 1, Rt.frozen_of h1 1, rfl⟩, ⟨Rt.cell_of h2 2, Rt.frozen_of h2 2, rfl⟩, ⟨Rt.cell_of h3 0, Rt.cell_of h3 1, Rt.cell_of h3 2⟩, Lib.hid ⟨h3, by simp, fun q hq => ?_, fun B w0 hb hB => ?_⟩⟩
  · rw [Below.heap_setCell _ ⟨b, 2, none⟩ _ q hq, Below.heap_setCell _ ⟨b, 1, none⟩ _ q hq, Below.heap_setCell _ ⟨b, 0, none⟩ _ q hq]
  · exact ((hb.setCell (p := ⟨b, 0, none⟩) hB _).setCell (p := ⟨b, 1, none⟩) hB _).setCell (p := ⟨b, 2, none⟩) hB _
/-- A row of words stays when another block, of other things, is stored into. -/
theorem Nt.In.othr {w w' : World} {v : Value} {ws : List Nat} {r : Nat} {C : Array Value} {t : TypeId} (h : Nt.In w v ws) (hr : w.heap[r]? = some (.cells C t (0, 0))) (hC : ∀ (k : Nat) (n : Int), C[k]? ≠ some (.int .u32 n)) (hk : ∀ q, q ≠ r → w'.heap[q]? = w.heap[q]?) (hs : w'.heap.size = w.heap.size) : Nt.In w' v ws := by
  rcases h with h | h | ⟨h0, b, off, cap, hv, hc, hl, hcell⟩
  · exact .inl h
  · exact .inr (.inl h)
  · have hb : b ≠ r := by
      rintro rfl
      have := hcell 0 h0
      rw [Rt.cell_of hr] at this
      exact hC _ _ this
    exact .inr (.inr ⟨h0, b, off, cap, hv, hc, by omega, fun j hj => (World.cell?_of_block (a := ⟨b, off + j, none⟩) (hk b hb)).trans (hcell j hj)⟩)

/-- A fraction's value: its sign, what is above, what is below. -/
def Rt.R (w : World) (v : Value) (s : Bool) (t b : Nat) : Prop := ∃ tv bv, v = .agg #[.bool s, tv, bv] ∧ Nt.N w tv t ∧ Nt.N w bv b
theorem Rt.R.below {w w' : World} {v : Value} {s : Bool} {t b B : Nat} (h : Rt.R w v s t b) (hb : Below B w w') (hB : w.heap.size ≤ B) : Rt.R w' v s t b := by
  obtain ⟨tv, bv, hv, h1, h2⟩ := h
  exact ⟨tv, bv, hv, h1.below hb hB, h2.below hb hB⟩
/-- Cells of a fraction hold no words. -/
theorem Rt.noWords {s : Bool} {a1 a2 : Option Addr} {n1 n2 c1 c2 : Nat} : ∀ (k : Nat) (n : Int), (#[Value.bool s, .slice a1 n1 c1, .slice a2 n2 c2] : Array Value)[k]? ≠ some (.int .u32 n) := by
  intro k n h
  have hm := Array.mem_of_getElem? h
  simp at hm
def Rt.ratS (neg : Bool) (t b : Nat) : Bool × Nat × Nat := (neg && decide (0 < t / Nat.gcd t b), t / Nat.gcd t b, b / Nat.gcd t b)
theorem Rt.ok_gcd {t b : Nat} (h : Nt.Ok t b) (hb : 0 < b) : 0 < Nat.gcd t b ∧ Nt.Ok t (Nat.gcd t b) ∧ Nt.Ok b (Nat.gcd t b) := by
  have h1 : Nat.gcd t b ≤ b := Nat.gcd_le_right _ hb
  exact ⟨Nat.gcd_pos_of_pos_right _ hb, ⟨Nat.le_trans (Nt.dig_len_mono h1) h.1, h.2⟩, ⟨Nat.le_trans (Nt.dig_len_mono h1) h.1, h.1⟩⟩

set_option maxHeartbeats 4000000 in
set_option maxRecDepth 1000000 in
theorem Rt.rat_any (neg : Bool) (t b : Nat) (tv bv : Value) (w : World) (h : Nt.N w tv t) (h2 : Nt.N w bv b) (hb : 0 < b) (hok : Nt.Ok t b) : Calls Tryz.prog 84 #[.bool neg, tv, bv] w fun e w' => ∃ v', e = .returned v' ∧ Rt.R w' v' (Rt.ratS neg t b).1 (Rt.ratS neg t b).2.1 (Rt.ratS neg t b).2.2 ∧ Below w.heap.size w w' := by
  obtain ⟨hg0, hg1, hg2⟩ := Rt.ok_gcd hok hb
  have hdef : Rt.ratS neg t b = (neg && decide (0 < t / Nat.gcd t b), t / Nat.gcd t b, b / Nat.gcd t b) := rfl
  rw [hdef]
  have KD := fun w h h2 => Nt.Divisor_any t b tv bv w h h2 hok
  generalize Nat.gcd t b = g at *
  have KO1 := fun v v2 w h h2 => Nt.Over_any t g v v2 w h h2 hg0 hg1
  have KO2 := fun v v2 w h h2 => Nt.Over_any b g v v2 w h h2 hg0 hg2
  obtain ⟨ad, cap, rfl⟩ := Nt.In.slice h
  obtain ⟨ad2, cap2, rfl⟩ := Nt.In.slice h2
  have hpos : (0 < t / g) ↔ 0 < (Nt.dig (t / g)).length := Nt.dig_len_pos.symm
  have H := Lib.hid h
  have H2 := Lib.hid h2
  obtain ⟨W2, hW2⟩ : ∃ z, w.alloc (.cells #[.bool false, .slice none 0 0, .slice none 0 0] 24) = z := ⟨_, rfl⟩
  have q0 : W2.heap[w.heap.size]? = some (.cells #[.bool false, .slice none 0 0, .slice none 0 0] 24 (0, 0)) := hW2 ▸ heap_alloc_new w _
  have hb0 : Below w.heap.size w W2 := hW2 ▸ (Below.refl _ _).alloc (Nat.le_refl _) _
  have hsz : w.heap.size < W2.heap.size := (Array.getElem?_eq_some_iff.1 q0).1
  have HIN := Lib.hid (fun (w' : World) (hb : Below W2.heap.size W2 w') => And.intro (Nt.N.below (Nt.N.below H.out hb0 (Nat.le_refl _)) hb (Nat.le_refl _)) (Nt.N.below (Nt.N.below H2.out hb0 (Nat.le_refl _)) hb (Nat.le_refl _)))
  have HR := Lib.hid (fun (w' : World) (hb : Below W2.heap.size W2 w') => (hb.block w.heap.size hsz).trans q0)
  have HB := Lib.hid (fun (w' : World) (hb : Below W2.heap.size W2 w') => hb0.trans (hb.mono (Nat.le_of_lt hsz)))
  clear h h2 q0 hb0 hg1 hg2 hok hdef
  obtain ⟨dd, hdd⟩ : ∃ dd, (neg && decide (0 < t / g)) = dd := ⟨_, rfl⟩
  rw [hdd]
  have HDD := Lib.hid hdd
  clear hdd
  go_enter Tryz.func84, Tryz.ntmps84
  go_wp2_with fail
  refine (KD _ (HIN.out _ (Below.refl _ _)).1 (HIN.out _ (Below.refl _ _)).2).mono ?_
  rintro x w1 ⟨vg, rfl, hvg, hb1⟩
  have HG := Lib.hid hvg
  have HB1 := Lib.hid hb1
  clear hvg hb1
  go_wp2_with fail
  refine (KO1 _ _ _ (HIN.out _ HB1.out).1 HG.out).mono ?_
  rintro x w3 ⟨q, r, rfl, hq, hr, hb3⟩
  obtain ⟨adq, capq, rfl⟩ := Nt.In.slice hq
  have HQ := Lib.hid hq
  have HG := Lib.hid (HG.out.below hb3 (Nat.le_refl _))
  have HB3 := Lib.hid (HB1.out.trans (hb3.mono HB1.out.size))
  clear hq hr hb3
  go_wp2_with fail
  refine (KO2 _ _ _ (HIN.out _ HB3.out).2 HG.out).mono ?_
  rintro x w4 ⟨q2, r2, rfl, hq2, hr2, hb4⟩
  obtain ⟨adq2, capq2, rfl⟩ := Nt.In.slice hq2
  have HB4 := Lib.hid (HB3.out.trans (hb4.mono HB3.out.size))
  have hq4 := HQ.out.below hb4 (Nat.le_refl _)
  obtain ⟨X1, X2, X3, ⟨f0, z0, s0⟩, ⟨f1, z1, s1⟩, ⟨f2, z2, s2⟩, ⟨r0, r1, r2'⟩, HX⟩ := Rt.put3 (HR.out _ HB4.out) (.bool dd) (.slice adq (Nt.dig (t / g)).length capq) (.slice adq2 (Nt.dig (b / g)).length capq2)
  have HOUT : Hid (Nt.N X3 (.slice adq (Nt.dig (t / g)).length capq) (t / g) ∧ Nt.N X3 (.slice adq2 (Nt.dig (b / g)).length capq2) (b / g) ∧ Below w.heap.size w X3) := Lib.hid ⟨Nt.In.othr hq4 (HR.out _ HB4.out) Rt.noWords HX.out.2.2.1 HX.out.2.1, Nt.In.othr hq2 (HR.out _ HB4.out) Rt.noWords HX.out.2.2.1 HX.out.2.1, HX.out.2.2.2 _ _ (HB.out _ HB4.out) (Nat.le_refl _)⟩
  clear hq2 hr2 hb4 hq4 HX
  generalize (Nt.dig (t / g)).length = l at *
  generalize (Nt.dig (b / g)).length = l2 at *
  cases neg with
  | false =>
    obtain rfl := HDD.out
    simp only [Bool.false_and] at *
    go_wp2_with fail
    refine bodyPost_ret (v := .agg #[.bool false, .slice adq l capq, .slice adq2 l2 capq2]) (by simp [results, Tryz.results84, go_sem, r0, r1, r2']) rfl ⟨_, rfl, ⟨_, _, rfl, HOUT.out.1, HOUT.out.2.1⟩, HOUT.out.2.2⟩
  | true =>
    have hdec : decide (0 < l) = dd := by
      rw [← HDD.out, Bool.true_and]
      by_cases h : 0 < t / g
      · rw [decide_eq_true h]
        exact decide_eq_true (hpos.1 h)
      · rw [decide_eq_false h]
        exact decide_eq_false (fun h2 => h (hpos.2 h2))
    clear hpos
    go_wp2_with fail
    refine bodyPost_ret (v := .agg #[.bool dd, .slice adq l capq, .slice adq2 l2 capq2]) (by simp [results, Tryz.results84, go_sem, r0, r1, r2']) rfl ⟨_, rfl, ⟨_, _, rfl, HOUT.out.1, HOUT.out.2.1⟩, HOUT.out.2.2⟩

def Rt.wholeS (neg : Bool) (t : Nat) : Bool × Nat × Nat := Rt.ratS neg t 1
theorem Rt.wholeS_eq (neg : Bool) (t : Nat) : Rt.wholeS neg t = (neg && decide (0 < t), t, 1) := by
  simp [Rt.wholeS, Rt.ratS]
set_option maxHeartbeats 4000000 in
set_option maxRecDepth 1000000 in
theorem Rt.whole_any (neg : Bool) (t : Nat) (tv : Value) (w : World) (h : Nt.N w tv t) (hl : (Nt.dig t).length ≤ 400000) : Calls Tryz.prog 50 #[.bool neg, tv] w fun e w' => ∃ v', e = .returned v' ∧ Rt.R w' v' (neg && decide (0 < t)) t 1 ∧ Below w.heap.size w w' := by
  have KR := fun bv w h h2 => Rt.rat_any neg t 1 tv bv w h h2 (by decide) ⟨by rw [Nt.dig_small (by decide) (by decide)]; decide, hl⟩
  have e0 := Rt.wholeS_eq neg t
  unfold Rt.wholeS at e0
  rw [e0] at KR
  obtain ⟨ad, cap, rfl⟩ := Nt.In.slice h
  have H := Lib.hid h
  have hs0 : (w.alloc (.cells #[.bool false, .slice none 0 0, .slice none 0 0] 24)).heap.size = w.heap.size + 1 := by simp
  have hn1 : ∀ w : World, Nt.N (w.alloc (.cells #[.int .u32 1] 144)) (.slice (some ⟨w.heap.size, 0, none⟩) 1 1) 1 := fun w => by
    have e : (#[.int .u32 1] : Array Value) = Nt.row [1] := rfl
    unfold Nt.N
    rw [Nt.dig_small (by decide) (by decide), e]
    exact Nt.In.of_row (heap_alloc_new w _)
  obtain ⟨W2, hW2⟩ : ∃ z, (w.alloc (.cells #[.bool false, .slice none 0 0, .slice none 0 0] 24)).alloc (.cells #[.int .u32 1] 144) = z := ⟨_, rfl⟩
  have q0 : W2.heap[w.heap.size]? = some (.cells #[.bool false, .slice none 0 0, .slice none 0 0] 24 (0, 0)) := hW2 ▸ (Lib.alloc_old _ _ _ (by rw [hs0]; omega)).trans (heap_alloc_new w _)
  have hb0 : Below w.heap.size w W2 := hW2 ▸ ((Below.refl _ _).alloc (Nat.le_refl _) _).alloc (by rw [hs0]; omega) _
  have h1 : Nt.N W2 (.slice (some ⟨w.heap.size + 1, 0, none⟩) 1 1) 1 := by
    have := hn1 (w.alloc (.cells #[.bool false, .slice none 0 0, .slice none 0 0] 24))
    rw [hs0, hW2] at this
    exact this
  have hsz : w.heap.size < W2.heap.size := (Array.getElem?_eq_some_iff.1 q0).1
  have HIN := Lib.hid (And.intro (H.out.below hb0 (Nat.le_refl _)) h1)
  have HR := Lib.hid (fun (w' : World) (hb : Below W2.heap.size W2 w') => (hb.block w.heap.size hsz).trans q0)
  have HB := Lib.hid (fun (w' : World) (hb : Below W2.heap.size W2 w') => hb0.trans (hb.mono (Nat.le_of_lt hsz)))
  clear h q0 hb0 h1 hs0 hn1 e0
  generalize (neg && decide (0 < t)) = ss at *
  go_enter Tryz.func50, Tryz.ntmps50
  go_wp2_with fail
  refine (KR _ _ HIN.out.1 HIN.out.2).mono ?_
  rintro x w1 ⟨v1, rfl, ⟨tv, bv, rfl, hn, hd⟩, hb1⟩
  obtain ⟨ad1, cap1, rfl⟩ := Nt.In.slice hn
  obtain ⟨ad2, cap2, rfl⟩ := Nt.In.slice hd
  obtain ⟨X1, X2, X3, ⟨f0, z0, s0⟩, ⟨f1, z1, s1⟩, ⟨f2, z2, s2⟩, ⟨r0, r1, r2'⟩, HX⟩ := Rt.put3 (HR.out _ hb1) (.bool ss) (.slice ad1 (Nt.dig t).length cap1) (.slice ad2 (Nt.dig 1).length cap2)
  have HOUT : Hid (Nt.N X3 (.slice ad1 (Nt.dig t).length cap1) t ∧ Nt.N X3 (.slice ad2 (Nt.dig 1).length cap2) 1 ∧ Below w.heap.size w X3) := Lib.hid ⟨Nt.In.othr hn (HR.out _ hb1) Rt.noWords HX.out.2.2.1 HX.out.2.1, Nt.In.othr hd (HR.out _ hb1) Rt.noWords HX.out.2.2.1 HX.out.2.1, HX.out.2.2.2 _ _ (HB.out _ hb1) (Nat.le_refl _)⟩
  clear hn hd hb1 HX
  generalize (Nt.dig t).length = l at *
  generalize (Nt.dig 1).length = l2 at *
  go_wp2_with fail
  refine bodyPost_ret (v := .agg #[.bool ss, .slice ad1 l cap1, .slice ad2 l2 cap2]) (by simp [results, Tryz.results50, go_sem, r0, r1, r2']) rfl ⟨_, rfl, ⟨_, _, rfl, HOUT.out.1, HOUT.out.2.1⟩, HOUT.out.2.2⟩
set_option maxHeartbeats 4000000 in
set_option maxRecDepth 1000000 in
theorem Rt.minus_any (s : Bool) (t b : Nat) (v : Value) (w : World) (h : Rt.R w v s t b) : Calls Tryz.prog 124 #[v] w fun e w' => ∃ v', e = .returned v' ∧ Rt.R w' v' (!s && decide (0 < t)) t b ∧ Below w.heap.size w w' := by
  obtain ⟨tv, bv, rfl, hn, hd⟩ := h
  obtain ⟨ad1, cap1, rfl⟩ := Nt.In.slice hn
  obtain ⟨ad2, cap2, rfl⟩ := Nt.In.slice hd
  have hs0 : ∀ o, (w.alloc o).heap.size = w.heap.size + 1 := by intro o; simp
  obtain ⟨W2, hW2⟩ : ∃ z, (w.alloc (.cells #[.bool s, .slice ad1 (Nt.dig t).length cap1, .slice ad2 (Nt.dig b).length cap2] 24)).alloc (.cells #[.bool false, .slice none 0 0, .slice none 0 0] 24) = z := ⟨_, rfl⟩
  have q0 : W2.heap[w.heap.size]? = some (.cells #[.bool s, .slice ad1 (Nt.dig t).length cap1, .slice ad2 (Nt.dig b).length cap2] 24 (0, 0)) := hW2 ▸ (Lib.alloc_old _ _ _ (by rw [hs0]; omega)).trans (heap_alloc_new w _)
  have q1 : W2.heap[w.heap.size + 1]? = some (.cells #[.bool false, .slice none 0 0, .slice none 0 0] 24 (0, 0)) := by
    have := heap_alloc_new (w.alloc (.cells #[.bool s, .slice ad1 (Nt.dig t).length cap1, .slice ad2 (Nt.dig b).length cap2] 24)) (.cells #[.bool false, .slice none 0 0, .slice none 0 0] 24)
    rwa [hs0, hW2] at this
  have hb0 : Below w.heap.size w W2 := hW2 ▸ ((Below.refl _ _).alloc (Nat.le_refl _) _).alloc (by rw [hs0]; omega) _
  have e0 := Rt.cell_of q0 0
  have e1 := Rt.cell_of q0 1
  have e2 := Rt.cell_of q0 2
  have hn2 := Nt.N.below hn hb0 (Nat.le_refl _)
  have hd2 := Nt.N.below hd hb0 (Nat.le_refl _)
  obtain ⟨X1, X2, X3, ⟨f0, z0, s0⟩, ⟨f1, z1, s1⟩, ⟨f2, z2, s2⟩, ⟨r0, r1, r2'⟩, HX⟩ := Rt.put3 q1 (.bool (!s && decide (0 < t))) (.slice ad1 (Nt.dig t).length cap1) (.slice ad2 (Nt.dig b).length cap2)
  have HOUT : Hid (Nt.N X3 (.slice ad1 (Nt.dig t).length cap1) t ∧ Nt.N X3 (.slice ad2 (Nt.dig b).length cap2) b ∧ Below w.heap.size w X3) := Lib.hid ⟨Nt.In.othr hn2 q1 Rt.noWords HX.out.2.2.1 HX.out.2.1, Nt.In.othr hd2 q1 Rt.noWords HX.out.2.2.1 HX.out.2.1, HX.out.2.2.2 _ _ hb0 (by omega)⟩
  have hpos : (0 < t) ↔ 0 < (Nt.dig t).length := Nt.dig_len_pos.symm
  have hdec : decide (0 < (Nt.dig t).length) = decide (0 < t) := by
    by_cases h : 0 < t
    · rw [decide_eq_true h]
      exact decide_eq_true (hpos.1 h)
    · rw [decide_eq_false h]
      exact decide_eq_false (fun h2 => h (hpos.2 h2))
  clear hn hd hn2 hd2 hb0 q0 q1 HX hpos hs0
  generalize (Nt.dig t).length = l at *
  generalize (Nt.dig b).length = l2 at *
  cases s with
  | false =>
    simp only [Bool.not_false, Bool.true_and] at *
    generalize decide (0 < t) = dd at *
    go_enter Tryz.func124, Tryz.ntmps124
    go_wp2_with fail
    refine bodyPost_ret (v := .agg #[.bool dd, .slice ad1 l cap1, .slice ad2 l2 cap2]) (by simp [results, Tryz.results124, go_sem, r0, r1, r2']) rfl ⟨_, rfl, ⟨_, _, rfl, HOUT.out.1, HOUT.out.2.1⟩, HOUT.out.2.2⟩
  | true =>
    simp only [Bool.not_true, Bool.false_and] at *
    clear hdec
    go_enter Tryz.func124, Tryz.ntmps124
    go_wp2_with fail
    refine bodyPost_ret (v := .agg #[.bool false, .slice ad1 l cap1, .slice ad2 l2 cap2]) (by simp [results, Tryz.results124, go_sem, r0, r1, r2']) rfl ⟨_, rfl, ⟨_, _, rfl, HOUT.out.1, HOUT.out.2.1⟩, HOUT.out.2.2⟩
end Go.Proofs.YtikmebkfdpbidaaGreatDoor
namespace Go.Proofs.YtikmebkfdpbidaaGreatDoor
open Go.RowKit
set_option linter.unusedVariables false
set_option linter.unusedSimpArgs false

theorem Nt.Times_any (m n : Nat) (v v2 : Value) (w : World) (h : Nt.N w v m) (h2 : Nt.N w v2 n) (hl : (Nt.dig m).length ≤ 400000) (hl2 : (Nt.dig n).length ≤ 400000) : Calls Tryz.prog 167 #[v, v2] w fun e w' => ∃ v', e = .returned v' ∧ Nt.N w' v' (m * n) ∧ Below w.heap.size w w' := by
  have := Nt.times_ws (Nt.dig m) (Nt.dig n) v v2 w h h2 (Nt.dig_wd m) (Nt.dig_wd n) hl hl2
  rwa [Nt.val_dig, Nt.val_dig] at this
theorem Nt.Plus_any (m n : Nat) (v v2 : Value) (w : World) (h : Nt.N w v m) (h2 : Nt.N w v2 n) (hl : (Nt.dig m).length ≤ 400000) (hl2 : (Nt.dig n).length ≤ 400000) : Calls Tryz.prog 168 #[v, v2] w fun e w' => ∃ v', e = .returned v' ∧ Nt.N w' v' (m + n) ∧ Below w.heap.size w w' := by
  have := Nt.plus_ws (Nt.dig m) (Nt.dig n) v v2 w h h2 (Nt.dig_wd m) (Nt.dig_wd n) (by omega) (by omega)
  rwa [Nt.val_dig, Nt.val_dig] at this
theorem Nt.Less_any (m n : Nat) (v v2 : Value) (w : World) (h : Nt.N w v m) (h2 : Nt.N w v2 n) (hl : (Nt.dig m).length ≤ 400000) (hle : n ≤ m) : Calls Tryz.prog 170 #[v, v2] w fun e w' => ∃ v', e = .returned v' ∧ Nt.N w' v' (m - n) ∧ Below w.heap.size w w' := by
  have := Nt.less_ws (Nt.dig m) (Nt.dig n) v v2 w h h2 (Nt.dig_wd m) (Nt.dig_wd n) (by omega) (Nt.dig_len_mono hle) (by rw [Nt.val_dig, Nt.val_dig]; exact hle)
  rwa [Nt.val_dig, Nt.val_dig] at this
theorem Rt.belowA {w0 w : World} (h : Below w0.heap.size w0 w) (o : Obj) : Below w0.heap.size w0 (w.alloc o) := h.alloc h.size o
theorem Rt.belowD {w0 w : World} (h : Below w0.heap.size w0 w) : Below w0.heap.size w0 w.drew := h.drew
theorem Rt.belowT {w0 w w2 : World} (h : Below w0.heap.size w0 w) (h2 : Below w.heap.size w w2) : Below w0.heap.size w0 w2 := h.trans (h2.mono h.size)
/-- Three boxes behind a world. -/
theorem Rt.three (w : World) (o o2 o3 : Obj) : ∃ W2, ((w.alloc o).alloc o2).alloc o3 = W2 ∧ W2.heap[w.heap.size]? = some o ∧ W2.heap[w.heap.size + 1]? = some o2 ∧ W2.heap[w.heap.size + 2]? = some o3 ∧ W2.heap.size = w.heap.size + 3 ∧ Below w.heap.size w W2 := by
  have h1 : (w.alloc o).heap.size = w.heap.size + 1 := by simp
  have h2 : ((w.alloc o).alloc o2).heap.size = w.heap.size + 2 := by simp
  refine ⟨_, rfl, ?_, ?_, ?_, by simp, ?_⟩
  · exact (Lib.alloc_old _ _ _ (by rw [h2]; omega)).trans ((Lib.alloc_old _ _ _ (by rw [h1]; omega)).trans (heap_alloc_new w o))
  · have := heap_alloc_new (w.alloc o) o2
    rw [h1] at this
    exact (Lib.alloc_old _ _ _ (by rw [h2]; omega)).trans this
  · have := heap_alloc_new ((w.alloc o).alloc o2) o3
    rwa [h2] at this
  · exact (((Below.refl _ _).alloc (Nat.le_refl _) _).alloc (by rw [h1]; omega) _).alloc (by rw [h2]; omega) _
theorem Rt.cells3 {w : World} {b : Nat} {v0 v1 v2 : Value} {t : TypeId} (h : w.heap[b]? = some (.cells #[v0, v1, v2] t (0, 0))) : w.cell? ⟨b, 0, none⟩ = some v0 ∧ w.cell? ⟨b, 1, none⟩ = some v1 ∧ w.cell? ⟨b, 2, none⟩ = some v2 := ⟨Rt.cell_of h 0, Rt.cell_of h 1, Rt.cell_of h 2⟩

def Rt.prodS (s1 : Bool) (t1 b1 : Nat) (s2 : Bool) (t2 b2 : Nat) : Bool × Nat × Nat := Rt.ratS (s1 != s2) (t1 * t2) (b1 * b2)
def Rt.sumS (s1 : Bool) (t1 b1 : Nat) (s2 : Bool) (t2 b2 : Nat) : Bool × Nat × Nat :=
  if s1 = s2 then Rt.ratS s1 (t1 * b2 + t2 * b1) (b1 * b2) else if t2 * b1 ≤ t1 * b2 then Rt.ratS s1 (t1 * b2 - t2 * b1) (b1 * b2) else Rt.ratS s2 (t2 * b1 - t1 * b2) (b1 * b2)

set_option maxHeartbeats 8000000 in
set_option maxRecDepth 1000000 in
theorem Rt.product_any (s1 s2 : Bool) (t1 b1 t2 b2 : Nat) (v v2 : Value) (w : World) (h : Rt.R w v s1 t1 b1) (h2 : Rt.R w v2 s2 t2 b2) (hb1 : 0 < b1) (hb2 : 0 < b2) (hl : (Nt.dig t1).length ≤ 400000 ∧ (Nt.dig b1).length ≤ 400000 ∧ (Nt.dig t2).length ≤ 400000 ∧ (Nt.dig b2).length ≤ 400000) (hok : Nt.Ok (t1 * t2) (b1 * b2)) :
    Calls Tryz.prog 121 #[v, v2] w fun e w' => ∃ v', e = .returned v' ∧ Rt.R w' v' (Rt.prodS s1 t1 b1 s2 t2 b2).1 (Rt.prodS s1 t1 b1 s2 t2 b2).2.1 (Rt.prodS s1 t1 b1 s2 t2 b2).2.2 ∧ Below w.heap.size w w' := by
  have KT := fun v v2 w h h2 => Nt.Times_any t1 t2 v v2 w h h2 hl.1 hl.2.2.1
  have KB := fun v v2 w h h2 => Nt.Times_any b1 b2 v v2 w h h2 hl.2.1 hl.2.2.2
  have KR := fun tv bv w h h2 => Rt.rat_any (s1 != s2) (t1 * t2) (b1 * b2) tv bv w h h2 (Nat.mul_pos hb1 hb2) hok
  have hdef : Rt.prodS s1 t1 b1 s2 t2 b2 = Rt.ratS (s1 != s2) (t1 * t2) (b1 * b2) := rfl
  rw [hdef]
  generalize Rt.ratS (s1 != s2) (t1 * t2) (b1 * b2) = rr at *
  generalize t1 * t2 = tt at *
  generalize b1 * b2 = bb at *
  obtain ⟨rs, rt, rb⟩ := rr
  simp only at KR ⊢
  clear hdef hok hb1 hb2 hl
  obtain ⟨tv1, bv1, rfl, hn1, hd1⟩ := h
  obtain ⟨tv2, bv2, rfl, hn2, hd2⟩ := h2
  obtain ⟨a1, c1, rfl⟩ := Nt.In.slice hn1
  obtain ⟨a2, c2, rfl⟩ := Nt.In.slice hd1
  obtain ⟨a3, c3, rfl⟩ := Nt.In.slice hn2
  obtain ⟨a4, c4, rfl⟩ := Nt.In.slice hd2
  generalize (Nt.dig t1).length = l1 at *
  generalize (Nt.dig b1).length = l2 at *
  generalize (Nt.dig t2).length = l3 at *
  generalize (Nt.dig b2).length = l4 at *
  obtain ⟨W2, hW2, q0, q1, q2, hsz, hb0⟩ := Rt.three w (.cells #[.bool s1, .slice a1 l1 c1, .slice a2 l2 c2] 24) (.cells #[.bool s2, .slice a3 l3 c3, .slice a4 l4 c4] 24) (.cells #[.bool false, .slice none 0 0, .slice none 0 0] 24)
  have HI := Lib.hid (fun (w' : World) (hb : Below W2.heap.size W2 w') => And.intro ((Nt.N.below hn1 hb0 (Nat.le_refl _)).below hb (Nat.le_refl _)) (And.intro ((Nt.N.below hd1 hb0 (Nat.le_refl _)).below hb (Nat.le_refl _)) (And.intro ((Nt.N.below hn2 hb0 (Nat.le_refl _)).below hb (Nat.le_refl _)) ((Nt.N.below hd2 hb0 (Nat.le_refl _)).below hb (Nat.le_refl _)))))
  have HK := Lib.hid (fun (w' : World) (hb : Below W2.heap.size W2 w') => And.intro (Rt.cells3 ((hb.block w.heap.size (by omega)).trans q0)) (Rt.cells3 ((hb.block (w.heap.size + 1) (by omega)).trans q1)))
  have HR := Lib.hid (fun (w' : World) (hb : Below W2.heap.size W2 w') => (hb.block (w.heap.size + 2) (by omega)).trans q2)
  have HKX := Lib.hid (fun (w' w'' : World) (hb : Below W2.heap.size W2 w') (hx : ∀ q, q ≠ w.heap.size + 2 → w''.heap[q]? = w'.heap[q]?) => And.intro (Rt.cells3 ((hx w.heap.size (by omega)).trans ((hb.block w.heap.size (by omega)).trans q0))) (Rt.cells3 ((hx (w.heap.size + 1) (by omega)).trans ((hb.block (w.heap.size + 1) (by omega)).trans q1))))
  have HB := Lib.hid (fun (w' : World) (hb : Below W2.heap.size W2 w') => hb0.trans (hb.mono (by omega : w.heap.size ≤ W2.heap.size)))
  have hacc : Below W2.heap.size W2 W2.drew := Rt.belowD (Below.refl _ _)
  have hkeep := HK.out _ hacc
  clear q0 q1 q2 hb0 hn1 hd1 hn2 hd2 hsz
  have hz : (s1 != s2) = (s1 != s2) := rfl
  go_enter Tryz.func121, Tryz.ntmps121
  go_wp2_with fail
  clear hW2
  go_region_held3 (fun w' => (w'.cell? ⟨w.heap.size, 0, none⟩ = some (.bool s1) ∧ w'.cell? ⟨w.heap.size, 1, none⟩ = some (.slice a1 l1 c1) ∧ w'.cell? ⟨w.heap.size, 2, none⟩ = some (.slice a2 l2 c2)) ∧ (w'.cell? ⟨w.heap.size + 1, 0, none⟩ = some (.bool s2) ∧ w'.cell? ⟨w.heap.size + 1, 1, none⟩ = some (.slice a3 l3 c3) ∧ w'.cell? ⟨w.heap.size + 1, 2, none⟩ = some (.slice a4 l4 c4)))
    (first | exact hkeep | exact hkeepX)
    (first
      | (go_at_call_of 167 (Value.slice a1 l1 c1)
         refine (KT _ _ _ (HI.out _ hacc).1 (HI.out _ hacc).2.2.1).mono ?_
         rintro x w5 ⟨v5, rfl, hv5, hb5⟩
         have hacc := Rt.belowT hacc hb5
         have hkeep := HK.out _ hacc)
      | (go_at_call_of 167 (Value.slice a2 l2 c2)
         refine (KB _ _ _ (HI.out _ hacc).2.1 (HI.out _ hacc).2.2.2).mono ?_
         rintro x w6 ⟨v6, rfl, hv6, hb6⟩
         have hv5 := Nt.N.below hv5 hb6 (Nat.le_refl _)
         have hacc := Rt.belowT hacc hb6
         have hkeep := HK.out _ hacc)
      | (go_at_call 84
         refine (KR _ _ _ hv5 hv6).mono ?_
         rintro x w7 ⟨v7, rfl, ⟨tv, bv, rfl, hn, hd⟩, hb7⟩
         obtain ⟨a5, c5, rfl⟩ := Nt.In.slice hn
         obtain ⟨a6, c6, rfl⟩ := Nt.In.slice hd
         have hacc := Rt.belowT hacc hb7
         have hkeep := HK.out _ hacc
         obtain ⟨X1, X2, X3, ⟨f0, z0, s0⟩, ⟨f1, z1, s1'⟩, ⟨f2, z2, s2'⟩, ⟨r0, r1, r2'⟩, HX⟩ := Rt.put3 (HR.out _ hacc) (.bool rs) (.slice a5 (Nt.dig rt).length c5) (.slice a6 (Nt.dig rb).length c6)
         have HOUT : Hid (Nt.N X3 (.slice a5 (Nt.dig rt).length c5) rt ∧ Nt.N X3 (.slice a6 (Nt.dig rb).length c6) rb ∧ Below w.heap.size w X3) := Lib.hid ⟨Nt.In.othr hn (HR.out _ hacc) Rt.noWords HX.out.2.2.1 HX.out.2.1, Nt.In.othr hd (HR.out _ hacc) Rt.noWords HX.out.2.2.1 HX.out.2.1, HX.out.2.2.2 _ _ (HB.out _ hacc) (by omega)⟩
         have hkeepX := HKX.out _ X3 hacc HX.out.2.2.1))
  all_goals
    clear hkeep hkeepX hacc hb5 hb6 hb7 hv5 hv6 hn hd HX
    generalize (Nt.dig rt).length = l5 at *
    generalize (Nt.dig rb).length = l6 at *
    go_wp2_with fail
    refine bodyPost_ret (v := .agg #[.bool rs, .slice a5 l5 c5, .slice a6 l6 c6]) (by simp [results, Tryz.results121, go_sem, r0, r1, r2']) rfl ⟨_, rfl, ⟨_, _, rfl, HOUT.out.1, HOUT.out.2.1⟩, HOUT.out.2.2⟩
end Go.Proofs.YtikmebkfdpbidaaGreatDoor
