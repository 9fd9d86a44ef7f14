/-
  nat.Over, nat.Divisor of numbers, where the divisor is one word.
  nat.Times of numbers.
  nat.Less of numbers.
  Fractions: exact.rat, whole, minus.
  What the transcoders read, in plain Lean: the units of bytes, and what Decode makes of them.
  Slices of bytes that a call reads or has made, in plain Lean over worlds. No conditions.
  Data as trees, and how they lie in memory.
  Which data are sound: plain law.
  exact.Sound of any number.
  Fractions: exact.sum, product.
-/
import Derived.Deep.LoopGhost
import Derived.Laws.Bits64
import Derived.Deep.RegionHeld3
import Derived.WalkKit
import Derived.Lib.RuneCount
import Derived.Laws.AppendOwnNone
import Derived.ChangeSlices
import Derived.RegionTactic
import Derived.OpenShut
import Derived.SizedLaws
import Derived.ProofKit
import Derived.Lib.SmallJoins
import Derived.Lib.ValidU
import Derived.Test.YtikmebkfdpbidaaGreatDoorNtOverLT
import Derived.Test.YtikmebkfdpbidaaGreatDoorTb
import Derived.Test.YtikmebkfdpbidaaGreatDoorTa
namespace Go.Proofs.YtikmebkfdpbidaaGreatDoor
open Go.RowKit
set_option linter.unusedVariables false
set_option linter.unusedSimpArgs false

/-- The divisions by one word. -/
def Nt.Ok1 (m n : Nat) : Prop := n < 4294967296 ∧ (Nt.dig m).length ≤ 400000
/-- Which divisions are served. -/
def Nt.Ok (m n : Nat) : Prop := (Nt.dig n).length ≤ 400000 ∧ (Nt.dig m).length ≤ 400000
theorem Nt.dig_len_mono {m n : Nat} (h : m ≤ n) : (Nt.dig m).length ≤ (Nt.dig n).length := by
  rcases Nat.lt_or_ge (Nt.dig n).length (Nt.dig m).length with h1 | h1
  · have := Nt.dig_len_lt h1
    omega
  · exact h1
theorem Nt.dig_len_one {n : Nat} (h0 : 0 < n) (h : n < 4294967296) : (Nt.dig n).length = 1 := by rw [Nt.dig_small h0 h]; rfl
theorem Nt.dig_len_le {n : Nat} (h : n < 4294967296) : (Nt.dig n).length ≤ 1 := by
  rcases Nat.eq_zero_or_pos n with h0 | h0
  · subst h0; rw [Nt.dig_zero]; exact Nat.zero_le _
  · rw [Nt.dig_len_one h0 h]; exact Nat.le_refl _
theorem Nt.Ok.step {m n : Nat} (h : Nt.Ok m n) (hn : 0 < n) : Nt.Ok n (m % n) :=
  ⟨Nat.le_trans (Nt.dig_len_mono (Nat.le_of_lt (Nat.mod_lt _ hn))) h.1, h.1⟩

set_option maxHeartbeats 4000000 in
set_option maxRecDepth 1000000 in
theorem Nt.Over_short (m n : Nat) (v v2 : Value) (w : World) (h : Nt.N w v m) (h2 : Nt.N w v2 n) (hn : 0 < n) (hok : Nt.Ok1 m n) : Calls Tryz.prog 130 #[v, v2] w fun e w' => ∃ q r, e = .returned (.tuple #[q, r]) ∧ Nt.N w' q (m / n) ∧ Nt.N w' r (m % n) ∧ Below w.heap.size w w' := by
  have hl1 := hok.2
  have hl2 := Nt.dig_len_one hn hok.1
  have KO := Nt.Order_any m n v v2 w h h2 (by omega) (by omega)
  obtain ⟨ad, cap, rfl⟩ := Nt.In.slice h
  obtain ⟨ad2, cap2, rfl⟩ := Nt.In.slice h2
  have H := Lib.hid h
  have H2 := Lib.hid h2
  have hn32 := hok.1
  clear h h2 hok
  by_cases hlt : m < n
  · rw [Nt.cmp_lt hlt] at KO
    have hq : m / n = 0 := Nat.div_eq_of_lt hlt
    have hr : m % n = m := Nat.mod_eq_of_lt hlt
    rw [hq, hr]
    have KC := fun w h => Nt.Clone_any (Nt.dig m) (.slice ad (Nt.dig m).length cap) w h (by omega)
    clear hq hr
    generalize (Nt.dig m).length = l at *
    generalize (Nt.dig n).length = l2 at *
    clear hlt hn hn32 hl2
    go_enter Tryz.func130, Tryz.ntmps130
    go_wp2_with fail
    refine KO.mono ?_
    rintro x w1 ⟨rfl, hb1⟩
    have HB1 := Lib.hid hb1
    clear hb1
    go_wp2_with fail
    refine (KC _ (H.out.below HB1.out (Nat.le_refl _))).mono ?_
    rintro x w2 ⟨v2, rfl, hi2, hb2⟩
    have HI2 := Lib.hid hi2
    have HB2 := Lib.hid (HB1.out.trans (hb2.mono HB1.out.size))
    clear hi2 hb2
    go_wp2_with fail
    go_ret2
    exact ⟨_, _, rfl, Nt.N.zero _, HI2.out, HB2.out⟩
  · have hc : ¬ Nt.cmp m n < 0 := fun h => hlt (Nt.cmp_neg.1 h)
    have hcd : decide (Nt.cmp m n < 0) = false := decide_eq_false hc
    have hdn := Nt.dig_small hn hn32
    obtain ⟨b2, o2, rfl, hl22, hcap2, hbl2, hcell2⟩ := Nt.In.at H2.out (by omega)
    have c2 := hcell2 0 (by omega)
    rw [hdn] at c2
    simp only [Nat.add_zero, List.getD_cons_zero] at c2
    rw [hl2] at *
    have KS := fun w h => Nt.short_ws (Nt.dig m) n (.slice ad (Nt.dig m).length cap) w h (Nt.dig_wd m) (by omega) hn hn32
    rw [Nt.val_dig] at KS
    have hml : m % n < 4294967296 := Nat.lt_trans (Nat.mod_lt _ hn) hn32
    have hnw : Nt.Wd [m % n] := fun x hx => by simp only [List.mem_singleton] at hx; omega
    have KN := fun v w h => Nt.norm_any [m % n] v w h hnw (by simp)
    rw [show Nt.val [m % n] = m % n by simp [Nt.val]] at KN
    have HA : Hid (∀ w : World, Nt.In (w.alloc (.cells #[.int .u32 (m % n : Nat)] 144)) (.slice (some ⟨w.heap.size, 0, none⟩) 1 1) [m % n] ∧ Below w.heap.size w (w.alloc (.cells #[.int .u32 (m % n : Nat)] 144))) := Lib.hid (fun w => by
      refine ⟨?_, (Below.refl _ _).alloc (Nat.le_refl _) _⟩
      have e : (#[.int .u32 (m % n : Nat)] : Array Value) = Nt.row [m % n] := by simp [Nt.row]
      rw [e]
      exact Nt.In.of_row (heap_alloc_new w _))
    generalize m % n = r at *
    generalize (Nt.dig m).length = l at *
    clear hcell2 hdn hc hlt hl22 hnw
    generalize Nt.cmp m n = cc at *
    go_enter Tryz.func130, Tryz.ntmps130
    go_wp2_with fail
    refine KO.mono ?_
    rintro x w1 ⟨rfl, hb1⟩
    have c3 := (hb1.cell (p := ⟨b2, o2, none⟩) hbl2).trans c2
    have HB1 := Lib.hid hb1
    clear hb1 c2
    go_wp2_with fail
    refine (KS _ (H.out.below HB1.out (Nat.le_refl _))).mono ?_
    rintro x w2 ⟨vq, rfl, hq2, hb2⟩
    have HQ2 := Lib.hid hq2
    have HB2 := Lib.hid (HB1.out.trans (hb2.mono HB1.out.size))
    clear hq2 hb2 c3
    go_wp2_with fail
    refine (KN _ _ (HA.out _).1).mono ?_
    rintro x w3 ⟨vr, rfl, hr3, hb3⟩
    have HR3 := Lib.hid hr3
    have hb3 := (HA.out w2).2.trans (hb3.mono (HA.out w2).2.size)
    have HQ3 := Lib.hid (HQ2.out.below hb3 (Nat.le_refl _))
    have HB3 := Lib.hid (HB2.out.trans (hb3.mono HB2.out.size))
    clear hr3 hb3
    go_wp2_with fail
    go_ret2
    exact ⟨_, _, rfl, HQ3.out, HR3.out, HB3.out⟩
set_option maxHeartbeats 4000000 in
set_option maxRecDepth 1000000 in
theorem Nt.Over_less (m n : Nat) (v v2 : Value) (w : World) (h : Nt.N w v m) (h2 : Nt.N w v2 n) (hlt : m < n) (hok : Nt.Ok m n) : Calls Tryz.prog 130 #[v, v2] w fun e w' => ∃ q r, e = .returned (.tuple #[q, r]) ∧ Nt.N w' q (m / n) ∧ Nt.N w' r (m % n) ∧ Below w.heap.size w w' := by
  have hl1 := hok.2
  have hl2 := hok.1
  have KO := Nt.Order_any m n v v2 w h h2 (by omega) (by omega)
  obtain ⟨ad, cap, rfl⟩ := Nt.In.slice h
  obtain ⟨ad2, cap2, rfl⟩ := Nt.In.slice h2
  have H := Lib.hid h
  clear h h2 hok
  rw [Nt.cmp_lt hlt] at KO
  have hq : m / n = 0 := Nat.div_eq_of_lt hlt
  have hr : m % n = m := Nat.mod_eq_of_lt hlt
  rw [hq, hr]
  have KC := fun w h => Nt.Clone_any (Nt.dig m) (.slice ad (Nt.dig m).length cap) w h (by omega)
  clear hq hr
  generalize (Nt.dig m).length = l at *
  generalize (Nt.dig n).length = l2 at *
  clear hlt hl2
  go_enter Tryz.func130, Tryz.ntmps130
  go_wp2_with fail
  refine KO.mono ?_
  rintro x w1 ⟨rfl, hb1⟩
  have HB1 := Lib.hid hb1
  clear hb1
  go_wp2_with fail
  refine (KC _ (H.out.below HB1.out (Nat.le_refl _))).mono ?_
  rintro x w2 ⟨v2, rfl, hi2, hb2⟩
  have HI2 := Lib.hid hi2
  have HB2 := Lib.hid (HB1.out.trans (hb2.mono HB1.out.size))
  clear hi2 hb2
  go_wp2_with fail
  go_ret2
  exact ⟨_, _, rfl, Nt.N.zero _, HI2.out, HB2.out⟩
theorem Nt.Over_any (m n : Nat) (v v2 : Value) (w : World) (h : Nt.N w v m) (h2 : Nt.N w v2 n) (hn : 0 < n) (hok : Nt.Ok m n) : Calls Tryz.prog 130 #[v, v2] w fun e w' => ∃ q r, e = .returned (.tuple #[q, r]) ∧ Nt.N w' q (m / n) ∧ Nt.N w' r (m % n) ∧ Below w.heap.size w w' := by
  rcases Nat.lt_or_ge n 4294967296 with h1 | h1
  · exact Nt.Over_short m n v v2 w h h2 hn ⟨h1, hok.2⟩
  · rcases Nat.lt_or_ge m n with h3 | h3
    · exact Nt.Over_less m n v v2 w h h2 h3 hok
    · exact Nt.Over_long m n v v2 w h h2 h1 h3 hok.2
set_option maxHeartbeats 4000000 in
set_option maxRecDepth 1000000 in
theorem Nt.Divisor_any (m n : Nat) (v v2 : Value) (w : World) (h : Nt.N w v m) (h2 : Nt.N w v2 n) (hok : Nt.Ok m n) : Calls Tryz.prog 129 #[v, v2] w fun e w' => ∃ v', e = .returned v' ∧ Nt.N w' v' (Nat.gcd m n) ∧ Below w.heap.size w w' := by
  obtain ⟨ad, cap, rfl⟩ := Nt.In.slice h
  obtain ⟨ad2, cap2, rfl⟩ := Nt.In.slice h2
  have H := Lib.hid h
  have H2 := Lib.hid h2
  have HOK := Lib.hid hok
  clear h h2 hok
  go_enter Tryz.func129, Tryz.ntmps129
  go_wp2_with fail
  go_loopg [0, 1] n (fun g va vb wr => ∃ a : Nat, Nt.N wr va a ∧ Nt.N wr vb g ∧ Nt.Ok a g ∧ Nat.gcd a g = Nat.gcd m n ∧ Below w.heap.size w wr)
  case atStart => exact ⟨m, H.out, H2.out, HOK.out, rfl, Below.refl _ _⟩
  case round =>
    obtain ⟨a, ha, hb, hok, hg, hbw⟩ := hrel
    obtain ⟨adA, capA, rfl⟩ := Nt.In.slice ha
    obtain ⟨adB, capB, rfl⟩ := Nt.In.slice hb
    obtain ⟨wo, hwo⟩ : ∃ z, z = wr := ⟨_, rfl⟩
    subst hwo
    have HA := Lib.hid ha
    have HB := Lib.hid hb
    have HK := Lib.hid hok
    have HG := Lib.hid hg
    have HBW := Lib.hid hbw
    clear ha hb hok hg hbw H H2 HOK
    rcases Nat.eq_zero_or_pos gk with h0 | h0
    · subst h0
      have hl0 : ((Nt.dig 0).length : Int) = 0 := by rw [Nt.dig_zero]; rfl
      have KC := fun w h => Nt.Clone_any (Nt.dig a) (.slice adA (Nt.dig a).length capA) w h (by have := HK.out.2; omega)
      have hga : a = Nat.gcd m n := by have := HG.out; rwa [Nat.gcd_zero_right] at this
      have HGA := Lib.hid hga
      clear hga
      generalize (Nt.dig a).length = l at *
      go_wp2_with fail
      refine (KC _ HA.out).mono ?_
      rintro x w2 ⟨v2, rfl, hi2, hb2⟩
      have HI2 := Lib.hid hi2
      have HB2 := Lib.hid (HBW.out.trans (hb2.mono HBW.out.size))
      clear hi2 hb2
      go_wp2_with fail
      go_ret
      exact ⟨_, rfl, HGA.out ▸ HI2.out, HB2.out⟩
    · have hl1 := Nt.dig_len_pos.2 h0
      have KO := Nt.Over_any a gk _ _ wo HA.out HB.out h0 HK.out
      have hlp : ((Nt.dig gk).length : Int) > 0 := by omega
      have HL1 := Lib.hid hl1
      clear hl1
      go_wp2_with fail
      refine KO.mono ?_
      rintro x w2 ⟨q, r, rfl, hq2, hr2, hb2⟩
      have HR2 := Lib.hid hr2
      have HB2 := Lib.hid (HB.out.below hb2 (Nat.le_refl _))
      have HBB := Lib.hid (HBW.out.trans (hb2.mono HBW.out.size))
      clear hq2 hr2 hb2
      go_wp2_with fail
      go_roundg (a % gk)
      case measure => exact Nat.mod_lt _ h0
      case rel => exact ⟨gk, HB2.out, HR2.out, HK.out.step h0, by rw [Nt.gcd_step, HG.out], HBB.out⟩
end Go.Proofs.YtikmebkfdpbidaaGreatDoor
namespace Go.Proofs.YtikmebkfdpbidaaGreatDoor
open Go.RowKit
set_option linter.unusedVariables false
set_option linter.unusedSimpArgs false

set_option maxHeartbeats 4000000 in
set_option maxRecDepth 1000000 in
theorem Nt.times_ws (a b : List Nat) (v v2 : Value) (w : World) (h : Nt.In w v a) (h2 : Nt.In w v2 b) (ha : Nt.Wd a) (hb : Nt.Wd b) (hl : a.length ≤ 400000) (hll : b.length ≤ 400000) : Calls Tryz.prog 167 #[v, v2] w fun e w' => ∃ v', e = .returned v' ∧ Nt.N w' v' (Nt.val a * Nt.val b) ∧ Below w.heap.size w w' := by
  obtain ⟨ad, cap, rfl⟩ := h.slice
  obtain ⟨ad2, cap2, rfl⟩ := h2.slice
  have H := Lib.hid h
  have H2 := Lib.hid h2
  have HA := Lib.hid ha
  have HB := Lib.hid hb
  have hmk := Nt.make (a.length + b.length) w (by omega)
  have hcast : (((a.length + b.length : Nat) : Int)) = (a.length : Int) + (b.length : Int) := by omega
  rw [hcast] at hmk
  clear h h2 ha hb hcast
  obtain ⟨T, hT⟩ : ∃ T, w.heap.size = T := ⟨_, rfl⟩
  obtain ⟨w2, hw2⟩ : ∃ z, w.alloc (.cells (Nt.row (List.replicate (a.length + b.length) 0)) 144) = z := ⟨_, rfl⟩
  have q2 : w2.heap[T]? = some (.cells (Nt.row (List.replicate (a.length + b.length) 0)) 144 (0, 0)) := by rw [← hw2, ← hT]; exact heap_alloc_new w _
  have hb2 : Below w.heap.size w w2 := hw2 ▸ (Below.refl _ _).alloc (Nat.le_refl _) _
  rw [hT, hw2] at hmk
  have HT := Lib.hid hT
  have HB2 := Lib.hid hb2
  have HQ2 := Lib.hid q2
  clear hT hw2 hb2 q2
  go_enter Tryz.func167, Tryz.ntmps167
  go_wp2_with fail
  go_loopw [19] (fun i wr => ∃ (k : Nat) (ws : List Nat), i = .int .i64 k ∧ k ≤ a.length ∧ ws.length = a.length + b.length ∧ Nt.Wd ws ∧ (∀ j, k + b.length ≤ j → ws.getD j 0 = 0) ∧ Nt.val ws = Nt.val (a.take k) * Nt.val b ∧ wr.heap[T]? = some (.cells (Nt.row ws) 144 (0, 0)) ∧ Below w.heap.size w wr) (fun i _ => a.length - (intOf i).toNat)
  case atStart => exact ⟨0, List.replicate (a.length + b.length) 0, rfl, Nat.zero_le _, by simp, Nt.Wd.zeros _, fun j _ => Nt.zeros_getD _ _, by rw [Nt.val_replicate]; simp [Nt.val], HQ2.out, HB2.out⟩
  case round =>
    obtain ⟨k, ws, rfl, hk, hwl, hwd, hz, hval, hq, hbw⟩ := hrel
    obtain ⟨wo, hwo⟩ : ∃ z, z = wr := ⟨_, rfl⟩
    subst hwo
    have HZ := Lib.hid hz
    have HWD := Lib.hid hwd
    have HV := Lib.hid hval
    have HQ := Lib.hid hq
    have HBW := Lib.hid hbw
    have HWL := Lib.hid hwl
    clear hz hwd hval hq hbw hwl
    by_cases hlt : k < a.length
    · obtain ⟨b1, o1, rfl, _, hcap1, hbl1, hcell1⟩ := (H.out.below HBW.out (Nat.le_refl _)).at (by omega)
      have c1 := hcell1 k hlt
      have hxb := HA.out.getD k
      have HEND : Hid (∀ (us : List Nat) (c : Nat), us.length = a.length + b.length → us.getD (k + b.length) 0 = 0 → Nt.val us + 4294967296 ^ (k + b.length) * c = Nt.val (a.take k) * Nt.val b + 4294967296 ^ k * (a.getD k 0 * Nt.val (b.take b.length)) → Nt.val (us.set (k + b.length) c) = Nt.val (a.take (k + 1)) * Nt.val b) := Lib.hid (fun us c hl2 hz2 h => Nt.times_end h (by omega) hz2)
      clear hcell1
      generalize a.getD k 0 = x at *
      have HX := Lib.hid hxb
      clear hxb
      go_wp2_with fail
      go_loopw [8, 26] (fun cv i wr => ∃ (j c : Nat) (us : List Nat), i = .int .i64 j ∧ cv = .int .u64 c ∧ j ≤ b.length ∧ c < 4294967296 ∧ us.length = a.length + b.length ∧ Nt.Wd us ∧ (∀ t, k + b.length ≤ t → us.getD t 0 = 0) ∧ Nt.val us + 4294967296 ^ (k + j) * c = Nt.val (a.take k) * Nt.val b + 4294967296 ^ k * (x * Nt.val (b.take j)) ∧ wr.heap[T]? = some (.cells (Nt.row us) 144 (0, 0)) ∧ Below w.heap.size w wr) (fun _ i _ => b.length - (intOf i).toNat)
      case atStart => exact ⟨0, 0, ws, rfl, rfl, Nat.zero_le _, by decide, HWL.out, HWD.out, HZ.out, by rw [HV.out]; simp [Nt.val], HQ.out, HBW.out⟩
      case round =>
        obtain ⟨j, c, us, rfl, rfl, hj, hc, hul, hud, huz, huv, huq, hub⟩ := hrel
        obtain ⟨wi, hwi⟩ : ∃ z, z = wr := ⟨_, rfl⟩
        subst hwi
        clear HZ HWD HV HQ HBW HWL c1
        have HZ := Lib.hid huz
        have HWD := Lib.hid hud
        have HV := Lib.hid huv
        have HQ := Lib.hid huq
        have HBW := Lib.hid hub
        have HWL := Lib.hid hul
        clear huz hud huv huq hub hul
        by_cases hlt2 : j < b.length
        · obtain ⟨b2, o2, rfl, _, hcap2, hbl2, hcell2⟩ := (H2.out.below HBW.out (Nat.le_refl _)).at (by omega)
          have c2 := hcell2 j hlt2
          have hyb := HB.out.getD j
          have hob := HWD.out.getD (k + j)
          have hstep := Nt.times_step (ws := us) (b := b) (i := k) (j := j) (c := c) (x := x) HV.out (by have := HWL.out; omega)
          have hbd := Nt.times_bd hc HX.out hyb hob
          have c3 := Nt.cell_row HQ.out (k + j) (by have := HWL.out; omega)
          have HSTEP := Lib.hid hstep
          clear hcell2 hstep
          generalize b.getD j 0 = y at *
          have HO : Hid (us.getD (k + j) 0 = us.getD (k + j) 0) := Lib.hid rfl
          generalize us.getD (k + j) 0 = o at *
          have hmul : ((x : Int) * (y : Int)) % 18446744073709551616 = ((x * y : Nat) : Int) := by
            have h1 : x * y < 18446744073709551616 := by omega
            rw [← Int.natCast_mul]
            omega
          obtain ⟨p, hp⟩ : ∃ p, x * y = p := ⟨_, rfl⟩
          rw [hp] at hmul hbd HSTEP
          have hs1 : ((p : Int) + (o : Int)) % 18446744073709551616 = (p : Int) + (o : Int) := by omega
          have hs2 : ((c : Int) + ((p : Int) + (o : Int))) % 18446744073709551616 = ((c + p + o : Nat) : Int) := by omega
          obtain ⟨s, hs⟩ : ∃ s, c + p + o = s := ⟨_, rfl⟩
          rw [hs] at hs2 hbd HSTEP
          obtain ⟨lo, hlo⟩ : ∃ lo, s % 4294967296 = lo := ⟨_, rfl⟩
          obtain ⟨hi, hhi⟩ : ∃ hi, s / 4294967296 = hi := ⟨_, rfl⟩
          rw [hlo, hhi] at HSTEP
          rw [hhi] at hbd
          have g1 : IntKind.u64.wrap (x : Int) = (x : Int) := by rw [IntKind.wrap_u64]; have := HX.out; omega
          have g2 : IntKind.u64.wrap (y : Int) = (y : Int) := by rw [IntKind.wrap_u64]; omega
          have g3 : IntKind.u64.wrap ((x : Int) * (y : Int)) = (p : Int) := by rw [IntKind.wrap_u64]; exact hmul
          have g4 : IntKind.u64.wrap ((p : Int) + (o : Int)) = (p : Int) + (o : Int) := by rw [IntKind.wrap_u64]; exact hs1
          have g5 : IntKind.u64.wrap ((c : Int) + ((p : Int) + (o : Int))) = (s : Int) := by rw [IntKind.wrap_u64]; exact hs2
          have hloI : (s : Int) % 4294967296 = (lo : Int) := by rw [← hlo]; rfl
          have hhiI : (s : Int) / 4294967296 = (hi : Int) := by rw [← hhi]; rfl
          have hlol : lo < 4294967296 := by omega
          obtain ⟨W, hW, e1, e2, hQ9, hB9, hS9⟩ := Nt.store HQ.out (k + j) lo (by have := HWL.out; omega) HBW.out (by have := HT.out; omega)
          have HNX : Hid (∀ t, k + b.length ≤ t → (us.set (k + j) lo).getD t 0 = 0) := Lib.hid (fun t ht => by rw [Nt.getD_set_ne us (k + j) t lo (by omega)]; exact HZ.out t ht)
          have HR := Lib.hid (And.intro hbd.2 (And.intro hlol (And.intro hQ9 hB9)))
          have hkj : (k : Int) + (j : Int) < (a.length : Int) + (b.length : Int) := by omega
          clear hp hs hlo hhi hbd hlol hQ9 hB9 hS9 hyb hob HO
          go_wp2_with fail
          go_roundw
          case rel => exact ⟨j + 1, hi, _, by first | rfl | go_num | (simp; try omega), by first | rfl | rw [hhiI], by omega, HR.out.1, by rw [List.length_set]; exact HWL.out, HWD.out.set _ _ HR.out.2.1, HNX.out, HSTEP.out, HR.out.2.2.1, HR.out.2.2.2⟩
          case measure => simp [intOf]; omega
        · obtain rfl : j = b.length := by omega
          have hval := HEND.out us c HWL.out (HZ.out _ (Nat.le_refl _)) HV.out
          obtain ⟨W, hW, e1, e2, hQ9, hB9, hS9⟩ := Nt.store HQ.out (k + b.length) c (by have := HWL.out; omega) HBW.out (by have := HT.out; omega)
          have HNX : Hid (∀ t, k + 1 + b.length ≤ t → (us.set (k + b.length) c).getD t 0 = 0) := Lib.hid (fun t ht => by rw [Nt.getD_set_ne us (k + b.length) t c (by omega)]; exact HZ.out t (by omega))
          have HR := Lib.hid (And.intro hval (And.intro hQ9 hB9))
          have hkj : (k : Int) + (b.length : Int) < (a.length : Int) + (b.length : Int) := by omega
          have hcw : (c : Int) % 4294967296 = (c : Int) := by omega
          have hnlt : decide ((b.length : Int) < (b.length : Int)) = false := decide_eq_false (by omega)
          clear hval hQ9 hB9 hS9
          go_wp2_with fail
          go_roundw
          case rel => exact ⟨k + 1, _, by first | rfl | go_num | (simp; try omega), by omega, by rw [List.length_set]; exact HWL.out, HWD.out.set _ _ hc, HNX.out, HR.out.1, HR.out.2.1, HR.out.2.2⟩
          case measure => simp [intOf]; omega
    · obtain rfl : k = a.length := by omega
      have hval := HV.out
      rw [List.take_length] at hval
      have hin : Nt.In wo (.slice (some ⟨T, 0, none⟩) (a.length + b.length) (a.length + b.length)) ws := by
        have := Nt.In.of_row HQ.out
        rw [HWL.out] at this
        exact this
      have KN := Nt.norm_any ws _ wo hin HWD.out (by have := HWL.out; omega)
      rw [hval] at KN
      have hnlt : decide ((a.length : Int) < (a.length : Int)) = false := decide_eq_false (by omega)
      clear hval hin
      go_wp2_with fail
      refine KN.mono ?_
      rintro z w8 ⟨v8, rfl, hn8, hb8⟩
      have HN8 := Lib.hid hn8
      have HB8 := Lib.hid (HBW.out.trans (hb8.mono HBW.out.size))
      clear hn8 hb8
      go_wp2_with fail
      go_ret
      exact ⟨_, rfl, HN8.out, HB8.out⟩
end Go.Proofs.YtikmebkfdpbidaaGreatDoor
namespace Go.Proofs.YtikmebkfdpbidaaGreatDoor
open Go.RowKit
set_option linter.unusedVariables false
set_option linter.unusedSimpArgs false

theorem Nt.less_end {a b ws : List Nat} {n c : Nat} (hw : Nt.Wd ws) (hl : ws.length = n) (h : Nt.val ws + Nt.val b = Nt.val a + 4294967296 ^ n * c) (hab : Nt.val b ≤ Nt.val a) : Nt.val ws = Nt.val a - Nt.val b := by
  have h1 := Nt.val_lt ws hw
  rw [hl] at h1
  rcases Nat.eq_zero_or_pos c with h0 | h0
  · subst h0; omega
  · have : 4294967296 ^ n * 1 ≤ 4294967296 ^ n * c := Nat.mul_le_mul_left _ h0
    omega
set_option maxHeartbeats 4000000 in
set_option maxRecDepth 1000000 in
theorem Nt.less_ws (a b : List Nat) (v v2 : Value) (w : World) (h : Nt.In w v a) (h2 : Nt.In w v2 b) (ha : Nt.Wd a) (hb : Nt.Wd b) (hl : a.length ≤ 500000) (hll : b.length ≤ a.length) (hab : Nt.val b ≤ Nt.val a) : Calls Tryz.prog 170 #[v, v2] w fun e w' => ∃ v', e = .returned v' ∧ Nt.N w' v' (Nt.val a - Nt.val b) ∧ Below w.heap.size w w' := by
  obtain ⟨ad, cap, rfl⟩ := h.slice
  obtain ⟨ad2, cap2, rfl⟩ := h2.slice
  have H := Lib.hid h
  have H2 := Lib.hid h2
  have HA := Lib.hid ha
  have HB := Lib.hid hb
  have hmk := Nt.make a.length w (by omega)
  clear h h2 ha hb
  obtain ⟨T, hT⟩ : ∃ T, w.heap.size = T := ⟨_, rfl⟩
  obtain ⟨w2, hw2⟩ : ∃ z, w.alloc (.cells (Nt.row (List.replicate a.length 0)) 144) = z := ⟨_, rfl⟩
  have q2 : w2.heap[T]? = some (.cells (Nt.row (List.replicate a.length 0)) 144 (0, 0)) := by rw [← hw2, ← hT]; exact heap_alloc_new w _
  have hb2 : Below w.heap.size w w2 := hw2 ▸ (Below.refl _ _).alloc (Nat.le_refl _) _
  rw [hT, hw2] at hmk
  have HT := Lib.hid hT
  have HB2 := Lib.hid hb2
  have HQ2 := Lib.hid q2
  clear hT hw2 hb2 q2
  go_enter Tryz.func170, Tryz.ntmps170
  go_wp2_with fail
  go_loopw [6, 14] (fun cv i wr => ∃ (k c : Nat) (ws : List Nat), i = .int .i64 k ∧ cv = .int .u32 c ∧ k ≤ a.length ∧ c ≤ 1 ∧ ws.length = a.length ∧ Nt.Wd ws ∧ (∀ j, k ≤ j → ws.getD j 0 = 0) ∧ Nt.val (ws.take k) + Nt.val (b.take k) = Nt.val (a.take k) + 4294967296 ^ k * c ∧ wr.heap[T]? = some (.cells (Nt.row ws) 144 (0, 0)) ∧ Below w.heap.size w wr) (fun _ i _ => a.length - (intOf i).toNat)
  case atStart => exact ⟨0, 0, List.replicate a.length 0, rfl, rfl, Nat.zero_le _, by decide, by simp, Nt.Wd.zeros _, fun j _ => Nt.zeros_getD _ _, by simp [Nt.val], HQ2.out, HB2.out⟩
  case round =>
    obtain ⟨k, c, ws, rfl, rfl, hk, hc1, hwl, hwd, hz, hval, hq, hbw⟩ := hrel
    obtain ⟨wo, hwo⟩ : ∃ z, z = wr := ⟨_, rfl⟩
    subst hwo
    have HZ := Lib.hid hz
    have HWD := Lib.hid hwd
    have HV := Lib.hid hval
    have HQ := Lib.hid hq
    have HBW := Lib.hid hbw
    have HWL := Lib.hid hwl
    clear hz hwd hval hq hbw hwl
    by_cases hlt : k < a.length
    · obtain ⟨b1, o1, rfl, _, hcap1, hbl1, hcell1⟩ := (H.out.below HBW.out (Nat.le_refl _)).at (by omega)
      have c1 := hcell1 k hlt
      have hxb := HA.out.getD k
      have hyb := HB.out.getD k
      have hz0 : ws.getD k 0 = 0 := HZ.out k (Nat.le_refl _)
      have hyb2 : k < b.length → ∃ b2 o2, ad2 = some ⟨b2, o2, none⟩ ∧ wo.cell? ⟨b2, o2 + k, none⟩ = some (.int .u32 (b.getD k 0 : Nat)) := fun h => by
        obtain ⟨b2, o2, e, _, _, _, hcell2⟩ := (H2.out.below HBW.out (Nat.le_refl _)).at (by omega)
        exact ⟨b2, o2, e, hcell2 k h⟩
      have hyb3 : ¬ k < b.length → b.getD k 0 = 0 := fun h => Nt.getD_ge b k (by omega)
      have HY2 := Lib.hid hyb2
      have HY3 := Lib.hid hyb3
      clear hcell1 hyb2 hyb3
      have HX := Lib.hid (And.intro hxb hyb)
      have HSTEP : Hid (∀ d c' : Nat, d + b.getD k 0 + c = a.getD k 0 + 4294967296 * c' → Nt.val ((ws.set k d).take (k + 1)) + Nt.val (b.take (k + 1)) = Nt.val (a.take (k + 1)) + 4294967296 ^ (k + 1) * c') := Lib.hid (fun d c' hd => Nt.less_step HV.out (by have := HWL.out; omega) hxb hyb hc1 hd)
      clear hxb hyb hz0
      generalize a.getD k 0 = x at *
      generalize b.getD k 0 = y at *
      have KA := fun w => Nt.Sub32_any x y c w HX.out.1 HX.out.2 hc1
      have HNX : Hid (∀ s j, k + 1 ≤ j → (ws.set k s).getD j 0 = 0) := Lib.hid (fun s j hj => by rw [Nt.getD_set_ne ws k j s (by omega)]; exact HZ.out j (by omega))
      have HST : Hid (∀ s : Nat, ∃ W, wo.setCell ⟨T, k, none⟩ (.int .u32 (s : Int)) = W ∧ wo.cell? ⟨T, k, none⟩ = some (.int .u32 (ws.getD k 0 : Nat)) ∧ wo.frozen? ⟨T, k, none⟩ = false ∧ W.heap[T]? = some (.cells (Nt.row (ws.set k s)) 144 (0, 0)) ∧ Below w.heap.size w W ∧ W.heap.size = wo.heap.size) := Lib.hid (fun s => Nt.store HQ.out k s (by have := HWL.out; omega) HBW.out (by have := HT.out; omega))
      by_cases hlt2 : k < b.length
      · obtain ⟨b2, o2, rfl, c2⟩ := HY2.out hlt2
        have hlt2I : (k : Int) < (b.length : Int) := by omega
        go_wp2_with fail
        refine (KA _).mono ?_
        rintro z wz ⟨s, c', rfl, hs, hc', hd, hwz⟩
        subst hwz
        obtain ⟨W, hW, e1, e2, hQ9, hB9, hS9⟩ := HST.out s
        have HR := Lib.hid (And.intro hs (And.intro hc' (And.intro (HSTEP.out s c' hd) (And.intro hQ9 hB9))))
        clear hs hd hQ9 hB9
        go_wp2_with fail
        go_roundw
        case rel => exact ⟨k + 1, _, _, by first | rfl | go_num | (simp; try omega), rfl, by omega, HR.out.2.1, by rw [List.length_set]; exact HWL.out, HWD.out.set k s HR.out.1, HNX.out s, HR.out.2.2.1, HR.out.2.2.2.1, HR.out.2.2.2.2⟩
        case measure => simp [intOf]; omega
      · obtain rfl := HY3.out hlt2
        have hlt2I : ¬ (k : Int) < (b.length : Int) := by omega
        go_wp2_with fail
        refine (KA _).mono ?_
        rintro z wz ⟨s, c', rfl, hs, hc', hd, hwz⟩
        subst hwz
        obtain ⟨W, hW, e1, e2, hQ9, hB9, hS9⟩ := HST.out s
        have HR := Lib.hid (And.intro hs (And.intro hc' (And.intro (HSTEP.out s c' hd) (And.intro hQ9 hB9))))
        clear hs hd hQ9 hB9
        go_wp2_with fail
        go_roundw
        case rel => exact ⟨k + 1, _, _, by first | rfl | go_num | (simp; try omega), rfl, by omega, HR.out.2.1, by rw [List.length_set]; exact HWL.out, HWD.out.set k s HR.out.1, HNX.out s, HR.out.2.2.1, HR.out.2.2.2.1, HR.out.2.2.2.2⟩
        case measure => simp [intOf]; omega
    · obtain rfl : k = a.length := by omega
      have hlenw := HWL.out
      have hval : Nt.val ws = Nt.val a - Nt.val b := by
        have h2 := HV.out
        rw [List.take_length, List.take_of_length_le hll, List.take_of_length_le (by omega)] at h2
        exact Nt.less_end HWD.out hlenw h2 hab
      have hin : Nt.In wo (.slice (some ⟨T, 0, none⟩) a.length a.length) ws := by
        have := Nt.In.of_row HQ.out
        rw [hlenw] at this
        exact this
      have KN := Nt.norm_any ws _ wo hin HWD.out (by omega)
      rw [hval] at KN
      have hnlt : decide ((a.length : Int) < (a.length : Int)) = false := decide_eq_false (by omega)
      clear hval hin hlenw
      go_wp2_with fail
      refine KN.mono ?_
      rintro z w8 ⟨v8, rfl, hn8, hb8⟩
      have HN8 := Lib.hid hn8
      have HB8 := Lib.hid (HBW.out.trans (hb8.mono HBW.out.size))
      clear hn8 hb8
      go_wp2_with fail
      go_ret
      exact ⟨_, rfl, HN8.out, HB8.out⟩
end Go.Proofs.YtikmebkfdpbidaaGreatDoor
namespace Go.Proofs.YtikmebkfdpbidaaGreatDoor
open Go.RowKit
set_option linter.unusedVariables false
set_option linter.unusedSimpArgs false

theorem Rt.cell_of {w : World} {b : Nat} {C : Array Value} {t : TypeId} (h : w.heap[b]? = some (.cells C t (0, 0))) (k : Nat) : w.cell? ⟨b, k, none⟩ = C[k]? := by
  simp [World.cell?, h]
theorem Rt.setCells {w : World} {b : Nat} {C : Array Value} {t : TypeId} (h : w.heap[b]? = some (.cells C t (0, 0))) (k : Nat) (u : Value) : (w.setCell ⟨b, k, none⟩ u).heap[b]? = some (.cells (C.set! k u) t (0, 0)) := by
  obtain ⟨hlt, hk⟩ := Array.getElem?_eq_some_iff.1 h
  show (w.heap.modify b _)[b]? = _
  rw [Array.getElem?_eq_getElem (by rw [Array.size_modify]; exact hlt), Array.getElem_modify_self, hk]
  rfl
theorem Rt.frozen_of {w : World} {b : Nat} {C : Array Value} {t : TypeId} (h : w.heap[b]? = some (.cells C t (0, 0))) (k : Nat) : w.frozen? ⟨b, k, none⟩ = false := by
  simp [World.frozen?, h]
/-- Three cells are stored. -/
theorem Rt.put3 {w : World} {b : Nat} {v0 v1 v2 : Value} {t : TypeId} (h : w.heap[b]? = some (.cells #[v0, v1, v2] t (0, 0))) (u0 u1 u2 : Value) :
    ∃ W1 W2 W3 : World,
    (w.cell? ⟨b, 0, none⟩ = some v0 ∧ w.frozen? ⟨b, 0, none⟩ = false ∧ w.setCell ⟨b, 0, none⟩ u0 = W1) ∧
    (W1.cell? ⟨b, 1, none⟩ = some v1 ∧ W1.frozen? ⟨b, 1, none⟩ = false ∧ W1.setCell ⟨b, 1, none⟩ u1 = W2) ∧
    (W2.cell? ⟨b, 2, none⟩ = some v2 ∧ W2.frozen? ⟨b, 2, none⟩ = false ∧ W2.setCell ⟨b, 2, none⟩ u2 = W3) ∧
    (W3.cell? ⟨b, 0, none⟩ = some u0 ∧ W3.cell? ⟨b, 1, none⟩ = some u1 ∧ W3.cell? ⟨b, 2, none⟩ = some u2) ∧
    Hid (W3.heap[b]? = some (.cells #[u0, u1, u2] t (0, 0)) ∧ W3.heap.size = w.heap.size ∧ (∀ q, q ≠ b → W3.heap[q]? = w.heap[q]?) ∧ ∀ (B : Nat) (w0 : World), Below B w0 w → B ≤ b → Below B w0 W3) := by
  have h1 : (w.setCell ⟨b, 0, none⟩ u0).heap[b]? = some (.cells #[u0, v1, v2] t (0, 0)) := Rt.setCells h 0 u0
  have h2 : ((w.setCell ⟨b, 0, none⟩ u0).setCell ⟨b, 1, none⟩ u1).heap[b]? = some (.cells #[u0, u1, v2] t (0, 0)) := Rt.setCells h1 1 u1
  have h3 : (((w.setCell ⟨b, 0, none⟩ u0).setCell ⟨b, 1, none⟩ u1).setCell ⟨b, 2, none⟩ u2).heap[b]? = some (.cells #[u0, u1, u2] t (0, 0)) := Rt.setCells h2 2 u2
  refine ⟨_, _, _, ⟨Rt.cell_of h 0, Rt.frozen_of h 0, rfl⟩, ⟨Rt.cell_of h1 1, Rt.frozen_of h1 1, rfl⟩, ⟨Rt.cell_of h2 2, Rt.frozen_of h2 2, rfl⟩, ⟨Rt.cell_of h3 0, Rt.cell_of h3 1, Rt.cell_of h3 2⟩, Lib.hid ⟨h3, by simp, fun q hq => ?_, fun B w0 hb hB => ?_⟩⟩
  · rw [Below.heap_setCell _ ⟨b, 2, none⟩ _ q hq, Below.heap_setCell _ ⟨b, 1, none⟩ _ q hq, Below.heap_setCell _ ⟨b, 0, none⟩ _ q hq]
  · exact ((hb.setCell (p := ⟨b, 0, none⟩) hB _).setCell (p := ⟨b, 1, none⟩) hB _).setCell (p := ⟨b, 2, none⟩) hB _
/-- A row of words stays when another block, of other things, is stored into. -/
theorem Nt.In.othr {w w' : World} {v : Value} {ws : List Nat} {r : Nat} {C : Array Value} {t : TypeId} (h : Nt.In w v ws) (hr : w.heap[r]? = some (.cells C t (0, 0))) (hC : ∀ (k : Nat) (n : Int), C[k]? ≠ some (.int .u32 n)) (hk : ∀ q, q ≠ r → w'.heap[q]? = w.heap[q]?) (hs : w'.heap.size = w.heap.size) : Nt.In w' v ws := by
  rcases h with h | h | ⟨h0, b, off, cap, hv, hc, hl, hcell⟩
  · exact .inl h
  · exact .inr (.inl h)
  · have hb : b ≠ r := by
      rintro rfl
      have := hcell 0 h0
      rw [Rt.cell_of hr] at this
      exact hC _ _ this
    exact .inr (.inr ⟨h0, b, off, cap, hv, hc, by omega, fun j hj => (World.cell?_of_block (a := ⟨b, off + j, none⟩) (hk b hb)).trans (hcell j hj)⟩)

/-- A fraction's value: its sign, what is above, what is below. -/
def Rt.R (w : World) (v : Value) (s : Bool) (t b : Nat) : Prop := ∃ tv bv, v = .agg #[.bool s, tv, bv] ∧ Nt.N w tv t ∧ Nt.N w bv b
theorem Rt.R.below {w w' : World} {v : Value} {s : Bool} {t b B : Nat} (h : Rt.R w v s t b) (hb : Below B w w') (hB : w.heap.size ≤ B) : Rt.R w' v s t b := by
  obtain ⟨tv, bv, hv, h1, h2⟩ := h
  exact ⟨tv, bv, hv, h1.below hb hB, h2.below hb hB⟩
/-- Cells of a fraction hold no words. -/
theorem Rt.noWords {s : Bool} {a1 a2 : Option Addr} {n1 n2 c1 c2 : Nat} : ∀ (k : Nat) (n : Int), (#[Value.bool s, .slice a1 n1 c1, .slice a2 n2 c2] : Array Value)[k]? ≠ some (.int .u32 n) := by
  intro k n h
  have hm := Array.mem_of_getElem? h
  simp at hm
def Rt.ratS (neg : Bool) (t b : Nat) : Bool × Nat × Nat := (neg && decide (0 < t / Nat.gcd t b), t / Nat.gcd t b, b / Nat.gcd t b)
theorem Rt.ok_gcd {t b : Nat} (h : Nt.Ok t b) (hb : 0 < b) : 0 < Nat.gcd t b ∧ Nt.Ok t (Nat.gcd t b) ∧ Nt.Ok b (Nat.gcd t b) := by
  have h1 : Nat.gcd t b ≤ b := Nat.gcd_le_right _ hb
  exact ⟨Nat.gcd_pos_of_pos_right _ hb, ⟨Nat.le_trans (Nt.dig_len_mono h1) h.1, h.2⟩, ⟨Nat.le_trans (Nt.dig_len_mono h1) h.1, h.1⟩⟩

set_option maxHeartbeats 4000000 in
set_option maxRecDepth 1000000 in
theorem Rt.rat_any (neg : Bool) (t b : Nat) (tv bv : Value) (w : World) (h : Nt.N w tv t) (h2 : Nt.N w bv b) (hb : 0 < b) (hok : Nt.Ok t b) : Calls Tryz.prog 84 #[.bool neg, tv, bv] w fun e w' => ∃ v', e = .returned v' ∧ Rt.R w' v' (Rt.ratS neg t b).1 (Rt.ratS neg t b).2.1 (Rt.ratS neg t b).2.2 ∧ Below w.heap.size w w' := by
  obtain ⟨hg0, hg1, hg2⟩ := Rt.ok_gcd hok hb
  have hdef : Rt.ratS neg t b = (neg && decide (0 < t / Nat.gcd t b), t / Nat.gcd t b, b / Nat.gcd t b) := rfl
  rw [hdef]
  have KD := fun w h h2 => Nt.Divisor_any t b tv bv w h h2 hok
  generalize Nat.gcd t b = g at *
  have KO1 := fun v v2 w h h2 => Nt.Over_any t g v v2 w h h2 hg0 hg1
  have KO2 := fun v v2 w h h2 => Nt.Over_any b g v v2 w h h2 hg0 hg2
  obtain ⟨ad, cap, rfl⟩ := Nt.In.slice h
  obtain ⟨ad2, cap2, rfl⟩ := Nt.In.slice h2
  have hpos : (0 < t / g) ↔ 0 < (Nt.dig (t / g)).length := Nt.dig_len_pos.symm
  have H := Lib.hid h
  have H2 := Lib.hid h2
  obtain ⟨W2, hW2⟩ : ∃ z, w.alloc (.cells #[.bool false, .slice none 0 0, .slice none 0 0] 24) = z := ⟨_, rfl⟩
  have q0 : W2.heap[w.heap.size]? = some (.cells #[.bool false, .slice none 0 0, .slice none 0 0] 24 (0, 0)) := hW2 ▸ heap_alloc_new w _
  have hb0 : Below w.heap.size w W2 := hW2 ▸ (Below.refl _ _).alloc (Nat.le_refl _) _
  have hsz : w.heap.size < W2.heap.size := (Array.getElem?_eq_some_iff.1 q0).1
  have HIN := Lib.hid (fun (w' : World) (hb : Below W2.heap.size W2 w') => And.intro (Nt.N.below (Nt.N.below H.out hb0 (Nat.le_refl _)) hb (Nat.le_refl _)) (Nt.N.below (Nt.N.below H2.out hb0 (Nat.le_refl _)) hb (Nat.le_refl _)))
  have HR := Lib.hid (fun (w' : World) (hb : Below W2.heap.size W2 w') => (hb.block w.heap.size hsz).trans q0)
  have HB := Lib.hid (fun (w' : World) (hb : Below W2.heap.size W2 w') => hb0.trans (hb.mono (Nat.le_of_lt hsz)))
  clear h h2 q0 hb0 hg1 hg2 hok hdef
  obtain ⟨dd, hdd⟩ : ∃ dd, (neg && decide (0 < t / g)) = dd := ⟨_, rfl⟩
  rw [hdd]
  have HDD := Lib.hid hdd
  clear hdd
  go_enter Tryz.func84, Tryz.ntmps84
  go_wp2_with fail
  refine (KD _ (HIN.out _ (Below.refl _ _)).1 (HIN.out _ (Below.refl _ _)).2).mono ?_
  rintro x w1 ⟨vg, rfl, hvg, hb1⟩
  have HG := Lib.hid hvg
  have HB1 := Lib.hid hb1
  clear hvg hb1
  go_wp2_with fail
  refine (KO1 _ _ _ (HIN.out _ HB1.out).1 HG.out).mono ?_
  rintro x w3 ⟨q, r, rfl, hq, hr, hb3⟩
  obtain ⟨adq, capq, rfl⟩ := Nt.In.slice hq
  have HQ := Lib.hid hq
  have HG := Lib.hid (HG.out.below hb3 (Nat.le_refl _))
  have HB3 := Lib.hid (HB1.out.trans (hb3.mono HB1.out.size))
  clear hq hr hb3
  go_wp2_with fail
  refine (KO2 _ _ _ (HIN.out _ HB3.out).2 HG.out).mono ?_
  rintro x w4 ⟨q2, r2, rfl, hq2, hr2, hb4⟩
  obtain ⟨adq2, capq2, rfl⟩ := Nt.In.slice hq2
  have HB4 := Lib.hid (HB3.out.trans (hb4.mono HB3.out.size))
  have hq4 := HQ.out.below hb4 (Nat.le_refl _)
  obtain ⟨X1, X2, X3, ⟨f0, z0, s0⟩, ⟨f1, z1, s1⟩, ⟨f2, z2, s2⟩, ⟨r0, r1, r2'⟩, HX⟩ := Rt.put3 (HR.out _ HB4.out) (.bool dd) (.slice adq (Nt.dig (t / g)).length capq) (.slice adq2 (Nt.dig (b / g)).length capq2)
  have HOUT : Hid (Nt.N X3 (.slice adq (Nt.dig (t / g)).length capq) (t / g) ∧ Nt.N X3 (.slice adq2 (Nt.dig (b / g)).length capq2) (b / g) ∧ Below w.heap.size w X3) := Lib.hid ⟨Nt.In.othr hq4 (HR.out _ HB4.out) Rt.noWords HX.out.2.2.1 HX.out.2.1, Nt.In.othr hq2 (HR.out _ HB4.out) Rt.noWords HX.out.2.2.1 HX.out.2.1, HX.out.2.2.2 _ _ (HB.out _ HB4.out) (Nat.le_refl _)⟩
  clear hq2 hr2 hb4 hq4 HX
  generalize (Nt.dig (t / g)).length = l at *
  generalize (Nt.dig (b / g)).length = l2 at *
  cases neg with
  | false =>
    obtain rfl := HDD.out
    simp only [Bool.false_and] at *
    go_wp2_with fail
    refine bodyPost_ret (v := .agg #[.bool false, .slice adq l capq, .slice adq2 l2 capq2]) (by simp [results, Tryz.results84, go_sem, r0, r1, r2']) rfl ⟨_, rfl, ⟨_, _, rfl, HOUT.out.1, HOUT.out.2.1⟩, HOUT.out.2.2⟩
  | true =>
    have hdec : decide (0 < l) = dd := by
      rw [← HDD.out, Bool.true_and]
      by_cases h : 0 < t / g
      · rw [decide_eq_true h]
        exact decide_eq_true (hpos.1 h)
      · rw [decide_eq_false h]
        exact decide_eq_false (fun h2 => h (hpos.2 h2))
    clear hpos
    go_wp2_with fail
    refine bodyPost_ret (v := .agg #[.bool dd, .slice adq l capq, .slice adq2 l2 capq2]) (by simp [results, Tryz.results84, go_sem, r0, r1, r2']) rfl ⟨_, rfl, ⟨_, _, rfl, HOUT.out.1, HOUT.out.2.1⟩, HOUT.out.2.2⟩

def Rt.wholeS (neg : Bool) (t : Nat) : Bool × Nat × Nat := Rt.ratS neg t 1
theorem Rt.wholeS_eq (neg : Bool) (t : Nat) : Rt.wholeS neg t = (neg && decide (0 < t), t, 1) := by
  simp [Rt.wholeS, Rt.ratS]
set_option maxHeartbeats 4000000 in
set_option maxRecDepth 1000000 in
theorem Rt.whole_any (neg : Bool) (t : Nat) (tv : Value) (w : World) (h : Nt.N w tv t) (hl : (Nt.dig t).length ≤ 400000) : Calls Tryz.prog 50 #[.bool neg, tv] w fun e w' => ∃ v', e = .returned v' ∧ Rt.R w' v' (neg && decide (0 < t)) t 1 ∧ Below w.heap.size w w' := by
  have KR := fun bv w h h2 => Rt.rat_any neg t 1 tv bv w h h2 (by decide) ⟨by rw [Nt.dig_small (by decide) (by decide)]; decide, hl⟩
  have e0 := Rt.wholeS_eq neg t
  unfold Rt.wholeS at e0
  rw [e0] at KR
  obtain ⟨ad, cap, rfl⟩ := Nt.In.slice h
  have H := Lib.hid h
  have hs0 : (w.alloc (.cells #[.bool false, .slice none 0 0, .slice none 0 0] 24)).heap.size = w.heap.size + 1 := by simp
  have hn1 : ∀ w : World, Nt.N (w.alloc (.cells #[.int .u32 1] 144)) (.slice (some ⟨w.heap.size, 0, none⟩) 1 1) 1 := fun w => by
    have e : (#[.int .u32 1] : Array Value) = Nt.row [1] := rfl
    unfold Nt.N
    rw [Nt.dig_small (by decide) (by decide), e]
    exact Nt.In.of_row (heap_alloc_new w _)
  obtain ⟨W2, hW2⟩ : ∃ z, (w.alloc (.cells #[.bool false, .slice none 0 0, .slice none 0 0] 24)).alloc (.cells #[.int .u32 1] 144) = z := ⟨_, rfl⟩
  have q0 : W2.heap[w.heap.size]? = some (.cells #[.bool false, .slice none 0 0, .slice none 0 0] 24 (0, 0)) := hW2 ▸ (Lib.alloc_old _ _ _ (by rw [hs0]; omega)).trans (heap_alloc_new w _)
  have hb0 : Below w.heap.size w W2 := hW2 ▸ ((Below.refl _ _).alloc (Nat.le_refl _) _).alloc (by rw [hs0]; omega) _
  have h1 : Nt.N W2 (.slice (some ⟨w.heap.size + 1, 0, none⟩) 1 1) 1 := by
    have := hn1 (w.alloc (.cells #[.bool false, .slice none 0 0, .slice none 0 0] 24))
    rw [hs0, hW2] at this
    exact this
  have hsz : w.heap.size < W2.heap.size := (Array.getElem?_eq_some_iff.1 q0).1
  have HIN := Lib.hid (And.intro (H.out.below hb0 (Nat.le_refl _)) h1)
  have HR := Lib.hid (fun (w' : World) (hb : Below W2.heap.size W2 w') => (hb.block w.heap.size hsz).trans q0)
  have HB := Lib.hid (fun (w' : World) (hb : Below W2.heap.size W2 w') => hb0.trans (hb.mono (Nat.le_of_lt hsz)))
  clear h q0 hb0 h1 hs0 hn1 e0
  generalize (neg && decide (0 < t)) = ss at *
  go_enter Tryz.func50, Tryz.ntmps50
  go_wp2_with fail
  refine (KR _ _ HIN.out.1 HIN.out.2).mono ?_
  rintro x w1 ⟨v1, rfl, ⟨tv, bv, rfl, hn, hd⟩, hb1⟩
  obtain ⟨ad1, cap1, rfl⟩ := Nt.In.slice hn
  obtain ⟨ad2, cap2, rfl⟩ := Nt.In.slice hd
  obtain ⟨X1, X2, X3, ⟨f0, z0, s0⟩, ⟨f1, z1, s1⟩, ⟨f2, z2, s2⟩, ⟨r0, r1, r2'⟩, HX⟩ := Rt.put3 (HR.out _ hb1) (.bool ss) (.slice ad1 (Nt.dig t).length cap1) (.slice ad2 (Nt.dig 1).length cap2)
  have HOUT : Hid (Nt.N X3 (.slice ad1 (Nt.dig t).length cap1) t ∧ Nt.N X3 (.slice ad2 (Nt.dig 1).length cap2) 1 ∧ Below w.heap.size w X3) := Lib.hid ⟨Nt.In.othr hn (HR.out _ hb1) Rt.noWords HX.out.2.2.1 HX.out.2.1, Nt.In.othr hd (HR.out _ hb1) Rt.noWords HX.out.2.2.1 HX.out.2.1, HX.out.2.2.2 _ _ (HB.out _ hb1) (Nat.le_refl _)⟩
  clear hn hd hb1 HX
  generalize (Nt.dig t).length = l at *
  generalize (Nt.dig 1).length = l2 at *
  go_wp2_with fail
  refine bodyPost_ret (v := .agg #[.bool ss, .slice ad1 l cap1, .slice ad2 l2 cap2]) (by simp [results, Tryz.results50, go_sem, r0, r1, r2']) rfl ⟨_, rfl, ⟨_, _, rfl, HOUT.out.1, HOUT.out.2.1⟩, HOUT.out.2.2⟩
set_option maxHeartbeats 4000000 in
set_option maxRecDepth 1000000 in
theorem Rt.minus_any (s : Bool) (t b : Nat) (v : Value) (w : World) (h : Rt.R w v s t b) : Calls Tryz.prog 124 #[v] w fun e w' => ∃ v', e = .returned v' ∧ Rt.R w' v' (!s && decide (0 < t)) t b ∧ Below w.heap.size w w' := by
  obtain ⟨tv, bv, rfl, hn, hd⟩ := h
  obtain ⟨ad1, cap1, rfl⟩ := Nt.In.slice hn
  obtain ⟨ad2, cap2, rfl⟩ := Nt.In.slice hd
  have hs0 : ∀ o, (w.alloc o).heap.size = w.heap.size + 1 := by intro o; simp
  obtain ⟨W2, hW2⟩ : ∃ z, (w.alloc (.cells #[.bool s, .slice ad1 (Nt.dig t).length cap1, .slice ad2 (Nt.dig b).length cap2] 24)).alloc (.cells #[.bool false, .slice none 0 0, .slice none 0 0] 24) = z := ⟨_, rfl⟩
  have q0 : W2.heap[w.heap.size]? = some (.cells #[.bool s, .slice ad1 (Nt.dig t).length cap1, .slice ad2 (Nt.dig b).length cap2] 24 (0, 0)) := hW2 ▸ (Lib.alloc_old _ _ _ (by rw [hs0]; omega)).trans (heap_alloc_new w _)
  have q1 : W2.heap[w.heap.size + 1]? = some (.cells #[.bool false, .slice none 0 0, .slice none 0 0] 24 (0, 0)) := by
    have := heap_alloc_new (w.alloc (.cells #[.bool s, .slice ad1 (Nt.dig t).length cap1, .slice ad2 (Nt.dig b).length cap2] 24)) (.cells #[.bool false, .slice none 0 0, .slice none 0 0] 24)
    rwa [hs0, hW2] at this
  have hb0 : Below w.heap.size w W2 := hW2 ▸ ((Below.refl _ _).alloc (Nat.le_refl _) _).alloc (by rw [hs0]; omega) _
  have e0 := Rt.cell_of q0 0
  have e1 := Rt.cell_of q0 1
  have e2 := Rt.cell_of q0 2
  have hn2 := Nt.N.below hn hb0 (Nat.le_refl _)
  have hd2 := Nt.N.below hd hb0 (Nat.le_refl _)
  obtain ⟨X1, X2, X3, ⟨f0, z0, s0⟩, ⟨f1, z1, s1⟩, ⟨f2, z2, s2⟩, ⟨r0, r1, r2'⟩, HX⟩ := Rt.put3 q1 (.bool (!s && decide (0 < t))) (.slice ad1 (Nt.dig t).length cap1) (.slice ad2 (Nt.dig b).length cap2)
  have HOUT : Hid (Nt.N X3 (.slice ad1 (Nt.dig t).length cap1) t ∧ Nt.N X3 (.slice ad2 (Nt.dig b).length cap2) b ∧ Below w.heap.size w X3) := Lib.hid ⟨Nt.In.othr hn2 q1 Rt.noWords HX.out.2.2.1 HX.out.2.1, Nt.In.othr hd2 q1 Rt.noWords HX.out.2.2.1 HX.out.2.1, HX.out.2.2.2 _ _ hb0 (by omega)⟩
  have hpos : (0 < t) ↔ 0 < (Nt.dig t).length := Nt.dig_len_pos.symm
  have hdec : decide (0 < (Nt.dig t).length) = decide (0 < t) := by
    by_cases h : 0 < t
    · rw [decide_eq_true h]
      exact decide_eq_true (hpos.1 h)
    · rw [decide_eq_false h]
      exact decide_eq_false (fun h2 => h (hpos.2 h2))
  clear hn hd hn2 hd2 hb0 q0 q1 HX hpos hs0
  generalize (Nt.dig t).length = l at *
  generalize (Nt.dig b).length = l2 at *
  cases s with
  | false =>
    simp only [Bool.not_false, Bool.true_and] at *
    generalize decide (0 < t) = dd at *
    go_enter Tryz.func124, Tryz.ntmps124
    go_wp2_with fail
    refine bodyPost_ret (v := .agg #[.bool dd, .slice ad1 l cap1, .slice ad2 l2 cap2]) (by simp [results, Tryz.results124, go_sem, r0, r1, r2']) rfl ⟨_, rfl, ⟨_, _, rfl, HOUT.out.1, HOUT.out.2.1⟩, HOUT.out.2.2⟩
  | true =>
    simp only [Bool.not_true, Bool.false_and] at *
    clear hdec
    go_enter Tryz.func124, Tryz.ntmps124
    go_wp2_with fail
    refine bodyPost_ret (v := .agg #[.bool false, .slice ad1 l cap1, .slice ad2 l2 cap2]) (by simp [results, Tryz.results124, go_sem, r0, r1, r2']) rfl ⟨_, rfl, ⟨_, _, rfl, HOUT.out.1, HOUT.out.2.1⟩, HOUT.out.2.2⟩
end Go.Proofs.YtikmebkfdpbidaaGreatDoor
namespace Go.Proofs.YtikmebkfdpbidaaGreatDoor
open Go.RowKit

def Cd.byt (s : ByteArray) (i : Nat) : Int := (s.get! i).toNat
theorem Cd.byt_bd (s : ByteArray) (i : Nat) : 0 ≤ Cd.byt s i ∧ Cd.byt s i < 256 := by
  unfold Cd.byt
  have := (s.get! i).toNat_lt
  omega
/-- The number of two bytes at i; -1: there is none. -/
def Cd.num (s : ByteArray) (low i : Nat) : Int := if i + 2 > s.size then -1 else Cd.byt s (i + low) * 256 + Cd.byt s (i + 1 - low)
theorem Cd.num_bd (s : ByteArray) (low i : Nat) : -1 ≤ Cd.num s low i ∧ Cd.num s low i ≤ 65535 := by
  have h1 := Cd.byt_bd s (i + low)
  have h2 := Cd.byt_bd s (i + 1 - low)
  unfold Cd.num
  split <;> omega

/-- A unit: the character, whether it is one, where it begins. -/
abbrev Cd.U := Int × Bool × Int

def Cd.xsS (m r : Int) (ok : Bool) (xs : List Int) : List Int := if ok then xs ++ [r] else if m = 0 then xs else if m = 1 then xs ++ [65533] else xs
def Cd.atS (m p : Int) (ok : Bool) (a : Int) : Int := if ok then a else if m = 0 then p else a
def Cd.erS (m : Int) (ok : Bool) (e : Int) : Int := if ok then e else if m = 0 then 6 else e
def Cd.goS (m : Int) (ok : Bool) : Bool := ok || decide (m ≠ 0)
theorem Cd.xsS_len (m r : Int) (ok : Bool) (xs : List Int) : (Cd.xsS m r ok xs).length ≤ xs.length + 1 := by
  unfold Cd.xsS
  repeat' split
  all_goals simp

def Cd.feed (m : Int) : List Cd.U → List Int → Int → Int → List Int × Int × Int
  | [], xs, a, e => (xs, a, e)
  | (r, ok, p) :: us, xs, a, e => if Cd.goS m ok then Cd.feed m us (Cd.xsS m r ok xs) (Cd.atS m p ok a) (Cd.erS m ok e) else (Cd.xsS m r ok xs, Cd.atS m p ok a, Cd.erS m ok e)

def Cd.pair (r q : Int) : Prop := 55296 ≤ r ∧ r ≤ 56319 ∧ 56320 ≤ q ∧ q ≤ 57343
instance (r q : Int) : Decidable (Cd.pair r q) := by unfold Cd.pair; infer_instance
def Cd.plainR (r : Int) : Bool := decide (0 ≤ r ∧ (r < 55296 ∨ 57343 < r))

def Cd.wideU (s : ByteArray) (low at_ : Nat) : List Cd.U :=
  if _h : at_ < s.size then
    if Cd.pair (Cd.num s low at_) (Cd.num s low (at_ + 2)) then ((Cd.num s low at_ - 55296) * 1024 + Cd.num s low (at_ + 2) - 56320 + 65536, true, (at_ : Int)) :: Cd.wideU s low (at_ + 2 + 2)
    else (Cd.num s low at_, Cd.plainR (Cd.num s low at_), (at_ : Int)) :: Cd.wideU s low (at_ + 2)
  else []
termination_by s.size - at_

def Cd.latinU (s : ByteArray) (at_ : Nat) : List Cd.U :=
  if _h : at_ < s.size then (Cd.byt s at_, true, (at_ : Int)) :: Cd.latinU s (at_ + 1) else []
termination_by s.size - at_

def Cd.utf8U (s : ByteArray) (at_ : Nat) : List Cd.U :=
  if _h : at_ < s.size then (((Utf8.decode s at_).1 : Int), decide ((Utf8.decode s at_).1 ≠ 65533 ∨ 1 < (Utf8.decode s at_).2), (at_ : Int)) :: Cd.utf8U s (at_ + (Utf8.decode s at_).2) else []
termination_by s.size - at_
decreasing_by
  have := Lib.decode_width_pos s at_ _h
  omega

theorem Cd.wideU_pair (s : ByteArray) (low at_ : Nat) (h : at_ < s.size) (hp : Cd.pair (Cd.num s low at_) (Cd.num s low (at_ + 2))) :
    Cd.wideU s low at_ = ((Cd.num s low at_ - 55296) * 1024 + Cd.num s low (at_ + 2) - 56320 + 65536, true, (at_ : Int)) :: Cd.wideU s low (at_ + 2 + 2) := by
  rw [Cd.wideU, dif_pos h, if_pos hp]
theorem Cd.wideU_one (s : ByteArray) (low at_ : Nat) (h : at_ < s.size) (hp : ¬ Cd.pair (Cd.num s low at_) (Cd.num s low (at_ + 2))) :
    Cd.wideU s low at_ = (Cd.num s low at_, Cd.plainR (Cd.num s low at_), (at_ : Int)) :: Cd.wideU s low (at_ + 2) := by
  rw [Cd.wideU, dif_pos h, if_neg hp]
theorem Cd.wideU_end (s : ByteArray) (low at_ : Nat) (h : ¬ at_ < s.size) : Cd.wideU s low at_ = [] := by
  rw [Cd.wideU, dif_neg h]
theorem Cd.latinU_one (s : ByteArray) (at_ : Nat) (h : at_ < s.size) : Cd.latinU s at_ = (Cd.byt s at_, true, (at_ : Int)) :: Cd.latinU s (at_ + 1) := by
  rw [Cd.latinU, dif_pos h]
theorem Cd.latinU_end (s : ByteArray) (at_ : Nat) (h : ¬ at_ < s.size) : Cd.latinU s at_ = [] := by
  rw [Cd.latinU, dif_neg h]
theorem Cd.utf8U_one (s : ByteArray) (at_ : Nat) (h : at_ < s.size) :
    Cd.utf8U s at_ = (((Utf8.decode s at_).1 : Int), decide ((Utf8.decode s at_).1 ≠ 65533 ∨ 1 < (Utf8.decode s at_).2), (at_ : Int)) :: Cd.utf8U s (at_ + (Utf8.decode s at_).2) := by
  rw [Cd.utf8U, dif_pos h]
theorem Cd.utf8U_end (s : ByteArray) (at_ : Nat) (h : ¬ at_ < s.size) : Cd.utf8U s at_ = [] := by
  rw [Cd.utf8U, dif_neg h]

/-- Where UTF-16 begins, and whether its low byte comes first. -/
def Cd.bom (s : ByteArray) : Nat × Nat :=
  if 2 ≤ s.size ∧ Cd.byt s 0 = 254 ∧ Cd.byt s 1 = 255 then (2, 0) else if 2 ≤ s.size ∧ Cd.byt s 0 = 255 ∧ Cd.byt s 1 = 254 then (2, 1) else (0, 0)
theorem Cd.bom_split (s : ByteArray) : (2 ≤ s.size ∧ Cd.byt s 0 = 254 ∧ Cd.byt s 1 = 255 ∧ Cd.bom s = (2, 0)) ∨ (2 ≤ s.size ∧ Cd.byt s 0 = 255 ∧ Cd.byt s 1 = 254 ∧ Cd.bom s = (2, 1)) ∨
    ((s.size < 2 ∨ ¬ (Cd.byt s 0 = 254 ∧ Cd.byt s 1 = 255 ∨ Cd.byt s 0 = 255 ∧ Cd.byt s 1 = 254)) ∧ Cd.bom s = (0, 0)) := by
  unfold Cd.bom
  by_cases h : 2 ≤ s.size ∧ Cd.byt s 0 = 254 ∧ Cd.byt s 1 = 255
  · exact .inl ⟨h.1, h.2.1, h.2.2, if_pos h⟩
  by_cases h2 : 2 ≤ s.size ∧ Cd.byt s 0 = 255 ∧ Cd.byt s 1 = 254
  · exact .inr (.inl ⟨h2.1, h2.2.1, h2.2.2, by rw [if_neg h, if_pos h2]⟩)
  · exact .inr (.inr ⟨by omega, by rw [if_neg h, if_neg h2]⟩)

def Cd.unitsU (c : Int) (s : ByteArray) : List Cd.U := if c = 1 then Cd.utf8U s 0 else if c = 2 then Cd.latinU s 0 else Cd.wideU s (Cd.bom s).2 (Cd.bom s).1
end Go.Proofs.YtikmebkfdpbidaaGreatDoor
namespace Go.Proofs.YtikmebkfdpbidaaGreatDoor.By
open Go.RowKit
set_option linter.unusedVariables false

/-- The cells of bytes. -/
def vals (s : ByteArray) : List Value := (List.range s.size).map fun j => Value.int .u8 (Cd.byt s j)
theorem vals_len (s : ByteArray) : (vals s).length = s.size := by simp [vals]
theorem vals_at (s : ByteArray) (j : Nat) (h : j < s.size) : (vals s)[j]? = some (.int .u8 (Cd.byt s j)) := by simp [vals, h]

/-- The value v can be read as the bytes s; nil or not. -/
def In (w : World) (v : Value) (s : ByteArray) : Prop :=
  (v = .slice none 0 0 ∧ s.size = 0) ∨ (∃ a cap, v = .slice (some a) 0 cap ∧ s.size = 0) ∨
  (0 < s.size ∧ ∃ b off cap, v = .slice (some ⟨b, off, none⟩) s.size cap ∧ s.size ≤ cap ∧ b < w.heap.size ∧ ∀ j, j < s.size → w.cell? ⟨b, off + j, none⟩ = some (.int .u8 (Cd.byt s j)))

theorem In.below {w w' : World} {v : Value} {s : ByteArray} {B : Nat} (h : In w v s) (hb : Below B w w') (hB : w.heap.size ≤ B) : In w' v s := by
  rcases h with h | h | ⟨h0, b, off, cap, hv, h1, h2, hc⟩
  · exact .inl h
  · exact .inr (.inl h)
  · exact .inr (.inr ⟨h0, b, off, cap, hv, h1, by have := hb.size; omega, fun j hj => (hb.cell (p := ⟨b, off + j, none⟩) (by show b < B; omega)).trans (hc j hj)⟩)
theorem In.slice {w : World} {v : Value} {s : ByteArray} (h : In w v s) : ∃ ad cap, v = .slice ad s.size cap := by
  rcases h with ⟨h, h0⟩ | ⟨a, cap, h, h0⟩ | ⟨h0, b, off, cap, hv, _⟩
  · exact ⟨none, 0, by rw [h, h0]⟩
  · exact ⟨some a, cap, by rw [h, h0]⟩
  · exact ⟨_, cap, hv⟩
theorem In.of_own {w : World} {B : Nat} {t : TypeId} {v : Value} {s : ByteArray} (h : w.ownsRow B t 1 v s.size (vals s)) : In w v s := by
  rcases h.2 with ⟨hv, h0⟩ | ⟨g, cap, cur, hv, hB, hg, hn, hm, hs, ht⟩
  · exact .inl ⟨hv, h0⟩
  · rcases Nat.eq_zero_or_pos s.size with h0 | h0
    · exact .inr (.inl ⟨_, cap, by rw [hv, h0], h0⟩)
    · refine .inr (.inr ⟨h0, g, 0, cap, hv, hn, (Array.getElem?_eq_some_iff.1 hg).1, fun i hi => ?_⟩)
      have := h.cells (g := g) (by rw [hv]; rfl) i _ (vals_at s i hi)
      rw [← this, Sl.addr_add]

/-- 'append(dst, v...)' of bytes onto what the call owns. -/
theorem run_append_bytes {P : Program} (w : World) (t ty : TypeId) (base : Nat) (e : TypeId) (i : TypeInfo) (z : Value) (ht : P.underlying t = some (.slice e)) (hi : P.info? e = some i) (hz : i.zero = some z)
    (hsize : i.size = 1) (hby : i.bytes = 1) (hzs : z.cells.size = 1)
    (v : Value) (n : Nat) (xs : List Value) (hown : w.ownsRow base e 1 v n xs) (xv : Value) (S : ByteArray) (hin : In w xv S)
    (h63 : n + S.size ≤ maxLen) (hbytes : n + S.size ≤ 140737488355328) (hbase : base ≤ w.heap.size) :
    ∃ v' w', (Builtin.append_ #[t, t] ty #[v, xv]).run P w = .ok v' w' ∧ w'.ownsRow base e 1 v' (n + S.size) (xs ++ vals S) ∧ w.grownBy w' v.ownBlock ∧ (v' = .slice none 0 0 → v = .slice none 0 0) := by
  rcases hin with ⟨rfl, h0⟩ | ⟨ad, cap, rfl, h0⟩ | ⟨h0, b, off, cap, rfl, h1, h2, hc⟩
  · have hv0 : vals S = [] := List.length_eq_zero_iff.1 (by rw [vals_len, h0])
    refine ⟨v, w, run_append_owned_none (P := P) (w := w) base t ty e i 1 ht hi v n xs hown, ?_, ⟨rfl, rfl, rfl, Nat.le_refl _, fun _ _ _ => rfl⟩, id⟩
    rw [hv0, h0, List.append_nil, Nat.add_zero]
    exact hown
  · have hv0 : vals S = [] := List.length_eq_zero_iff.1 (by rw [vals_len, h0])
    obtain ⟨v', w', hr, h1, h2, h3⟩ := run_append_own (P := P) w base t ty e i z 1 1 ht hi hz hsize hby hzs (by decide) v n xs hown ad 0 cap [] rfl (by simp) (by simp) (by omega) (by omega) hbase
    refine ⟨v', w', hr, ?_, h2, fun hh => (h3.1 hh).1⟩
    rw [hv0, h0]
    exact h1
  · obtain ⟨v', w', hr, h1, h2, h3⟩ := run_append_own (P := P) w base t ty e i z 1 1 ht hi hz hsize hby hzs (by decide) v n xs hown ⟨b, off, none⟩ S.size cap (vals S) (by rw [vals_len, Nat.mul_one]) (fun j u hj => by
      have hj2 : j < S.size := by have := (List.getElem?_eq_some_iff.1 hj).1; rw [vals_len] at this; exact this
      rw [vals_at S j hj2] at hj
      cases hj
      rw [Sl.addr_add]
      exact hc j hj2) (fun u hu => by obtain ⟨j, _, rfl⟩ := List.mem_map.1 hu; rfl) h63 (by omega) hbase
    exact ⟨v', w', hr, h1, h2, fun hh => (h3.1 hh).1⟩

section
variable {P : Program} {w : World} {ops : Array Oper} {rest : List Oper} {o : Oper} {a : Act} {Q : Exit → Act → World → Prop}
theorem wp_append_bytes {K : Act → World → Prop} (s x : Operand) (t : TypeId)
    (ho : o.op = .call { callee := .builtin .append, args := #[s, x], argTypes := #[t, t] })
    (base : Nat) (e : TypeId) (i : TypeInfo) (z : Value) (ht : P.underlying t = some (.slice e)) (hi : P.info? e = some i) (hz : i.zero = some z)
    (hsize : i.size = 1) (hby : i.bytes = 1) (hzs : z.cells.size = 1)
    (v : Value) (n : Nat) (xs : List Value) (hs : a.eval s = v) (hown : w.ownsRow base e 1 v n xs)
    (xv : Value) (S : ByteArray) (hx : a.eval x = xv) (hin : In w xv S)
    (h63 : n + S.size ≤ maxLen) (hbytes : n + S.size ≤ 140737488355328) (hbase : base ≤ w.heap.size)
    (h : ∀ v' w', w'.ownsRow base e 1 v' (n + S.size) (xs ++ vals S) → w.grownBy w' v.ownBlock → (v' = .slice none 0 0 → v = .slice none 0 0) → K (a.put o.dst v') w') : o.wp P a w K Q := by
  obtain ⟨v', w', hr, h2, h3, h4⟩ := run_append_bytes (P := P) w t o.type base e i z ht hi hz hsize hby hzs v n xs hown xv S hin h63 hbytes hbase
  unfold Oper.wp execOp
  simp only [ho, resolve, invoke, builtin, Sem.run_bind, Sem.run_pure, Result.andThen_ok, List.map_toArray, List.map_cons, List.map_nil, hs, hx, hr]
  exact h v' w' h2 h3 h4
theorem wpList_append_bytes (hgd : o.guard = none) (s x : Operand) (t : TypeId)
    (ho : o.op = .call { callee := .builtin .append, args := #[s, x], argTypes := #[t, t] })
    (base : Nat) (e : TypeId) (i : TypeInfo) (z : Value) (ht : P.underlying t = some (.slice e)) (hi : P.info? e = some i) (hz : i.zero = some z)
    (hsize : i.size = 1) (hby : i.bytes = 1) (hzs : z.cells.size = 1)
    (v : Value) (n : Nat) (xs : List Value) (hs : a.eval s = v) (hown : w.ownsRow base e 1 v n xs)
    (xv : Value) (S : ByteArray) (hx : a.eval x = xv) (hin : In w xv S)
    (h63 : n + S.size ≤ maxLen) (hbytes : n + S.size ≤ 140737488355328) (hbase : base ≤ w.heap.size)
    (h : ∀ v' w', w'.ownsRow base e 1 v' (n + S.size) (xs ++ vals S) → w.grownBy w' v.ownBlock → (v' = .slice none 0 0 → v = .slice none 0 0) → wpList P ops Q rest (a.put o.dst v') w') : wpList P ops Q (o :: rest) a w :=
  wpList_plain hgd fun _ hK => wp_append_bytes s x t ho base e i z ht hi hz hsize hby hzs v n xs hs hown xv S hx hin h63 hbytes hbase fun v' w' h2 h3 h4 => hK _ _ (h v' w' h2 h3 h4)
/-- The same at a step of a region that draws. -/
theorem step_append_bytes {K : Act → World → Prop} {E : Prop} (hgd : o.guard = none) (s x : Operand) (t : TypeId)
    (ho : o.op = .call { callee := .builtin .append, args := #[s, x], argTypes := #[t, t] })
    (base : Nat) (e : TypeId) (i : TypeInfo) (z : Value) (ht : P.underlying t = some (.slice e)) (hi : P.info? e = some i) (hz : i.zero = some z)
    (hsize : i.size = 1) (hby : i.bytes = 1) (hzs : z.cells.size = 1)
    (v : Value) (n : Nat) (xs : List Value) (hs : a.eval s = v) (hown : w.ownsRow base e 1 v n xs)
    (xv : Value) (S : ByteArray) (hx : a.eval x = xv) (hin : In w xv S)
    (h63 : n + S.size ≤ maxLen) (hbytes : n + S.size ≤ 140737488355328) (hbase : base ≤ w.heap.size)
    (h : ∀ v' w', w'.ownsRow base e 1 v' (n + S.size) (xs ++ vals S) → w.grownBy w' v.ownBlock → (v' = .slice none 0 0 → v = .slice none 0 0) → K (a.put o.dst v') w') :
    if Region.wanted o (yielded ops a.tmps) = true then Oper.wp P o a w K Q else E := by
  have hw : Region.wanted o (yielded ops a.tmps) = true := by simp [Region.wanted, hgd]
  rw [if_pos hw]
  exact wp_append_bytes s x t ho base e i z ht hi hz hsize hby hzs v n xs hs hown xv S hx hin h63 hbytes hbase h
end

/-- Bytes off a list of numbers. -/
def ofNums (zs : List Int) : ByteArray := ⟨(zs.map fun z => z.toNat.toUInt8).toArray⟩
theorem ofNums_size (zs : List Int) : (ofNums zs).size = zs.length := by
  show (List.toArray _).size = _
  simp
theorem ofNums_byt (zs : List Int) (hz : ∀ n ∈ zs, (Lit.int .u8 n).wf = true) (j : Nat) (h : j < zs.length) : Cd.byt (ofNums zs) j = zs.getD j 0 := by
  have hb := bounds_u8 (hz _ (List.getElem_mem h))
  have e : (ofNums zs).get! j = (zs[j]).toNat.toUInt8 := by
    show (ofNums zs).data[j]! = _
    unfold ofNums
    simp [h]
  unfold Cd.byt
  rw [e, List.getD_eq_getElem?_getD, List.getElem?_eq_getElem h]
  have : ((zs[j]).toNat.toUInt8).toNat = (zs[j]).toNat := by
    rw [Nat.toUInt8, UInt8.toNat_ofNat']
    omega
  rw [this]
  simp
  omega

/-- An argument that is a slice of bytes. -/
theorem In.open {H : Type} {enc : TypeId × Value → H} {P : Program} {w : World} {base : Nat} {spare : Nat → Bool} {held : Bool} {t e : TypeId} {v : Value} {d : DataW H} {ps : List MemPlace} (ht : P.underlying t = some (.slice e)) (he : P.underlying e = some (.int .u8)) (hc : P.cellsOf e = 1)
    (hv : ∃ a len cap, v = .slice a len cap) (hj : DataW.Trod enc P w base spare held t v d ps) :
    ∃ s : ByteArray, In w v s ∧ ((d = .nil ∧ s.size = 0) ∨ ∃ elems spare, d = .slice elems spare ∧ elems.length = s.size) := by
  obtain ⟨a0, len, cap, rfl⟩ := hv
  obtain ⟨fuel, hf⟩ := hj
  rcases Go.ChangeShapes.open_ints ht he hc hf with ⟨hcs, hx⟩ | ⟨a, len', cap', zs, hcs, _, hl, hm, hz, hx, hcell, hwz⟩
  · simp only [Value.cells, List.cons.injEq, Value.slice.injEq, and_true] at hcs
    simp only [Prod.mk.injEq] at hx
    refine ⟨⟨#[]⟩, .inl ⟨?_, rfl⟩, .inl ⟨hx.1, rfl⟩⟩
    simp_all
  · simp only [Prod.mk.injEq] at hx
    have hlz : len' ≤ zs.length := by rw [hz]; split <;> omega
    have hsz : (ofNums (zs.take len')).size = len' := by rw [ofNums_size, List.length_take]; omega
    have hva : (Value.slice a0 len cap) = .slice (some a) len' cap' := by simpa [Value.cells] using hcs
    refine ⟨ofNums (zs.take len'), ?_, .inr ⟨_, _, hx.1, by simp [Go.ChangeShapes.lits, hsz]; omega⟩⟩
    rcases Nat.eq_zero_or_pos len' with h0 | h0
    · exact .inr (.inl ⟨a, cap', by rw [hva, h0], by rw [hsz, h0]⟩)
    · obtain ⟨b, off, rfl, hcl⟩ := ints_at hcell (by omega)
      refine .inr (.inr ⟨by omega, b, off, cap', by rw [hva, hsz], by omega, ?_, fun j hj => ?_⟩)
      · have h1 := hcl 0 (by omega)
        rcases Nat.lt_or_ge b w.heap.size with h | h
        · exact h
        · simp [World.cell?, Array.getElem?_eq_none h] at h1
      · rw [hsz] at hj
        rw [hcl j (by omega), ofNums_byt _ (fun n hn => hwz n (List.mem_of_mem_take hn)) j (by rw [List.length_take]; omega)]
        congr 2
        rw [List.getD_eq_getElem?_getD, List.getD_eq_getElem?_getD, List.getElem?_take, if_pos hj]
theorem In.at {w : World} {ad : Option Addr} {n cap : Nat} {s : ByteArray} (h : In w (.slice ad n cap) s) (h0 : 0 < s.size) : ∃ b off, ad = some ⟨b, off, none⟩ ∧ b < w.heap.size ∧ s.size ≤ cap ∧ ∀ j, j < s.size → w.cell? ⟨b, off + j, none⟩ = some (.int .u8 (Cd.byt s j)) := by
  rcases h with ⟨_, h1⟩ | ⟨_, _, _, h1⟩ | ⟨_, b, off, c2, hv, h1, h2, hc⟩
  · omega
  · omega
  · simp only [Value.slice.injEq] at hv
    obtain ⟨rfl, _, rfl⟩ := hv
    exact ⟨b, off, rfl, h2, h1, hc⟩

/-- The cells of a list of bytes. -/
def bv (l : List UInt8) : List Value := l.map fun b => Value.int .u8 b.toNat
theorem bv_nil : bv [] = [] := rfl
theorem bv_append (a b : List UInt8) : bv (a ++ b) = bv a ++ bv b := by simp [bv]
theorem bv_len (l : List UInt8) : (bv l).length = l.length := by simp [bv]
theorem vals_bv (l : List UInt8) : vals ⟨l.toArray⟩ = bv l := by
  have hz : (ByteArray.mk l.toArray).size = l.length := by show l.toArray.size = _; simp
  apply List.ext_getElem?
  intro j
  rcases Nat.lt_or_ge j l.length with h | h
  · rw [vals_at _ j (by rw [hz]; exact h)]
    have : (ByteArray.mk l.toArray).get! j = l[j] := by
      show l.toArray[j]! = _
      simp [h]
    unfold Cd.byt
    rw [this]
    simp [bv, h]
  · rw [List.getElem?_eq_none (by rw [vals_len, hz]; exact h), List.getElem?_eq_none (by rw [bv_len]; exact h)]
theorem In.of_bv {w : World} {B : Nat} {t : TypeId} {v : Value} {l : List UInt8} (h : w.ownsRow B t 1 v l.length (bv l)) : In w v ⟨l.toArray⟩ := by
  have hz : (ByteArray.mk l.toArray).size = l.length := by show l.toArray.size = _; simp
  refine In.of_own (B := B) (t := t) ?_
  rw [hz, vals_bv]
  exact h

/-- An append of plain cells onto what the call owns: the new row, and the old one, which still reads as it did. -/
theorem run_append_keep {P : Program} (w : World) (t ty : TypeId) (base : Nat) (e : TypeId) (i : TypeInfo) (z : Value) (ht : P.underlying t = some (.slice e)) (hi : P.info? e = some i) (hz : i.zero = some z)
    (hsize : i.size = 1) (hby : i.bytes = 1) (hzs : z.cells.size = 1)
    (v : Value) (n : Nat) (xs : List Value) (hown : w.ownsRow base e 1 v n xs)
    (a : Addr) (m c : Nat) (news : List Value) (hl : news.length = m) (hnews : ∀ j u, news[j]? = some u → w.cell? (a.add j) = some u) (h1 : ∀ u ∈ news, u.oneCell' = true)
    (h63 : n + m ≤ maxLen) (hbytes : n + m ≤ 140737488355328) (hbase : base ≤ w.heap.size) :
    ∃ v' w', (Builtin.append_ #[t, t] ty #[v, .slice (some a) m c]).run P w = .ok v' w' ∧ w'.ownsRow base e 1 v' (n + m) (xs ++ news) ∧ w.grownBy w' v.ownBlock ∧ w'.ownsRow base e 1 v n xs := by
  obtain ⟨v', w', hr, h2, h3, h4⟩ := run_append_own (P := P) w base t ty e i z 1 1 ht hi hz hsize hby hzs (by decide) v n xs hown a m c news (by rw [hl, Nat.mul_one]) hnews h1 h63 (by omega) hbase
  refine ⟨v', w', hr, h2, h3, hown.1, ?_⟩
  rcases hown.2 with ⟨hv, h0⟩ | ⟨g, cap, cur, hv, hbg, hg, hnc, hcm, hcs, htake⟩
  · exact .inl ⟨hv, h0⟩
  · subst hv
    have hxl : xs.length = n := by rw [hown.1, Nat.mul_one]
    rw [Nat.mul_one] at hcs htake
    by_cases hroom : n + m ≤ cap
    · have hr2 := run_append_room (P := P) w t ty e i ht hi g n cap cur hg a m c news (by rw [hl, hsize, Nat.mul_one]) hnews h1 hroom (by rw [hsize, Nat.mul_one, hl, hcs]; exact hroom)
      rw [hr] at hr2
      simp only [Result.ok.injEq] at hr2
      obtain ⟨rfl, rfl⟩ := hr2
      rw [hsize, Nat.mul_one]
      refine .inr ⟨g, cap, _, rfl, hbg, setRow_heap w g cur _ e _ hg, hnc, hcm, ?_, ?_⟩
      · rw [Nat.mul_one]
        simp only [List.size_toArray, List.length_append, List.length_take, List.length_drop, Array.length_toList]
        omega
      · rw [htake]
        simp only [List.append_assoc]
        rw [← hxl]
        exact List.take_left
    · have holds : ∀ j u, xs[j]? = some u → w.cell? ((⟨g, 0, none⟩ : Addr).add j) = some u := hown.cells (g := g) rfl
      have hr2 := run_append_grow (P := P) w t ty e i z ht hi hz ⟨g, 0, none⟩ n cap xs (by rw [hsize, Nat.mul_one]; exact hxl) holds a m c news (by rw [hl, hsize, Nat.mul_one]) hnews (by omega) (by simp only [maxLen] at h63; omega) (by rw [hby]; exact growslice_fits (by omega) (by omega))
      rw [hr] at hr2
      simp only [Result.ok.injEq] at hr2
      obtain ⟨rfl, rfl⟩ := hr2
      refine .inr ⟨g, cap, cur, rfl, hbg, ?_, hnc, hcm, by first | exact hcs | (rw [Nat.mul_one]; exact hcs), by first | exact htake | (rw [Nat.mul_one]; exact htake)⟩
      exact (Lib.alloc_old w.drew _ g (Array.getElem?_eq_some_iff.1 hg).1).trans hg
section
variable {P : Program} {w : World} {ops : Array Oper} {rest : List Oper} {o : Oper} {a : Act} {Q : Exit → Act → World → Prop}
theorem wpList_append_keep (hgd : o.guard = none) (s x : Operand) (t : TypeId)
    (ho : o.op = .call { callee := .builtin .append, args := #[s, x], argTypes := #[t, t] })
    (base : Nat) (e : TypeId) (i : TypeInfo) (z : Value) (ht : P.underlying t = some (.slice e)) (hi : P.info? e = some i) (hz : i.zero = some z)
    (hsize : i.size = 1) (hby : i.bytes = 1) (hzs : z.cells.size = 1)
    (v : Value) (n : Nat) (xs : List Value) (hs : a.eval s = v) (hown : w.ownsRow base e 1 v n xs)
    (ad : Addr) (m c : Nat) (news : List Value) (hx : a.eval x = .slice (some ad) m c) (hl : news.length = m) (hnews : ∀ j u, news[j]? = some u → w.cell? (ad.add j) = some u) (h1 : ∀ u ∈ news, u.oneCell' = true)
    (h63 : n + m ≤ maxLen) (hbytes : n + m ≤ 140737488355328) (hbase : base ≤ w.heap.size)
    (h : ∀ v' w', w'.ownsRow base e 1 v' (n + m) (xs ++ news) → w.grownBy w' v.ownBlock → w'.ownsRow base e 1 v n xs → wpList P ops Q rest (a.put o.dst v') w') : wpList P ops Q (o :: rest) a w := by
  refine wpList_plain hgd fun K hK => ?_
  obtain ⟨v', w', hr, h2, h3, h4⟩ := run_append_keep (P := P) w t o.type base e i z ht hi hz hsize hby hzs v n xs hown ad m c news hl hnews h1 h63 hbytes hbase
  unfold Oper.wp execOp
  simp only [ho, resolve, invoke, builtin, Sem.run_bind, Sem.run_pure, Result.andThen_ok, List.map_toArray, List.map_cons, List.map_nil, hs, hx, hr]
  exact hK _ _ (h v' w' h2 h3 h4)
end
end Go.Proofs.YtikmebkfdpbidaaGreatDoor.By
namespace Go.Proofs.YtikmebkfdpbidaaGreatDoor
open Go.RowKit
set_option linter.unusedVariables false

/-- What a node of a datum holds beside its list: kind, number, exact number, text, bytes. -/
structure Tr.Hd where
  k : Int
  n : Int
  s1 : Bool
  t1 : List Nat
  b1 : List Nat
  s2 : Bool
  t2 : List Nat
  b2 : List Nat
  x : ByteArray
  raw : ByteArray
/-- A datum. -/
inductive Tr where
  | mk (h : Tr.Hd) (l : List Tr)
def Tr.hd : Tr → Tr.Hd | .mk h _ => h
def Tr.li : Tr → List Tr | .mk _ l => l
theorem Tr.eta (t : Tr) : t = .mk t.hd t.li := by cases t; rfl
/-- What a node can hold at all. -/
structure Tr.Hd.Ok (h : Tr.Hd) : Prop where
  k0 : -9223372036854775808 ≤ h.k
  k1 : h.k ≤ 9223372036854775807
  n0 : -9223372036854775808 ≤ h.n
  n1 : h.n ≤ 9223372036854775807
  w1 : Nt.Wd h.t1
  w2 : Nt.Wd h.b1
  w3 : Nt.Wd h.t2
  w4 : Nt.Wd h.b2
  l1 : h.t1.length ≤ 4611686018427387904
  l2 : h.b1.length ≤ 4611686018427387904
  l3 : h.t2.length ≤ 4611686018427387904
  l4 : h.b2.length ≤ 4611686018427387904
  x1 : h.x.size ≤ maxLen
  r1 : h.raw.size ≤ 140737488355328
/-- The eleven cells of a node. -/
def Tr.cells (h : Tr.Hd) (v3 v4 v6 v7 v9 v10 : Value) : Array Value := #[.int .i64 h.k, .int .i64 h.n, .bool h.s1, v3, v4, .bool h.s2, v6, v7, .string h.x, v9, v10]
theorem Tr.cells_size (h : Tr.Hd) (v3 v4 v6 v7 v9 v10 : Value) : (Tr.cells h v3 v4 v6 v7 v9 v10).size = 11 := rfl
/-- The blocks that a slice of n cells or more lies in are of S. -/
def Tr.On (S : Nat → Prop) (v : Value) (n : Nat) : Prop := 0 < n → ∀ b off l cap, v = .slice (some ⟨b, off, none⟩) l cap → S b
structure Tr.Hd.In (w : World) (S : Nat → Prop) (h : Tr.Hd) (v3 v4 v6 v7 v9 : Value) : Prop where
  ok : h.Ok
  i3 : Nt.In w v3 h.t1
  i4 : Nt.In w v4 h.b1
  i6 : Nt.In w v6 h.t2
  i7 : Nt.In w v7 h.b2
  i9 : By.In w v9 h.raw
  o3 : Tr.On S v3 h.t1.length
  o4 : Tr.On S v4 h.b1.length
  o6 : Tr.On S v6 h.t2.length
  o7 : Tr.On S v7 h.b2.length
  o9 : Tr.On S v9 h.raw.size
/-- Eleven cells of memory from an address on. -/
def Tr.Mem (w : World) (b off : Nat) (C : Array Value) : Prop := ∀ j, j < 11 → ∃ u, C[j]? = some u ∧ w.cell? ⟨b, off + j, none⟩ = some u
/-- What a list's slice is like: n elements of eleven cells. -/
def Tr.Sl (w : World) (S : Nat → Prop) (v : Value) (n : Nat) (P : Nat → Nat → Prop) : Prop :=
  (v = .slice none 0 0 ∧ n = 0) ∨ (∃ a cap, v = .slice (some a) 0 cap ∧ n = 0) ∨
  (0 < n ∧ ∃ b off cap, v = .slice (some ⟨b, off, none⟩) n cap ∧ n ≤ cap ∧ cap ≤ 9223372036854775807 ∧ b < w.heap.size ∧ S b ∧ P b off)
mutual
/-- The value reads as the datum; all that it lies in is of S. -/
def Tr.In (w : World) (S : Nat → Prop) : Tr → Value → Prop
  | .mk h l, v => ∃ v3 v4 v6 v7 v9 v10, v = .agg (Tr.cells h v3 v4 v6 v7 v9 v10) ∧ Tr.Hd.In w S h v3 v4 v6 v7 v9 ∧ Tr.Sl w S v10 l.length (fun b off => Tr.All w S l b off)
/-- Data, one behind the other in memory. -/
def Tr.All (w : World) (S : Nat → Prop) : List Tr → Nat → Nat → Prop
  | [], _, _ => True
  | t :: ts, b, off => (∃ C, Tr.In w S t (.agg C) ∧ Tr.Mem w b off C) ∧ Tr.All w S ts b (off + 11)
end
theorem Tr.In_mk {w : World} {S : Nat → Prop} {h : Tr.Hd} {l : List Tr} {v : Value} : Tr.In w S (.mk h l) v ↔ ∃ v3 v4 v6 v7 v9 v10, v = .agg (Tr.cells h v3 v4 v6 v7 v9 v10) ∧ Tr.Hd.In w S h v3 v4 v6 v7 v9 ∧ Tr.Sl w S v10 l.length (fun b off => Tr.All w S l b off) := by rw [Tr.In]
theorem Tr.All_nil {w : World} {S : Nat → Prop} {b off : Nat} : Tr.All w S [] b off := by rw [Tr.All]; trivial
theorem Tr.All_cons {w : World} {S : Nat → Prop} {t : Tr} {ts : List Tr} {b off : Nat} : Tr.All w S (t :: ts) b off ↔ (∃ C, Tr.In w S t (.agg C) ∧ Tr.Mem w b off C) ∧ Tr.All w S ts b (off + 11) := by rw [Tr.All]
/-- A list's slice reads as data. -/
def Tr.LIn (w : World) (S : Nat → Prop) (l : List Tr) (v : Value) : Prop := Tr.Sl w S v l.length (fun b off => Tr.All w S l b off)
/-- The blocks of S are as they were. -/
structure Tr.Kept (S : Nat → Prop) (w w' : World) : Prop where
  size : w.heap.size ≤ w'.heap.size
  block : ∀ q, S q → q < w.heap.size → w'.heap[q]? = w.heap[q]?
theorem Tr.Kept.refl (S : Nat → Prop) (w : World) : Tr.Kept S w w := ⟨Nat.le_refl _, fun _ _ _ => rfl⟩
theorem Tr.Kept.trans {S : Nat → Prop} {a b c : World} (h : Tr.Kept S a b) (k : Tr.Kept S b c) : Tr.Kept S a c :=
  ⟨Nat.le_trans h.size k.size, fun q hq hl => (k.block q hq (Nat.lt_of_lt_of_le hl h.size)).trans (h.block q hq hl)⟩
theorem Tr.Kept.mono {S S' : Nat → Prop} {a b : World} (h : Tr.Kept S a b) (k : ∀ q, S' q → S q) : Tr.Kept S' a b := ⟨h.size, fun q hq hl => h.block q (k q hq) hl⟩
theorem Tr.Kept.below {S : Nat → Prop} {w w' : World} {B : Nat} (hb : Below B w w') (hB : ∀ q, S q → q < w.heap.size → q < B) : Tr.Kept S w w' := ⟨hb.size, fun q hq hl => hb.block q (hB q hq hl)⟩
theorem Tr.Kept.all {S : Nat → Prop} {w w' : World} {B : Nat} (hb : Below B w w') (hB : w.heap.size ≤ B) : Tr.Kept S w w' := Tr.Kept.below hb (fun q _ hl => Nat.lt_of_lt_of_le hl hB)
theorem Tr.Kept.cell {S : Nat → Prop} {w w' : World} (h : Tr.Kept S w w') {b off : Nat} (hS : S b) (hl : b < w.heap.size) : w'.cell? ⟨b, off, none⟩ = w.cell? ⟨b, off, none⟩ := World.cell?_of_block (w := w) (h.block b hS hl)
theorem Tr.Mem.kept {w w' : World} {S : Nat → Prop} {b off : Nat} {C : Array Value} (h : Tr.Mem w b off C) (hk : Tr.Kept S w w') (hS : S b) (hl : b < w.heap.size) : Tr.Mem w' b off C := fun j hj => by
  obtain ⟨u, h1, h2⟩ := h j hj
  exact ⟨u, h1, (hk.cell hS hl).trans h2⟩
theorem Nt.In.kept {w w' : World} {S : Nat → Prop} {v : Value} {ws : List Nat} (h : Nt.In w v ws) (ho : Tr.On S v ws.length) (hk : Tr.Kept S w w') : Nt.In w' v ws := by
  rcases h with h | h | ⟨h0, b, off, cap, hv, hc, hl, hcell⟩
  · exact .inl h
  · exact .inr (.inl h)
  · exact .inr (.inr ⟨h0, b, off, cap, hv, hc, Nat.lt_of_lt_of_le hl hk.size, fun j hj => (hk.cell (ho h0 _ _ _ _ hv) hl).trans (hcell j hj)⟩)
theorem By.In.kept {w w' : World} {S : Nat → Prop} {v : Value} {s : ByteArray} (h : By.In w v s) (ho : Tr.On S v s.size) (hk : Tr.Kept S w w') : By.In w' v s := by
  rcases h with h | h | ⟨h0, b, off, cap, hv, hc, hl, hcell⟩
  · exact .inl h
  · exact .inr (.inl h)
  · exact .inr (.inr ⟨h0, b, off, cap, hv, hc, Nat.lt_of_lt_of_le hl hk.size, fun j hj => (hk.cell (ho h0 _ _ _ _ hv) hl).trans (hcell j hj)⟩)
theorem Tr.Sl.slice {w : World} {S : Nat → Prop} {v : Value} {n : Nat} {P : Nat → Nat → Prop} (h : Tr.Sl w S v n P) : ∃ ad cap, v = .slice ad n cap ∧ n ≤ cap ∧ (n = 0 ∨ cap ≤ 9223372036854775807) := by
  rcases h with ⟨rfl, rfl⟩ | ⟨a, cap, rfl, rfl⟩ | ⟨h0, b, off, cap, rfl, h1, h2, _⟩
  · exact ⟨_, _, rfl, Nat.le_refl _, .inl rfl⟩
  · exact ⟨_, _, rfl, Nat.zero_le _, .inl rfl⟩
  · exact ⟨_, _, rfl, h1, .inr h2⟩
theorem Tr.Sl.at {w : World} {S : Nat → Prop} {ad : Option Addr} {n m cap : Nat} {P : Nat → Nat → Prop} (h : Tr.Sl w S (.slice ad n cap) m P) (h0 : 0 < m) : ∃ b off, ad = some ⟨b, off, none⟩ ∧ n = m ∧ m ≤ cap ∧ cap ≤ 9223372036854775807 ∧ b < w.heap.size ∧ S b ∧ P b off := by
  rcases h with ⟨_, rfl⟩ | ⟨_, _, _, rfl⟩ | ⟨_, b, off, c, hv, h1, h2, h3, h4, h5⟩
  · omega
  · omega
  · simp only [Value.slice.injEq] at hv
    obtain ⟨rfl, rfl, rfl⟩ := hv
    exact ⟨b, off, rfl, rfl, h1, h2, h3, h4, h5⟩
theorem Tr.Sl.len {w : World} {S : Nat → Prop} {ad : Option Addr} {n m cap : Nat} {P : Nat → Nat → Prop} (h : Tr.Sl w S (.slice ad n cap) m P) : n = m := by
  obtain ⟨a, c, e, _⟩ := h.slice
  simp only [Value.slice.injEq] at e
  exact e.2.1
theorem Tr.Sl.imp {w w' : World} {S S' : Nat → Prop} {v : Value} {n : Nat} {P P' : Nat → Nat → Prop} (h : Tr.Sl w S v n P) (hz : w.heap.size ≤ w'.heap.size) (hS : ∀ q, S q → S' q) (hP : ∀ b off, b < w.heap.size → S b → P b off → P' b off) : Tr.Sl w' S' v n P' := by
  rcases h with h | h | ⟨h0, b, off, cap, hv, h1, h2, h3, h4, h5⟩
  · exact .inl h
  · exact .inr (.inl h)
  · exact .inr (.inr ⟨h0, b, off, cap, hv, h1, h2, by omega, hS b h4, hP b off h3 h4 h5⟩)
theorem Tr.Hd.In.kept {w w' : World} {S : Nat → Prop} {h : Tr.Hd} {v3 v4 v6 v7 v9 : Value} (i : Tr.Hd.In w S h v3 v4 v6 v7 v9) (hk : Tr.Kept S w w') : Tr.Hd.In w' S h v3 v4 v6 v7 v9 :=
  ⟨i.ok, i.i3.kept i.o3 hk, i.i4.kept i.o4 hk, i.i6.kept i.o6 hk, i.i7.kept i.o7 hk, i.i9.kept i.o9 hk, i.o3, i.o4, i.o6, i.o7, i.o9⟩
theorem Tr.On.mono {S S' : Nat → Prop} {v : Value} {n : Nat} (h : Tr.On S v n) (k : ∀ q, S q → S' q) : Tr.On S' v n := fun h0 b off l cap e => k _ (h h0 b off l cap e)
theorem Tr.Hd.In.mono {w : World} {S S' : Nat → Prop} {h : Tr.Hd} {v3 v4 v6 v7 v9 : Value} (i : Tr.Hd.In w S h v3 v4 v6 v7 v9) (k : ∀ q, S q → S' q) : Tr.Hd.In w S' h v3 v4 v6 v7 v9 :=
  ⟨i.ok, i.i3, i.i4, i.i6, i.i7, i.i9, i.o3.mono k, i.o4.mono k, i.o6.mono k, i.o7.mono k, i.o9.mono k⟩
mutual
theorem Tr.In.kept {w w' : World} {S : Nat → Prop} (hk : Tr.Kept S w w') : ∀ (t : Tr) (v : Value), Tr.In w S t v → Tr.In w' S t v
  | .mk h l, v, hi => by
    rw [Tr.In_mk] at hi ⊢
    obtain ⟨v3, v4, v6, v7, v9, v10, e, h1, h2⟩ := hi
    exact ⟨v3, v4, v6, v7, v9, v10, e, h1.kept hk, h2.imp hk.size (fun _ h => h) (fun b off h3 h4 h5 => Tr.All.kept hk l b off h4 h3 h5)⟩
theorem Tr.All.kept {w w' : World} {S : Nat → Prop} (hk : Tr.Kept S w w') : ∀ (l : List Tr) (b off : Nat), S b → b < w.heap.size → Tr.All w S l b off → Tr.All w' S l b off
  | [], b, off, _, _, _ => Tr.All_nil
  | t :: ts, b, off, hS, hlt, h => by
    rw [Tr.All_cons] at h ⊢
    obtain ⟨⟨C, h1, h2⟩, h3⟩ := h
    exact ⟨⟨C, Tr.In.kept hk t _ h1, h2.kept hk hS hlt⟩, Tr.All.kept hk ts b (off + 11) hS hlt h3⟩
end
mutual
theorem Tr.In.mono {w : World} {S S' : Nat → Prop} (hk : ∀ q, S q → S' q) : ∀ (t : Tr) (v : Value), Tr.In w S t v → Tr.In w S' t v
  | .mk h l, v, hi => by
    rw [Tr.In_mk] at hi ⊢
    obtain ⟨v3, v4, v6, v7, v9, v10, e, h1, h2⟩ := hi
    exact ⟨v3, v4, v6, v7, v9, v10, e, h1.mono hk, h2.imp (Nat.le_refl _) hk (fun b off h3 h4 h5 => Tr.All.mono hk l b off h5)⟩
theorem Tr.All.mono {w : World} {S S' : Nat → Prop} (hk : ∀ q, S q → S' q) : ∀ (l : List Tr) (b off : Nat), Tr.All w S l b off → Tr.All w S' l b off
  | [], b, off, _ => Tr.All_nil
  | t :: ts, b, off, h => by
    rw [Tr.All_cons] at h ⊢
    obtain ⟨⟨C, h1, h2⟩, h3⟩ := h
    exact ⟨⟨C, Tr.In.mono hk t _ h1, h2⟩, Tr.All.mono hk ts b (off + 11) h3⟩
end
theorem Tr.In.below {w w' : World} {S : Nat → Prop} {B : Nat} {t : Tr} {v : Value} (h : Tr.In w S t v) (hb : Below B w w') (hB : w.heap.size ≤ B) : Tr.In w' S t v := Tr.In.kept (Tr.Kept.all hb hB) t v h
theorem Tr.LIn.kept {w w' : World} {S : Nat → Prop} {l : List Tr} {v : Value} (h : Tr.LIn w S l v) (hk : Tr.Kept S w w') : Tr.LIn w' S l v :=
  h.imp hk.size (fun _ h => h) (fun b off h3 h4 h5 => Tr.All.kept hk l b off h4 h3 h5)
theorem Tr.LIn.mono {w : World} {S S' : Nat → Prop} {l : List Tr} {v : Value} (h : Tr.LIn w S l v) (hk : ∀ q, S q → S' q) : Tr.LIn w S' l v :=
  h.imp (Nat.le_refl _) hk (fun b off h3 h4 h5 => Tr.All.mono hk l b off h5)
theorem Tr.LIn.below {w w' : World} {S : Nat → Prop} {B : Nat} {l : List Tr} {v : Value} (h : Tr.LIn w S l v) (hb : Below B w w') (hB : w.heap.size ≤ B) : Tr.LIn w' S l v := h.kept (Tr.Kept.all hb hB)
/-- The element at a place. -/
theorem Tr.All.at {w : World} {S : Nat → Prop} : ∀ (l : List Tr) (b off : Nat), Tr.All w S l b off → ∀ (k : Nat) (t : Tr), l[k]? = some t → ∃ C, Tr.In w S t (.agg C) ∧ Tr.Mem w b (off + 11 * k) C
  | [], b, off, _, k, t, hk => by simp at hk
  | x :: ts, b, off, h, 0, t, hk => by
    obtain rfl : x = t := by simpa using hk
    rw [Tr.All_cons] at h
    exact h.1
  | x :: ts, b, off, h, k + 1, t, hk => by
    rw [Tr.All_cons] at h
    have := Tr.All.at ts b (off + 11) h.2 k t (by simpa using hk)
    rwa [show off + 11 + 11 * k = off + 11 * (k + 1) by omega] at this
theorem Tr.All.of {w : World} {S : Nat → Prop} : ∀ (l : List Tr) (b off : Nat), (∀ (k : Nat) (t : Tr), l[k]? = some t → ∃ C, Tr.In w S t (.agg C) ∧ Tr.Mem w b (off + 11 * k) C) → Tr.All w S l b off
  | [], b, off, _ => Tr.All_nil
  | x :: ts, b, off, h => by
    rw [Tr.All_cons]
    refine ⟨by simpa using h 0 x rfl, Tr.All.of ts b (off + 11) (fun k t hk => ?_)⟩
    rw [show off + 11 + 11 * k = off + 11 * (k + 1) by omega]
    exact h (k + 1) t (by simpa using hk)
theorem Tr.LIn.nil (w : World) (S : Nat → Prop) : Tr.LIn w S [] (.slice none 0 0) := .inl ⟨rfl, rfl⟩
theorem Tr.In.form {w : World} {S : Nat → Prop} {t : Tr} {C : Array Value} (h : Tr.In w S t (.agg C)) : ∃ (hd : Tr.Hd) (l : List Tr) (v3 v4 v6 v7 v9 v10 : Value), C = Tr.cells hd v3 v4 v6 v7 v9 v10 := by
  obtain ⟨hd, l⟩ := t
  rw [Tr.In_mk] at h
  obtain ⟨v3, v4, v6, v7, v9, v10, e, _⟩ := h
  exact ⟨hd, l, v3, v4, v6, v7, v9, v10, by injection e⟩
/-- Eleven cells, opened. -/
theorem Tr.Mem.cells {w : World} {b off : Nat} {u0 u1 u2 u3 u4 u5 u6 u7 u8 u9 u10 : Value} (h : Tr.Mem w b off #[u0, u1, u2, u3, u4, u5, u6, u7, u8, u9, u10]) :
    w.cell? ⟨b, off, none⟩ = some u0 ∧ w.cell? ⟨b, off + 1, none⟩ = some u1 ∧ w.cell? ⟨b, off + 2, none⟩ = some u2 ∧ w.cell? ⟨b, off + 3, none⟩ = some u3 ∧ w.cell? ⟨b, off + 4, none⟩ = some u4 ∧ w.cell? ⟨b, off + 5, none⟩ = some u5 ∧ w.cell? ⟨b, off + 6, none⟩ = some u6 ∧ w.cell? ⟨b, off + 7, none⟩ = some u7 ∧ w.cell? ⟨b, off + 8, none⟩ = some u8 ∧ w.cell? ⟨b, off + 9, none⟩ = some u9 ∧ w.cell? ⟨b, off + 10, none⟩ = some u10 := by
  have g : ∀ j u, j < 11 → (#[u0, u1, u2, u3, u4, u5, u6, u7, u8, u9, u10] : Array Value)[j]? = some u → w.cell? ⟨b, off + j, none⟩ = some u := fun j u hj hu => by
    obtain ⟨x, h1, h2⟩ := h j hj
    rw [hu] at h1
    cases h1
    exact h2
  exact ⟨g 0 _ (by decide) rfl, g 1 _ (by decide) rfl, g 2 _ (by decide) rfl, g 3 _ (by decide) rfl, g 4 _ (by decide) rfl, g 5 _ (by decide) rfl, g 6 _ (by decide) rfl, g 7 _ (by decide) rfl, g 8 _ (by decide) rfl, g 9 _ (by decide) rfl, g 10 _ (by decide) rfl⟩
end Go.Proofs.YtikmebkfdpbidaaGreatDoor
namespace Go.Proofs.YtikmebkfdpbidaaGreatDoor
set_option linter.unusedVariables false

/-- Is it a fraction? -/
def Rt.sound (s : Bool) (t b : List Nat) : Bool := Nt.sound t && Nt.sound b && decide (b.length ≠ 0) && !(decide (t.length = 0) && s) && decide (Nat.gcd (Nt.val t) (Nt.val b) = 1)
/-- Is it a fraction without words? -/
def Rt.noRat (s : Bool) (t b : List Nat) : Bool := !s && decide (t.length = 0) && decide (b.length = 0)
/-- The number of a node. -/
def Tr.Hd.num (h : Tr.Hd) : Bool := if h.k = 3 then Rt.sound h.s1 h.t1 h.b1 && Rt.sound h.s2 h.t2 h.b2 else Rt.noRat h.s1 h.t1 h.b1 && Rt.noRat h.s2 h.t2 h.b2
def Tr.isText (k : Int) : Bool := decide (k = 5) || decide (k = 6) || decide (k = 11)
def Tr.isChar (n : Int) : Bool := decide (0 ≤ n) && decide (n ≤ 55295) || decide (57344 ≤ n) && decide (n ≤ 1114111)
/-- What the kind asks of the number and of the list's length. -/
def Tr.own (k n : Int) (l : Nat) : Bool :=
  if k = 8 then decide (n = 0) && decide (l = 2) else if k = 9 then decide (n = 0) else if k = 2 then (decide (n = 0) || decide (n = 1)) && decide (l = 0)
  else if k = 4 then Tr.isChar n && decide (l = 0) else decide (1 ≤ k) && decide (k ≤ 11) && decide (n = 0) && decide (l = 0)
/-- Is a node sound by its kind, but for its list's data? -/
def Tr.Hd.shape (h : Tr.Hd) (l : Nat) : Bool :=
  h.num && (Tr.isText h.k || decide (h.x.size = 0)) && Lib.validD h.x.data.toList && (decide (h.k = 7) || decide (h.raw.size = 0)) && Tr.own h.k h.n l
theorem Tr.own_pair {n : Int} {l : Nat} (h : Tr.own 8 n l = true) : l = 2 := by
  simp [Tr.own] at h; exact h.2
theorem Tr.Hd.shape_pair {h : Tr.Hd} {l : Nat} (hs : h.shape l = true) (hk : h.k = 8) : l = 2 := by
  unfold Tr.Hd.shape at hs
  simp only [Bool.and_eq_true] at hs
  have := hs.2
  rw [hk] at this
  exact Tr.own_pair this
mutual
/-- How many nodes a datum has. -/
def Tr.size : Tr → Nat
  | .mk _ l => 1 + Tr.sizeL l
def Tr.sizeL : List Tr → Nat
  | [] => 0
  | t :: ts => Tr.size t + Tr.sizeL ts
end
theorem Tr.size_mk (h : Tr.Hd) (l : List Tr) : Tr.size (.mk h l) = 1 + Tr.sizeL l := by rw [Tr.size]
theorem Tr.sizeL_nil : Tr.sizeL [] = 0 := by rw [Tr.sizeL]
theorem Tr.sizeL_cons (t : Tr) (ts : List Tr) : Tr.sizeL (t :: ts) = Tr.size t + Tr.sizeL ts := by rw [Tr.sizeL]
theorem Tr.size_pos (t : Tr) : 0 < Tr.size t := by cases t; rw [Tr.size_mk]; omega
theorem Tr.size_at : ∀ (l : List Tr) (k : Nat) (t : Tr), l[k]? = some t → Tr.size t ≤ Tr.sizeL l
  | [], k, t, h => by simp at h
  | x :: ts, 0, t, h => by
    obtain rfl : x = t := by simpa using h
    rw [Tr.sizeL_cons]; omega
  | x :: ts, k + 1, t, h => by
    have := Tr.size_at ts k t (by simpa using h)
    rw [Tr.sizeL_cons]; omega
theorem Tr.size_lt {t u : Tr} {k : Nat} (h : t.li[k]? = some u) : Tr.size u < Tr.size t := by
  have := Tr.size_at t.li k u h
  cases t with
  | mk hd l => rw [Tr.size_mk]; simp only [Tr.li] at this; omega
mutual
/-- sound: d deep, so many nodes are left: is it, and how many are left then. -/
def Tr.snd : Tr → Nat → Int → Bool × Int
  | .mk h l, d, left =>
    if left - 1 < 0 ∨ 200 < d ∨ h.shape l.length = false then (false, left - 1)
    else if h.k = 8 then
      match l with
      | [a, b] => if (Tr.snd a (d + 1) (left - 1)).1 = true then Tr.snd b d (Tr.snd a (d + 1) (left - 1)).2 else (false, (Tr.snd a (d + 1) (left - 1)).2)
      | _ => (true, left - 1)
    else Tr.sndL l (d + 1) (left - 1)
/-- Data one behind the other. -/
def Tr.sndL : List Tr → Nat → Int → Bool × Int
  | [], _, left => (true, left)
  | t :: ts, d, left => if (Tr.snd t d left).1 = true then Tr.sndL ts d (Tr.snd t d left).2 else (false, (Tr.snd t d left).2)
end
theorem Tr.snd_bad {h : Tr.Hd} {l : List Tr} {d : Nat} {left : Int} (hb : left - 1 < 0 ∨ 200 < d ∨ h.shape l.length = false) : Tr.snd (.mk h l) d left = (false, left - 1) := by
  rw [Tr.snd.eq_def]; simp only; rw [if_pos hb]
theorem Tr.snd_pair {h : Tr.Hd} {a b : Tr} {d : Nat} {left : Int} (hb : ¬ (left - 1 < 0 ∨ 200 < d ∨ h.shape 2 = false)) (hk : h.k = 8) : Tr.snd (.mk h [a, b]) d left = if (Tr.snd a (d + 1) (left - 1)).1 = true then Tr.snd b d (Tr.snd a (d + 1) (left - 1)).2 else (false, (Tr.snd a (d + 1) (left - 1)).2) := by
  rw [Tr.snd.eq_def]; simp only [List.length_cons, List.length_nil]; rw [if_neg hb, if_pos hk]
theorem Tr.snd_list {h : Tr.Hd} {l : List Tr} {d : Nat} {left : Int} (hb : ¬ (left - 1 < 0 ∨ 200 < d ∨ h.shape l.length = false)) (hk : h.k ≠ 8) : Tr.snd (.mk h l) d left = Tr.sndL l (d + 1) (left - 1) := by
  rw [Tr.snd.eq_def]; simp only; rw [if_neg hb, if_neg hk]
theorem Tr.sndL_nil {d : Nat} {left : Int} : Tr.sndL [] d left = (true, left) := by rw [Tr.sndL]
theorem Tr.sndL_cons {t : Tr} {ts : List Tr} {d : Nat} {left : Int} : Tr.sndL (t :: ts) d left = if (Tr.snd t d left).1 = true then Tr.sndL ts d (Tr.snd t d left).2 else (false, (Tr.snd t d left).2) := by rw [Tr.sndL]
mutual
/-- The nodes that are left only become fewer. -/
theorem Tr.snd_le : ∀ (t : Tr) (d : Nat) (left : Int), -1 ≤ left → (Tr.snd t d left).2 ≤ left ∧ ((Tr.snd t d left).1 = true → 0 ≤ (Tr.snd t d left).2)
  | .mk h l, d, left, h0 => by
    by_cases hb : left - 1 < 0 ∨ 200 < d ∨ h.shape l.length = false
    · rw [Tr.snd_bad hb]; exact ⟨by show left - 1 ≤ left; omega, fun h => by cases h⟩
    · have hb2 : 0 ≤ left - 1 := by
        rcases Int.lt_or_le (left - 1) 0 with h | h
        · exact absurd (Or.inl h) hb
        · exact h
      by_cases hk : h.k = 8
      · have hs : h.shape l.length = true := by
          cases e : h.shape l.length with
          | true => rfl
          | false => exact absurd (Or.inr (Or.inr e)) hb
        have hl := Tr.Hd.shape_pair hs hk
        match l, hl with
        | [a, b], _ =>
          rw [Tr.snd_pair hb hk]
          have ha := Tr.snd_le a (d + 1) (left - 1) (by omega)
          split
          · rename_i h1
            have h2 := ha.2 h1
            have hb' := Tr.snd_le b d _ (by omega : -1 ≤ (Tr.snd a (d + 1) (left - 1)).2)
            exact ⟨by omega, hb'.2⟩
          · exact ⟨by show (Tr.snd a (d + 1) (left - 1)).2 ≤ left; omega, fun h => by cases h⟩
      · rw [Tr.snd_list hb hk]
        have := Tr.sndL_le l (d + 1) (left - 1) hb2
        exact ⟨by omega, this.2⟩
theorem Tr.sndL_le : ∀ (l : List Tr) (d : Nat) (left : Int), 0 ≤ left → (Tr.sndL l d left).2 ≤ left ∧ ((Tr.sndL l d left).1 = true → 0 ≤ (Tr.sndL l d left).2)
  | [], d, left, h0 => by rw [Tr.sndL_nil]; exact ⟨Int.le_refl _, fun _ => h0⟩
  | t :: ts, d, left, h0 => by
    rw [Tr.sndL_cons]
    have ht := Tr.snd_le t d left (by omega)
    split
    · rename_i h1
      have h2 := ht.2 h1
      have hs := Tr.sndL_le ts d _ h2
      exact ⟨by omega, hs.2⟩
    · exact ⟨ht.1, fun h => by cases h⟩
end
/-- Is it a datum? -/
def Tr.sound (t : Tr) : Bool := (Tr.snd t 1 20000).1
end Go.Proofs.YtikmebkfdpbidaaGreatDoor
namespace Go.Proofs.YtikmebkfdpbidaaGreatDoor
open Go.RowKit
set_option linter.unusedVariables false
set_option linter.unusedSimpArgs false

set_option maxHeartbeats 4000000 in
set_option maxRecDepth 1000000 in
theorem Nt.Sound_same (ws : List Nat) (v : Value) (w : World) (h : Nt.In w v ws) (hw : Nt.Wd ws) (hl : ws.length ≤ 4611686018427387904) : Calls Tryz.prog 210 #[v] w fun e w' => e = .returned (.bool (Nt.sound ws)) ∧ w = w' := by
  have KT := fun w h => Nt.Trim_same ws v w h hw hl
  obtain ⟨ad, cap, rfl⟩ := h.slice
  have H := Lib.hid h
  clear h
  have hs : Nt.sound ws = (decide (ws.length ≤ 512) && decide ((Nt.dig (Nt.val ws)).length = ws.length)) := rfl
  rw [hs]
  generalize (Nt.dig (Nt.val ws)).length = n at *
  clear hs hw hl
  by_cases h1 : ws.length ≤ 512
  · have h1I : (ws.length : Int) ≤ 512 := by omega
    rw [decide_eq_true h1]
    go_enter Tryz.func210, Tryz.ntmps210
    go_wp2_with fail
    refine (KT _ H.out).mono ?_
    rintro x w1 ⟨rfl, hw1⟩
    subst hw1
    by_cases h2 : n = ws.length
    · subst h2
      go_wp2_with fail
      go_ret
      exact ⟨by simp, rfl⟩
    · have h2I : ((n : Int) == (ws.length : Int)) = false := by simp; omega
      go_wp2_with fail
      go_ret
      exact ⟨by simp [h2], rfl⟩
  · have h1I : ¬ (ws.length : Int) ≤ 512 := by omega
    rw [decide_eq_false h1]
    go_enter Tryz.func210, Tryz.ntmps210
    go_wp2_with fail
    go_ret
    exact ⟨by simp, rfl⟩

/-- A fraction as it may come: sign and words. -/
def Rt.G (w : World) (v : Value) (s : Bool) (t b : List Nat) : Prop := ∃ tv bv, v = .agg #[.bool s, tv, bv] ∧ Nt.In w tv t ∧ Nt.In w bv b
structure Rt.GOk (t b : List Nat) : Prop where
  w1 : Nt.Wd t
  w2 : Nt.Wd b
  l1 : t.length ≤ 4611686018427387904
  l2 : b.length ≤ 4611686018427387904
/-- A number's words, looked at: is it 1? -/
theorem Rt.isOne {w : World} {v : Value} {g : Nat} (h : Nt.N w v g) (h0 : 0 < g) : ∃ S : Bool, S = decide (g = 1) ∧ ((∃ ad cap, v = .slice ad (Nt.dig g).length cap ∧ (((Nt.dig g).length : Int) == 1) = false ∧ S = false) ∨ ∃ b off cap, v = .slice (some ⟨b, off, none⟩) 1 cap ∧ w.cell? ⟨b, off, none⟩ = some (.int .u32 g) ∧ ((g : Int) == 1) = S) := by
  refine ⟨_, rfl, ?_⟩
  by_cases hl : (Nt.dig g).length = 1
  · right
    obtain ⟨ad, cap, rfl⟩ := Nt.In.slice h
    obtain ⟨b, off, rfl, _, _, _, hc⟩ := Nt.In.at h (by omega)
    have hc0 := hc 0 (by omega)
    have hg : (Nt.dig g).getD 0 0 = g := by
      have e := Nt.val_dig g
      match hd : Nt.dig g, hl with
      | [x], _ => rw [hd] at e; simpa [Nt.val] using e
    rw [hg] at hc0
    refine ⟨b, off, cap, by rw [hl], hc0, ?_⟩
    by_cases h1 : g = 1
    · subst h1; rfl
    · simp [h1]; omega
  · left
    obtain ⟨ad, cap, rfl⟩ := Nt.In.slice h
    refine ⟨ad, cap, rfl, by simp; omega, ?_⟩
    apply decide_eq_false
    intro e
    subst e
    exact hl (by rw [Nt.dig_small (by decide) (by decide)]; rfl)
set_option maxHeartbeats 4000000 in
set_option maxRecDepth 1000000 in
theorem Rt.ratSound_any (s : Bool) (t b : List Nat) (v : Value) (w : World) (h : Rt.G w v s t b) (hok : Rt.GOk t b) : Calls Tryz.prog 166 #[v] w fun e w' => e = .returned (.bool (Rt.sound s t b)) ∧ Below w.heap.size w w' := by
  obtain ⟨tv, bv, rfl, h1, h2⟩ := h
  have K1 := fun w h => Nt.Sound_same t tv w h hok.w1 hok.l1
  have K2 := fun w h => Nt.Sound_same b bv w h hok.w2 hok.l2
  obtain ⟨a1, c1, rfl⟩ := h1.slice
  obtain ⟨a2, c2, rfl⟩ := h2.slice
  have hal : ∀ o, Below w.heap.size w (w.alloc o) := fun o => (Below.refl _ _).alloc (Nat.le_refl _) _
  have H1 : Hid (∀ o, Nt.In (w.alloc o) (.slice a1 t.length c1) t) := Lib.hid (fun o => h1.below (hal o) (Nat.le_refl _))
  have H2 : Hid (∀ o, Nt.In (w.alloc o) (.slice a2 b.length c2) b) := Lib.hid (fun o => h2.below (hal o) (Nat.le_refl _))
  have HAL := Lib.hid hal
  have HOK := Lib.hid hok
  have hdef : Rt.sound s t b = (Nt.sound t && Nt.sound b && decide (b.length ≠ 0) && !(decide (t.length = 0) && s) && decide (Nat.gcd (Nt.val t) (Nt.val b) = 1)) := rfl
  rw [hdef]
  clear hdef hal h1 h2 hok
  obtain ⟨S1, hS1⟩ : ∃ S, Nt.sound t = S := ⟨_, rfl⟩
  obtain ⟨S2, hS2⟩ : ∃ S, Nt.sound b = S := ⟨_, rfl⟩
  rw [hS1] at K1 ⊢
  rw [hS2] at K2 ⊢
  have HS1 := Lib.hid hS1
  have HS2 := Lib.hid hS2
  clear hS1 hS2
  have hmain : ∃ g vt vb : Nat, decide (Nat.gcd (Nt.val t) (Nt.val b) = 1) = decide (g = 1) ∧ (S1 = true → S2 = true → b.length ≠ 0 → (∀ o, Nt.N (w.alloc o) (.slice a1 t.length c1) vt ∧ Nt.N (w.alloc o) (.slice a2 b.length c2) vb) ∧ 0 < g ∧ (∀ v v2 w, Nt.N w v vt → Nt.N w v2 vb → Calls Tryz.prog 129 #[v, v2] w fun e w' => ∃ v', e = .returned v' ∧ Nt.N w' v' g ∧ Below w.heap.size w w')) := by
    refine ⟨Nat.gcd (Nt.val t) (Nt.val b), Nt.val t, Nt.val b, rfl, ?_⟩
    intro e1 e2 hb0
    obtain ⟨et, elt⟩ := Nt.sound_eq HOK.out.w1 (HS1.out.trans e1)
    obtain ⟨eb, elb⟩ := Nt.sound_eq HOK.out.w2 (HS2.out.trans e2)
    refine ⟨fun o => ?_, ?_, fun v v2 w h h2 => Nt.Divisor_any (Nt.val t) (Nt.val b) v v2 w h h2 ⟨by rw [← eb]; omega, by rw [← et]; omega⟩⟩
    · unfold Nt.N
      rw [← et, ← eb]
      exact ⟨H1.out o, H2.out o⟩
    · refine Nat.gcd_pos_of_pos_right _ ?_
      rcases Nat.eq_zero_or_pos (Nt.val b) with h0 | h0
      · rw [h0, Nt.dig_zero] at eb
        rw [eb] at hb0
        exact absurd rfl hb0
      · exact h0
  obtain ⟨g, vt, vb, hgd, hmain⟩ := hmain
  rw [hgd]
  have HM := Lib.hid hmain
  clear hmain HS1 HS2 HOK hgd
  obtain ⟨G1, hG1⟩ : ∃ G : Bool, decide (g = 1) = G := ⟨_, rfl⟩
  rw [hG1]
  have HG1 := Lib.hid hG1
  clear hG1
  generalize t.length = l1 at *
  generalize b.length = l2 at *
  rcases S1 with _ | _
  · clear HM
    go_enter Tryz.func166, Tryz.ntmps166
    go_wp2_with fail
    refine (K1 _ (H1.out _)).mono ?_
    rintro x w1 ⟨rfl, hw1⟩
    subst hw1
    go_wp2_with fail
    go_ret
    exact ⟨by simp, HAL.out _⟩
  rcases S2 with _ | _
  · clear HM
    go_enter Tryz.func166, Tryz.ntmps166
    go_wp2_with fail
    refine (K1 _ (H1.out _)).mono ?_
    rintro x w1 ⟨rfl, hw1⟩
    subst hw1
    go_wp2_with fail
    refine (K2 _ (H2.out _)).mono ?_
    rintro x w1 ⟨rfl, hw1⟩
    subst hw1
    go_wp2_with fail
    go_ret
    exact ⟨by simp, HAL.out _⟩
  by_cases hb0 : l2 = 0
  · subst hb0
    clear HM
    go_enter Tryz.func166, Tryz.ntmps166
    go_wp2_with fail
    refine (K1 _ (H1.out _)).mono ?_
    rintro x w1 ⟨rfl, hw1⟩
    subst hw1
    go_wp2_with fail
    refine (K2 _ (H2.out _)).mono ?_
    rintro x w1 ⟨rfl, hw1⟩
    subst hw1
    go_wp2_with fail
    go_ret
    exact ⟨by simp, HAL.out _⟩
  obtain ⟨hm1, hm2, hm3⟩ := HM.out rfl rfl hb0
  have HN := Lib.hid hm1
  have HG0 := Lib.hid hm2
  have HL2 := Lib.hid hb0
  have hl2I : ((l2 : Int) == 0) = false := by simp; exact hb0
  have hl2J : ¬ (l2 : Int) = 0 := by omega
  clear HM hm1 hm2 hb0
  have FIN : Hid (∀ (w1 : World) (tv : Value), Nt.N w1 tv g → (∃ ad cap, tv = .slice ad (Nt.dig g).length cap)) := Lib.hid (fun w1 tv h => Nt.In.slice h)
  by_cases ht0 : l1 = 0
  · subst ht0
    rcases s with _ | _
    · go_enter Tryz.func166, Tryz.ntmps166
      go_wp2_with fail
      refine (K1 _ (H1.out _)).mono ?_
      rintro x w1 ⟨rfl, hw1⟩
      subst hw1
      go_wp2_with fail
      refine (K2 _ (H2.out _)).mono ?_
      rintro x w1 ⟨rfl, hw1⟩
      subst hw1
      go_wp2_with fail
      refine (hm3 _ _ _ (HN.out _).1 (HN.out _).2).mono ?_
      rintro x w1 ⟨vg, rfl, hg, hbg⟩
      have HBG := Lib.hid ((HAL.out _).trans (hbg.mono (HAL.out _).size))
      obtain ⟨S, hS, hK⟩ := Rt.isOne hg HG0.out
      rw [HG1.out] at hS
      subst hS
      clear hg hbg FIN
      rcases hK with ⟨ad, cap, rfl, hf, hSf⟩ | ⟨b', off', cap', rfl, hc, hgS⟩
      · generalize (Nt.dig g).length = l3 at *
        subst hSf
        go_wp2_with fail
        go_ret
        exact ⟨by simp, HBG.out⟩
      · go_wp2_with fail
        go_ret
        exact ⟨by simp [HL2.out], HBG.out⟩
    · go_enter Tryz.func166, Tryz.ntmps166
      go_wp2_with fail
      refine (K1 _ (H1.out _)).mono ?_
      rintro x w1 ⟨rfl, hw1⟩
      subst hw1
      go_wp2_with fail
      refine (K2 _ (H2.out _)).mono ?_
      rintro x w1 ⟨rfl, hw1⟩
      subst hw1
      go_wp2_with fail
      go_ret
      exact ⟨by simp, HAL.out _⟩
  · have ht0I : ((l1 : Int) == 0) = false := by simp; exact ht0
    have ht0J : ¬ (l1 : Int) = 0 := by omega
    have HL1 := Lib.hid ht0
    clear ht0
    go_enter Tryz.func166, Tryz.ntmps166
    go_wp2_with fail
    refine (K1 _ (H1.out _)).mono ?_
    rintro x w1 ⟨rfl, hw1⟩
    subst hw1
    go_wp2_with fail
    refine (K2 _ (H2.out _)).mono ?_
    rintro x w1 ⟨rfl, hw1⟩
    subst hw1
    go_wp2_with fail
    refine (hm3 _ _ _ (HN.out _).1 (HN.out _).2).mono ?_
    rintro x w1 ⟨vg, rfl, hg, hbg⟩
    have HBG := Lib.hid ((HAL.out _).trans (hbg.mono (HAL.out _).size))
    obtain ⟨S, hS, hK⟩ := Rt.isOne hg HG0.out
    rw [HG1.out] at hS
    subst hS
    clear hg hbg FIN
    rcases hK with ⟨ad, cap, rfl, hf, hSf⟩ | ⟨b', off', cap', rfl, hc, hgS⟩
    · generalize (Nt.dig g).length = l3 at *
      subst hSf
      go_wp2_with fail
      go_ret
      exact ⟨by simp, HBG.out⟩
    · go_wp2_with fail
      go_ret
      exact ⟨by simp [HL2.out, HL1.out], HBG.out⟩
end Go.Proofs.YtikmebkfdpbidaaGreatDoor
namespace Go.Proofs.YtikmebkfdpbidaaGreatDoor
open Go.RowKit
set_option linter.unusedVariables false
set_option linter.unusedSimpArgs false

theorem Nt.Times_any (m n : Nat) (v v2 : Value) (w : World) (h : Nt.N w v m) (h2 : Nt.N w v2 n) (hl : (Nt.dig m).length ≤ 400000) (hl2 : (Nt.dig n).length ≤ 400000) : Calls Tryz.prog 167 #[v, v2] w fun e w' => ∃ v', e = .returned v' ∧ Nt.N w' v' (m * n) ∧ Below w.heap.size w w' := by
  have := Nt.times_ws (Nt.dig m) (Nt.dig n) v v2 w h h2 (Nt.dig_wd m) (Nt.dig_wd n) hl hl2
  rwa [Nt.val_dig, Nt.val_dig] at this
theorem Nt.Plus_any (m n : Nat) (v v2 : Value) (w : World) (h : Nt.N w v m) (h2 : Nt.N w v2 n) (hl : (Nt.dig m).length ≤ 400000) (hl2 : (Nt.dig n).length ≤ 400000) : Calls Tryz.prog 168 #[v, v2] w fun e w' => ∃ v', e = .returned v' ∧ Nt.N w' v' (m + n) ∧ Below w.heap.size w w' := by
  have := Nt.plus_ws (Nt.dig m) (Nt.dig n) v v2 w h h2 (Nt.dig_wd m) (Nt.dig_wd n) (by omega) (by omega)
  rwa [Nt.val_dig, Nt.val_dig] at this
theorem Nt.Less_any (m n : Nat) (v v2 : Value) (w : World) (h : Nt.N w v m) (h2 : Nt.N w v2 n) (hl : (Nt.dig m).length ≤ 400000) (hle : n ≤ m) : Calls Tryz.prog 170 #[v, v2] w fun e w' => ∃ v', e = .returned v' ∧ Nt.N w' v' (m - n) ∧ Below w.heap.size w w' := by
  have := Nt.less_ws (Nt.dig m) (Nt.dig n) v v2 w h h2 (Nt.dig_wd m) (Nt.dig_wd n) (by omega) (Nt.dig_len_mono hle) (by rw [Nt.val_dig, Nt.val_dig]; exact hle)
  rwa [Nt.val_dig, Nt.val_dig] at this
theorem Rt.belowA {w0 w : World} (h : Below w0.heap.size w0 w) (o : Obj) : Below w0.heap.size w0 (w.alloc o) := h.alloc h.size o
theorem Rt.belowD {w0 w : World} (h : Below w0.heap.size w0 w) : Below w0.heap.size w0 w.drew := h.drew
theorem Rt.belowT {w0 w w2 : World} (h : Below w0.heap.size w0 w) (h2 : Below w.heap.size w w2) : Below w0.heap.size w0 w2 := h.trans (h2.mono h.size)
/-- Three boxes behind a world. -/
theorem Rt.three (w : World) (o o2 o3 : Obj) : ∃ W2, ((w.alloc o).alloc o2).alloc o3 = W2 ∧ W2.heap[w.heap.size]? = some o ∧ W2.heap[w.heap.size + 1]? = some o2 ∧ W2.heap[w.heap.size + 2]? = some o3 ∧ W2.heap.size = w.heap.size + 3 ∧ Below w.heap.size w W2 := by
  have h1 : (w.alloc o).heap.size = w.heap.size + 1 := by simp
  have h2 : ((w.alloc o).alloc o2).heap.size = w.heap.size + 2 := by simp
  refine ⟨_, rfl, ?_, ?_, ?_, by simp, ?_⟩
  · exact (Lib.alloc_old _ _ _ (by rw [h2]; omega)).trans ((Lib.alloc_old _ _ _ (by rw [h1]; omega)).trans (heap_alloc_new w o))
  · have := heap_alloc_new (w.alloc o) o2
    rw [h1] at this
    exact (Lib.alloc_old _ _ _ (by rw [h2]; omega)).trans this
  · have := heap_alloc_new ((w.alloc o).alloc o2) o3
    rwa [h2] at this
  · exact (((Below.refl _ _).alloc (Nat.le_refl _) _).alloc (by rw [h1]; omega) _).alloc (by rw [h2]; omega) _
theorem Rt.cells3 {w : World} {b : Nat} {v0 v1 v2 : Value} {t : TypeId} (h : w.heap[b]? = some (.cells #[v0, v1, v2] t (0, 0))) : w.cell? ⟨b, 0, none⟩ = some v0 ∧ w.cell? ⟨b, 1, none⟩ = some v1 ∧ w.cell? ⟨b, 2, none⟩ = some v2 := ⟨Rt.cell_of h 0, Rt.cell_of h 1, Rt.cell_of h 2⟩

def Rt.prodS (s1 : Bool) (t1 b1 : Nat) (s2 : Bool) (t2 b2 : Nat) : Bool × Nat × Nat := Rt.ratS (s1 != s2) (t1 * t2) (b1 * b2)
def Rt.sumS (s1 : Bool) (t1 b1 : Nat) (s2 : Bool) (t2 b2 : Nat) : Bool × Nat × Nat :=
  if s1 = s2 then Rt.ratS s1 (t1 * b2 + t2 * b1) (b1 * b2) else if t2 * b1 ≤ t1 * b2 then Rt.ratS s1 (t1 * b2 - t2 * b1) (b1 * b2) else Rt.ratS s2 (t2 * b1 - t1 * b2) (b1 * b2)

set_option maxHeartbeats 8000000 in
set_option maxRecDepth 1000000 in
theorem Rt.product_any (s1 s2 : Bool) (t1 b1 t2 b2 : Nat) (v v2 : Value) (w : World) (h : Rt.R w v s1 t1 b1) (h2 : Rt.R w v2 s2 t2 b2) (hb1 : 0 < b1) (hb2 : 0 < b2) (hl : (Nt.dig t1).length ≤ 400000 ∧ (Nt.dig b1).length ≤ 400000 ∧ (Nt.dig t2).length ≤ 400000 ∧ (Nt.dig b2).length ≤ 400000) (hok : Nt.Ok (t1 * t2) (b1 * b2)) :
    Calls Tryz.prog 121 #[v, v2] w fun e w' => ∃ v', e = .returned v' ∧ Rt.R w' v' (Rt.prodS s1 t1 b1 s2 t2 b2).1 (Rt.prodS s1 t1 b1 s2 t2 b2).2.1 (Rt.prodS s1 t1 b1 s2 t2 b2).2.2 ∧ Below w.heap.size w w' := by
  have KT := fun v v2 w h h2 => Nt.Times_any t1 t2 v v2 w h h2 hl.1 hl.2.2.1
  have KB := fun v v2 w h h2 => Nt.Times_any b1 b2 v v2 w h h2 hl.2.1 hl.2.2.2
  have KR := fun tv bv w h h2 => Rt.rat_any (s1 != s2) (t1 * t2) (b1 * b2) tv bv w h h2 (Nat.mul_pos hb1 hb2) hok
  have hdef : Rt.prodS s1 t1 b1 s2 t2 b2 = Rt.ratS (s1 != s2) (t1 * t2) (b1 * b2) := rfl
  rw [hdef]
  generalize Rt.ratS (s1 != s2) (t1 * t2) (b1 * b2) = rr at *
  generalize t1 * t2 = tt at *
  generalize b1 * b2 = bb at *
  obtain ⟨rs, rt, rb⟩ := rr
  simp only at KR ⊢
  clear hdef hok hb1 hb2 hl
  obtain ⟨tv1, bv1, rfl, hn1, hd1⟩ := h
  obtain ⟨tv2, bv2, rfl, hn2, hd2⟩ := h2
  obtain ⟨a1, c1, rfl⟩ := Nt.In.slice hn1
  obtain ⟨a2, c2, rfl⟩ := Nt.In.slice hd1
  obtain ⟨a3, c3, rfl⟩ := Nt.In.slice hn2
  obtain ⟨a4, c4, rfl⟩ := Nt.In.slice hd2
  generalize (Nt.dig t1).length = l1 at *
  generalize (Nt.dig b1).length = l2 at *
  generalize (Nt.dig t2).length = l3 at *
  generalize (Nt.dig b2).length = l4 at *
  obtain ⟨W2, hW2, q0, q1, q2, hsz, hb0⟩ := Rt.three w (.cells #[.bool s1, .slice a1 l1 c1, .slice a2 l2 c2] 24) (.cells #[.bool s2, .slice a3 l3 c3, .slice a4 l4 c4] 24) (.cells #[.bool false, .slice none 0 0, .slice none 0 0] 24)
  have HI := Lib.hid (fun (w' : World) (hb : Below W2.heap.size W2 w') => And.intro ((Nt.N.below hn1 hb0 (Nat.le_refl _)).below hb (Nat.le_refl _)) (And.intro ((Nt.N.below hd1 hb0 (Nat.le_refl _)).below hb (Nat.le_refl _)) (And.intro ((Nt.N.below hn2 hb0 (Nat.le_refl _)).below hb (Nat.le_refl _)) ((Nt.N.below hd2 hb0 (Nat.le_refl _)).below hb (Nat.le_refl _)))))
  have HK := Lib.hid (fun (w' : World) (hb : Below W2.heap.size W2 w') => And.intro (Rt.cells3 ((hb.block w.heap.size (by omega)).trans q0)) (Rt.cells3 ((hb.block (w.heap.size + 1) (by omega)).trans q1)))
  have HR := Lib.hid (fun (w' : World) (hb : Below W2.heap.size W2 w') => (hb.block (w.heap.size + 2) (by omega)).trans q2)
  have HKX := Lib.hid (fun (w' w'' : World) (hb : Below W2.heap.size W2 w') (hx : ∀ q, q ≠ w.heap.size + 2 → w''.heap[q]? = w'.heap[q]?) => And.intro (Rt.cells3 ((hx w.heap.size (by omega)).trans ((hb.block w.heap.size (by omega)).trans q0))) (Rt.cells3 ((hx (w.heap.size + 1) (by omega)).trans ((hb.block (w.heap.size + 1) (by omega)).trans q1))))
  have HB := Lib.hid (fun (w' : World) (hb : Below W2.heap.size W2 w') => hb0.trans (hb.mono (by omega : w.heap.size ≤ W2.heap.size)))
  have hacc : Below W2.heap.size W2 W2.drew := Rt.belowD (Below.refl _ _)
  have hkeep := HK.out _ hacc
  clear q0 q1 q2 hb0 hn1 hd1 hn2 hd2 hsz
  have hz : (s1 != s2) = (s1 != s2) := rfl
  go_enter Tryz.func121, Tryz.ntmps121
  go_wp2_with fail
  clear hW2
  go_region_held3 (fun w' => (w'.cell? ⟨w.heap.size, 0, none⟩ = some (.bool s1) ∧ w'.cell? ⟨w.heap.size, 1, none⟩ = some (.slice a1 l1 c1) ∧ w'.cell? ⟨w.heap.size, 2, none⟩ = some (.slice a2 l2 c2)) ∧ (w'.cell? ⟨w.heap.size + 1, 0, none⟩ = some (.bool s2) ∧ w'.cell? ⟨w.heap.size + 1, 1, none⟩ = some (.slice a3 l3 c3) ∧ w'.cell? ⟨w.heap.size + 1, 2, none⟩ = some (.slice a4 l4 c4)))
    (first | exact hkeep | exact hkeepX)
    (first
      | (go_at_call_of 167 (Value.slice a1 l1 c1)
         refine (KT _ _ _ (HI.out _ hacc).1 (HI.out _ hacc).2.2.1).mono ?_
         rintro x w5 ⟨v5, rfl, hv5, hb5⟩
         have hacc := Rt.belowT hacc hb5
         have hkeep := HK.out _ hacc)
      | (go_at_call_of 167 (Value.slice a2 l2 c2)
         refine (KB _ _ _ (HI.out _ hacc).2.1 (HI.out _ hacc).2.2.2).mono ?_
         rintro x w6 ⟨v6, rfl, hv6, hb6⟩
         have hv5 := Nt.N.below hv5 hb6 (Nat.le_refl _)
         have hacc := Rt.belowT hacc hb6
         have hkeep := HK.out _ hacc)
      | (go_at_call 84
         refine (KR _ _ _ hv5 hv6).mono ?_
         rintro x w7 ⟨v7, rfl, ⟨tv, bv, rfl, hn, hd⟩, hb7⟩
         obtain ⟨a5, c5, rfl⟩ := Nt.In.slice hn
         obtain ⟨a6, c6, rfl⟩ := Nt.In.slice hd
         have hacc := Rt.belowT hacc hb7
         have hkeep := HK.out _ hacc
         obtain ⟨X1, X2, X3, ⟨f0, z0, s0⟩, ⟨f1, z1, s1'⟩, ⟨f2, z2, s2'⟩, ⟨r0, r1, r2'⟩, HX⟩ := Rt.put3 (HR.out _ hacc) (.bool rs) (.slice a5 (Nt.dig rt).length c5) (.slice a6 (Nt.dig rb).length c6)
         have HOUT : Hid (Nt.N X3 (.slice a5 (Nt.dig rt).length c5) rt ∧ Nt.N X3 (.slice a6 (Nt.dig rb).length c6) rb ∧ Below w.heap.size w X3) := Lib.hid ⟨Nt.In.othr hn (HR.out _ hacc) Rt.noWords HX.out.2.2.1 HX.out.2.1, Nt.In.othr hd (HR.out _ hacc) Rt.noWords HX.out.2.2.1 HX.out.2.1, HX.out.2.2.2 _ _ (HB.out _ hacc) (by omega)⟩
         have hkeepX := HKX.out _ X3 hacc HX.out.2.2.1))
  all_goals
    clear hkeep hkeepX hacc hb5 hb6 hb7 hv5 hv6 hn hd HX
    generalize (Nt.dig rt).length = l5 at *
    generalize (Nt.dig rb).length = l6 at *
    go_wp2_with fail
    refine bodyPost_ret (v := .agg #[.bool rs, .slice a5 l5 c5, .slice a6 l6 c6]) (by simp [results, Tryz.results121, go_sem, r0, r1, r2']) rfl ⟨_, rfl, ⟨_, _, rfl, HOUT.out.1, HOUT.out.2.1⟩, HOUT.out.2.2⟩
end Go.Proofs.YtikmebkfdpbidaaGreatDoor
