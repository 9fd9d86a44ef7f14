/-
  nat.Over, nat.Divisor of numbers, where the divisor is one word. nat.Times of numbers. nat.Less of numbers.
-/
import Derived.Deep.LoopGhost
import Derived.Laws.Bits64
import Derived.Deep.RegionHeld3
import Derived.Test.YtdjllmogejkimaaGreatDoorProg
import Derived.WalkKit
import Derived.WalkSpells
import Derived.WalkLawsBesides
import Derived.Handy
import Derived.BigCall
import Derived.Lib.Hide
import Derived.Outline
import Derived.Test.YtdjllmogejkimaaGreatDoorQc
import Derived.Test.YtdjllmogejkimaaGreatDoorQb
import Derived.Test.YtdjllmogejkimaaGreatDoorQa
set_option linter.unusedVariables false
set_option linter.unusedSimpArgs false
namespace Go.Proofs.YtdjllmogejkimaaGreatDoor
open Go.RowKit

/-- The divisions by one word. -/
def Nt.Ok1 (m n : Nat) : Prop := n < 4294967296 ∧ (Nt.dig m).length ≤ 400000
/-- Which divisions are served. -/
def Nt.Ok (m n : Nat) : Prop := (Nt.dig n).length ≤ 400000 ∧ (Nt.dig m).length ≤ 400000
theorem Nt.dig_len_mono {m n : Nat} (h : m ≤ n) : (Nt.dig m).length ≤ (Nt.dig n).length := by
  rcases Nat.lt_or_ge (Nt.dig n).length (Nt.dig m).length with h1 | h1
  · have := Nt.dig_len_lt h1
    omega
  · exact h1
theorem Nt.dig_len_one {n : Nat} (h0 : 0 < n) (h : n < 4294967296) : (Nt.dig n).length = 1 := by rw [Nt.dig_small h0 h]; rfl
theorem Nt.Ok.step {m n : Nat} (h : Nt.Ok m n) (hn : 0 < n) : Nt.Ok n (m % n) :=
  ⟨Nat.le_trans (Nt.dig_len_mono (Nat.le_of_lt (Nat.mod_lt _ hn))) h.1, h.1⟩

set_option maxHeartbeats 4000000 in
set_option maxRecDepth 1000000 in
theorem Nt.Over_short (m n : Nat) (v v2 : Value) (w : World) (h : Nt.N w v m) (h2 : Nt.N w v2 n) (hn : 0 < n) (hok : Nt.Ok1 m n) : Calls Tryz.prog 86 #[v, v2] w fun e w' => ∃ q r, e = .returned (.tuple #[q, r]) ∧ Nt.N w' q (m / n) ∧ Nt.N w' r (m % n) ∧ Below w.heap.size w w' := by
  have hl1 := hok.2
  have hl2 := Nt.dig_len_one hn hok.1
  have KO := Nt.Order_any m n v v2 w h h2 (by omega) (by omega)
  obtain ⟨ad, cap, rfl⟩ := Nt.In.slice h
  obtain ⟨ad2, cap2, rfl⟩ := Nt.In.slice h2
  have H := Lib.hid h
  have H2 := Lib.hid h2
  have hn32 := hok.1
  clear h h2 hok
  by_cases hlt : m < n
  · rw [Nt.cmp_lt hlt] at KO
    have hq : m / n = 0 := Nat.div_eq_of_lt hlt
    have hr : m % n = m := Nat.mod_eq_of_lt hlt
    rw [hq, hr]
    have KC := fun w h => Nt.Clone_any (Nt.dig m) (.slice ad (Nt.dig m).length cap) w h (by omega)
    clear hq hr
    generalize (Nt.dig m).length = l at *
    generalize (Nt.dig n).length = l2 at *
    clear hlt hn hn32 hl2
    go_enter Tryz.func86, Tryz.ntmps86
    go_wp2_with fail
    refine KO.mono ?_
    rintro x w1 ⟨rfl, hb1⟩
    have HB1 := Lib.hid hb1
    clear hb1
    go_wp2_with fail
    refine (KC _ (H.out.below HB1.out (Nat.le_refl _))).mono ?_
    rintro x w2 ⟨v2, rfl, hi2, hb2⟩
    have HI2 := Lib.hid hi2
    have HB2 := Lib.hid (HB1.out.trans (hb2.mono HB1.out.size))
    clear hi2 hb2
    go_wp2_with fail
    go_ret2
    exact ⟨_, _, rfl, Nt.N.zero _, HI2.out, HB2.out⟩
  · have hc : ¬ Nt.cmp m n < 0 := fun h => hlt (Nt.cmp_neg.1 h)
    have hcd : decide (Nt.cmp m n < 0) = false := decide_eq_false hc
    have hdn := Nt.dig_small hn hn32
    obtain ⟨b2, o2, rfl, hl22, hcap2, hbl2, hcell2⟩ := Nt.In.at H2.out (by omega)
    have c2 := hcell2 0 (by omega)
    rw [hdn] at c2
    simp only [Nat.add_zero, List.getD_cons_zero] at c2
    rw [hl2] at *
    have KS := fun w h => Nt.short_ws (Nt.dig m) n (.slice ad (Nt.dig m).length cap) w h (Nt.dig_wd m) (by omega) hn hn32
    rw [Nt.val_dig] at KS
    have hml : m % n < 4294967296 := Nat.lt_trans (Nat.mod_lt _ hn) hn32
    have hnw : Nt.Wd [m % n] := fun x hx => by simp only [List.mem_singleton] at hx; omega
    have KN := fun v w h => Nt.norm_any [m % n] v w h hnw (by simp)
    rw [show Nt.val [m % n] = m % n by simp [Nt.val]] at KN
    have HA : Hid (∀ w : World, Nt.In (w.alloc (.cells #[.int .u32 (m % n : Nat)] 104)) (.slice (some ⟨w.heap.size, 0, none⟩) 1 1) [m % n] ∧ Below w.heap.size w (w.alloc (.cells #[.int .u32 (m % n : Nat)] 104))) := Lib.hid (fun w => by
      refine ⟨?_, (Below.refl _ _).alloc (Nat.le_refl _) _⟩
      have e : (#[.int .u32 (m % n : Nat)] : Array Value) = Nt.row [m % n] := by simp [Nt.row]
      rw [e]
      exact Nt.In.of_row (heap_alloc_new w _))
    generalize m % n = r at *
    generalize (Nt.dig m).length = l at *
    clear hcell2 hdn hc hlt hl22 hnw
    generalize Nt.cmp m n = cc at *
    go_enter Tryz.func86, Tryz.ntmps86
    go_wp2_with fail
    refine KO.mono ?_
    rintro x w1 ⟨rfl, hb1⟩
    have c3 := (hb1.cell (p := ⟨b2, o2, none⟩) hbl2).trans c2
    have HB1 := Lib.hid hb1
    clear hb1 c2
    go_wp2_with fail
    refine (KS _ (H.out.below HB1.out (Nat.le_refl _))).mono ?_
    rintro x w2 ⟨vq, rfl, hq2, hb2⟩
    have HQ2 := Lib.hid hq2
    have HB2 := Lib.hid (HB1.out.trans (hb2.mono HB1.out.size))
    clear hq2 hb2 c3
    go_wp2_with fail
    refine (KN _ _ (HA.out _).1).mono ?_
    rintro x w3 ⟨vr, rfl, hr3, hb3⟩
    have HR3 := Lib.hid hr3
    have hb3 := (HA.out w2).2.trans (hb3.mono (HA.out w2).2.size)
    have HQ3 := Lib.hid (HQ2.out.below hb3 (Nat.le_refl _))
    have HB3 := Lib.hid (HB2.out.trans (hb3.mono HB2.out.size))
    clear hr3 hb3
    go_wp2_with fail
    go_ret2
    exact ⟨_, _, rfl, HQ3.out, HR3.out, HB3.out⟩
set_option maxHeartbeats 4000000 in
set_option maxRecDepth 1000000 in
theorem Nt.Over_less (m n : Nat) (v v2 : Value) (w : World) (h : Nt.N w v m) (h2 : Nt.N w v2 n) (hlt : m < n) (hok : Nt.Ok m n) : Calls Tryz.prog 86 #[v, v2] w fun e w' => ∃ q r, e = .returned (.tuple #[q, r]) ∧ Nt.N w' q (m / n) ∧ Nt.N w' r (m % n) ∧ Below w.heap.size w w' := by
  have hl1 := hok.2
  have hl2 := hok.1
  have KO := Nt.Order_any m n v v2 w h h2 (by omega) (by omega)
  obtain ⟨ad, cap, rfl⟩ := Nt.In.slice h
  obtain ⟨ad2, cap2, rfl⟩ := Nt.In.slice h2
  have H := Lib.hid h
  clear h h2 hok
  rw [Nt.cmp_lt hlt] at KO
  have hq : m / n = 0 := Nat.div_eq_of_lt hlt
  have hr : m % n = m := Nat.mod_eq_of_lt hlt
  rw [hq, hr]
  have KC := fun w h => Nt.Clone_any (Nt.dig m) (.slice ad (Nt.dig m).length cap) w h (by omega)
  clear hq hr
  generalize (Nt.dig m).length = l at *
  generalize (Nt.dig n).length = l2 at *
  clear hlt hl2
  go_enter Tryz.func86, Tryz.ntmps86
  go_wp2_with fail
  refine KO.mono ?_
  rintro x w1 ⟨rfl, hb1⟩
  have HB1 := Lib.hid hb1
  clear hb1
  go_wp2_with fail
  refine (KC _ (H.out.below HB1.out (Nat.le_refl _))).mono ?_
  rintro x w2 ⟨v2, rfl, hi2, hb2⟩
  have HI2 := Lib.hid hi2
  have HB2 := Lib.hid (HB1.out.trans (hb2.mono HB1.out.size))
  clear hi2 hb2
  go_wp2_with fail
  go_ret2
  exact ⟨_, _, rfl, Nt.N.zero _, HI2.out, HB2.out⟩
theorem Nt.Over_any (m n : Nat) (v v2 : Value) (w : World) (h : Nt.N w v m) (h2 : Nt.N w v2 n) (hn : 0 < n) (hok : Nt.Ok m n) : Calls Tryz.prog 86 #[v, v2] w fun e w' => ∃ q r, e = .returned (.tuple #[q, r]) ∧ Nt.N w' q (m / n) ∧ Nt.N w' r (m % n) ∧ Below w.heap.size w w' := by
  rcases Nat.lt_or_ge n 4294967296 with h1 | h1
  · exact Nt.Over_short m n v v2 w h h2 hn ⟨h1, hok.2⟩
  · rcases Nat.lt_or_ge m n with h3 | h3
    · exact Nt.Over_less m n v v2 w h h2 h3 hok
    · exact Nt.Over_long m n v v2 w h h2 h1 h3 hok.2
set_option maxHeartbeats 4000000 in
set_option maxRecDepth 1000000 in
theorem Nt.Divisor_any (m n : Nat) (v v2 : Value) (w : World) (h : Nt.N w v m) (h2 : Nt.N w v2 n) (hok : Nt.Ok m n) : Calls Tryz.prog 119 #[v, v2] w fun e w' => ∃ v', e = .returned v' ∧ Nt.N w' v' (Nat.gcd m n) ∧ Below w.heap.size w w' := by
  obtain ⟨ad, cap, rfl⟩ := Nt.In.slice h
  obtain ⟨ad2, cap2, rfl⟩ := Nt.In.slice h2
  have H := Lib.hid h
  have H2 := Lib.hid h2
  have HOK := Lib.hid hok
  clear h h2 hok
  go_enter Tryz.func119, Tryz.ntmps119
  go_wp2_with fail
  go_loopg [0, 1] n (fun g va vb wr => ∃ a : Nat, Nt.N wr va a ∧ Nt.N wr vb g ∧ Nt.Ok a g ∧ Nat.gcd a g = Nat.gcd m n ∧ Below w.heap.size w wr)
  case atStart => exact ⟨m, H.out, H2.out, HOK.out, rfl, Below.refl _ _⟩
  case round =>
    obtain ⟨a, ha, hb, hok, hg, hbw⟩ := hrel
    obtain ⟨adA, capA, rfl⟩ := Nt.In.slice ha
    obtain ⟨adB, capB, rfl⟩ := Nt.In.slice hb
    obtain ⟨wo, hwo⟩ : ∃ z, z = wr := ⟨_, rfl⟩
    subst hwo
    have HA := Lib.hid ha
    have HB := Lib.hid hb
    have HK := Lib.hid hok
    have HG := Lib.hid hg
    have HBW := Lib.hid hbw
    clear ha hb hok hg hbw H H2 HOK
    rcases Nat.eq_zero_or_pos gk with h0 | h0
    · subst h0
      have hl0 : ((Nt.dig 0).length : Int) = 0 := by rw [Nt.dig_zero]; rfl
      have KC := fun w h => Nt.Clone_any (Nt.dig a) (.slice adA (Nt.dig a).length capA) w h (by have := HK.out.2; omega)
      have hga : a = Nat.gcd m n := by have := HG.out; rwa [Nat.gcd_zero_right] at this
      have HGA := Lib.hid hga
      clear hga
      generalize (Nt.dig a).length = l at *
      go_wp2_with fail
      refine (KC _ HA.out).mono ?_
      rintro x w2 ⟨v2, rfl, hi2, hb2⟩
      have HI2 := Lib.hid hi2
      have HB2 := Lib.hid (HBW.out.trans (hb2.mono HBW.out.size))
      clear hi2 hb2
      go_wp2_with fail
      go_ret
      exact ⟨_, rfl, HGA.out ▸ HI2.out, HB2.out⟩
    · have hl1 := Nt.dig_len_pos.2 h0
      have KO := Nt.Over_any a gk _ _ wo HA.out HB.out h0 HK.out
      have hlp : ((Nt.dig gk).length : Int) > 0 := by omega
      have HL1 := Lib.hid hl1
      clear hl1
      go_wp2_with fail
      refine KO.mono ?_
      rintro x w2 ⟨q, r, rfl, hq2, hr2, hb2⟩
      have HR2 := Lib.hid hr2
      have HB2 := Lib.hid (HB.out.below hb2 (Nat.le_refl _))
      have HBB := Lib.hid (HBW.out.trans (hb2.mono HBW.out.size))
      clear hq2 hr2 hb2
      go_wp2_with fail
      go_roundg (a % gk)
      case measure => exact Nat.mod_lt _ h0
      case rel => exact ⟨gk, HB2.out, HR2.out, HK.out.step h0, by rw [Nt.gcd_step, HG.out], HBB.out⟩

set_option maxHeartbeats 4000000 in
set_option maxRecDepth 1000000 in
theorem Nt.times_ws (a b : List Nat) (v v2 : Value) (w : World) (h : Nt.In w v a) (h2 : Nt.In w v2 b) (ha : Nt.Wd a) (hb : Nt.Wd b) (hl : a.length ≤ 400000) (hll : b.length ≤ 400000) : Calls Tryz.prog 85 #[v, v2] w fun e w' => ∃ v', e = .returned v' ∧ Nt.N w' v' (Nt.val a * Nt.val b) ∧ Below w.heap.size w w' := by
  obtain ⟨ad, cap, rfl⟩ := h.slice
  obtain ⟨ad2, cap2, rfl⟩ := h2.slice
  have H := Lib.hid h
  have H2 := Lib.hid h2
  have HA := Lib.hid ha
  have HB := Lib.hid hb
  have hmk := Nt.make (a.length + b.length) w (by omega)
  have hcast : (((a.length + b.length : Nat) : Int)) = (a.length : Int) + (b.length : Int) := by omega
  rw [hcast] at hmk
  clear h h2 ha hb hcast
  obtain ⟨T, hT⟩ : ∃ T, w.heap.size = T := ⟨_, rfl⟩
  obtain ⟨w2, hw2⟩ : ∃ z, w.alloc (.cells (Nt.row (List.replicate (a.length + b.length) 0)) 104) = z := ⟨_, rfl⟩
  have q2 : w2.heap[T]? = some (.cells (Nt.row (List.replicate (a.length + b.length) 0)) 104 (0, 0)) := by rw [← hw2, ← hT]; exact heap_alloc_new w _
  have hb2 : Below w.heap.size w w2 := hw2 ▸ (Below.refl _ _).alloc (Nat.le_refl _) _
  rw [hT, hw2] at hmk
  have HT := Lib.hid hT
  have HB2 := Lib.hid hb2
  have HQ2 := Lib.hid q2
  clear hT hw2 hb2 q2
  go_enter Tryz.func85, Tryz.ntmps85
  go_wp2_with fail
  go_loopw [19] (fun i wr => ∃ (k : Nat) (ws : List Nat), i = .int .i64 k ∧ k ≤ a.length ∧ ws.length = a.length + b.length ∧ Nt.Wd ws ∧ (∀ j, k + b.length ≤ j → ws.getD j 0 = 0) ∧ Nt.val ws = Nt.val (a.take k) * Nt.val b ∧ wr.heap[T]? = some (.cells (Nt.row ws) 104 (0, 0)) ∧ Below w.heap.size w wr) (fun i _ => a.length - (intOf i).toNat)
  case atStart => exact ⟨0, List.replicate (a.length + b.length) 0, rfl, Nat.zero_le _, by simp, Nt.Wd.zeros _, fun j _ => Nt.zeros_getD _ _, by rw [Nt.val_replicate]; simp [Nt.val], HQ2.out, HB2.out⟩
  case round =>
    obtain ⟨k, ws, rfl, hk, hwl, hwd, hz, hval, hq, hbw⟩ := hrel
    obtain ⟨wo, hwo⟩ : ∃ z, z = wr := ⟨_, rfl⟩
    subst hwo
    have HZ := Lib.hid hz
    have HWD := Lib.hid hwd
    have HV := Lib.hid hval
    have HQ := Lib.hid hq
    have HBW := Lib.hid hbw
    have HWL := Lib.hid hwl
    clear hz hwd hval hq hbw hwl
    by_cases hlt : k < a.length
    · obtain ⟨b1, o1, rfl, _, hcap1, hbl1, hcell1⟩ := (H.out.below HBW.out (Nat.le_refl _)).at (by omega)
      have c1 := hcell1 k hlt
      have hxb := HA.out.getD k
      have HEND : Hid (∀ (us : List Nat) (c : Nat), us.length = a.length + b.length → us.getD (k + b.length) 0 = 0 → Nt.val us + 4294967296 ^ (k + b.length) * c = Nt.val (a.take k) * Nt.val b + 4294967296 ^ k * (a.getD k 0 * Nt.val (b.take b.length)) → Nt.val (us.set (k + b.length) c) = Nt.val (a.take (k + 1)) * Nt.val b) := Lib.hid (fun us c hl2 hz2 h => Nt.times_end h (by omega) hz2)
      clear hcell1
      generalize a.getD k 0 = x at *
      have HX := Lib.hid hxb
      clear hxb
      go_wp2_with fail
      go_loopw [8, 26] (fun cv i wr => ∃ (j c : Nat) (us : List Nat), i = .int .i64 j ∧ cv = .int .u64 c ∧ j ≤ b.length ∧ c < 4294967296 ∧ us.length = a.length + b.length ∧ Nt.Wd us ∧ (∀ t, k + b.length ≤ t → us.getD t 0 = 0) ∧ Nt.val us + 4294967296 ^ (k + j) * c = Nt.val (a.take k) * Nt.val b + 4294967296 ^ k * (x * Nt.val (b.take j)) ∧ wr.heap[T]? = some (.cells (Nt.row us) 104 (0, 0)) ∧ Below w.heap.size w wr) (fun _ i _ => b.length - (intOf i).toNat)
      case atStart => exact ⟨0, 0, ws, rfl, rfl, Nat.zero_le _, by decide, HWL.out, HWD.out, HZ.out, by rw [HV.out]; simp [Nt.val], HQ.out, HBW.out⟩
      case round =>
        obtain ⟨j, c, us, rfl, rfl, hj, hc, hul, hud, huz, huv, huq, hub⟩ := hrel
        obtain ⟨wi, hwi⟩ : ∃ z, z = wr := ⟨_, rfl⟩
        subst hwi
        clear HZ HWD HV HQ HBW HWL c1
        have HZ := Lib.hid huz
        have HWD := Lib.hid hud
        have HV := Lib.hid huv
        have HQ := Lib.hid huq
        have HBW := Lib.hid hub
        have HWL := Lib.hid hul
        clear huz hud huv huq hub hul
        by_cases hlt2 : j < b.length
        · obtain ⟨b2, o2, rfl, _, hcap2, hbl2, hcell2⟩ := (H2.out.below HBW.out (Nat.le_refl _)).at (by omega)
          have c2 := hcell2 j hlt2
          have hyb := HB.out.getD j
          have hob := HWD.out.getD (k + j)
          have hstep := Nt.times_step (ws := us) (b := b) (i := k) (j := j) (c := c) (x := x) HV.out (by have := HWL.out; omega)
          have hbd := Nt.times_bd hc HX.out hyb hob
          have c3 := Nt.cell_row HQ.out (k + j) (by have := HWL.out; omega)
          have HSTEP := Lib.hid hstep
          clear hcell2 hstep
          generalize b.getD j 0 = y at *
          have HO : Hid (us.getD (k + j) 0 = us.getD (k + j) 0) := Lib.hid rfl
          generalize us.getD (k + j) 0 = o at *
          have hmul : ((x : Int) * (y : Int)) % 18446744073709551616 = ((x * y : Nat) : Int) := by
            have h1 : x * y < 18446744073709551616 := by omega
            rw [← Int.natCast_mul]
            omega
          obtain ⟨p, hp⟩ : ∃ p, x * y = p := ⟨_, rfl⟩
          rw [hp] at hmul hbd HSTEP
          have hs1 : ((p : Int) + (o : Int)) % 18446744073709551616 = (p : Int) + (o : Int) := by omega
          have hs2 : ((c : Int) + ((p : Int) + (o : Int))) % 18446744073709551616 = ((c + p + o : Nat) : Int) := by omega
          obtain ⟨s, hs⟩ : ∃ s, c + p + o = s := ⟨_, rfl⟩
          rw [hs] at hs2 hbd HSTEP
          obtain ⟨lo, hlo⟩ : ∃ lo, s % 4294967296 = lo := ⟨_, rfl⟩
          obtain ⟨hi, hhi⟩ : ∃ hi, s / 4294967296 = hi := ⟨_, rfl⟩
          rw [hlo, hhi] at HSTEP
          rw [hhi] at hbd
          have g1 : IntKind.u64.wrap (x : Int) = (x : Int) := by rw [IntKind.wrap_u64]; have := HX.out; omega
          have g2 : IntKind.u64.wrap (y : Int) = (y : Int) := by rw [IntKind.wrap_u64]; omega
          have g3 : IntKind.u64.wrap ((x : Int) * (y : Int)) = (p : Int) := by rw [IntKind.wrap_u64]; exact hmul
          have g4 : IntKind.u64.wrap ((p : Int) + (o : Int)) = (p : Int) + (o : Int) := by rw [IntKind.wrap_u64]; exact hs1
          have g5 : IntKind.u64.wrap ((c : Int) + ((p : Int) + (o : Int))) = (s : Int) := by rw [IntKind.wrap_u64]; exact hs2
          have hloI : (s : Int) % 4294967296 = (lo : Int) := by rw [← hlo]; rfl
          have hhiI : (s : Int) / 4294967296 = (hi : Int) := by rw [← hhi]; rfl
          have hlol : lo < 4294967296 := by omega
          obtain ⟨W, hW, e1, e2, hQ9, hB9, hS9⟩ := Nt.store HQ.out (k + j) lo (by have := HWL.out; omega) HBW.out (by have := HT.out; omega)
          have HNX : Hid (∀ t, k + b.length ≤ t → (us.set (k + j) lo).getD t 0 = 0) := Lib.hid (fun t ht => by rw [Nt.getD_set_ne us (k + j) t lo (by omega)]; exact HZ.out t ht)
          have HR := Lib.hid (And.intro hbd.2 (And.intro hlol (And.intro hQ9 hB9)))
          have hkj : (k : Int) + (j : Int) < (a.length : Int) + (b.length : Int) := by omega
          clear hp hs hlo hhi hbd hlol hQ9 hB9 hS9 hyb hob HO
          go_wp2_with fail
          go_roundw
          case rel => exact ⟨j + 1, hi, _, by first | rfl | go_num | (simp; try omega), by first | rfl | rw [hhiI], by omega, HR.out.1, by rw [List.length_set]; exact HWL.out, HWD.out.set _ _ HR.out.2.1, HNX.out, HSTEP.out, HR.out.2.2.1, HR.out.2.2.2⟩
          case measure => simp [intOf]; omega
        · obtain rfl : j = b.length := by omega
          have hval := HEND.out us c HWL.out (HZ.out _ (Nat.le_refl _)) HV.out
          obtain ⟨W, hW, e1, e2, hQ9, hB9, hS9⟩ := Nt.store HQ.out (k + b.length) c (by have := HWL.out; omega) HBW.out (by have := HT.out; omega)
          have HNX : Hid (∀ t, k + 1 + b.length ≤ t → (us.set (k + b.length) c).getD t 0 = 0) := Lib.hid (fun t ht => by rw [Nt.getD_set_ne us (k + b.length) t c (by omega)]; exact HZ.out t (by omega))
          have HR := Lib.hid (And.intro hval (And.intro hQ9 hB9))
          have hkj : (k : Int) + (b.length : Int) < (a.length : Int) + (b.length : Int) := by omega
          have hcw : (c : Int) % 4294967296 = (c : Int) := by omega
          have hnlt : decide ((b.length : Int) < (b.length : Int)) = false := decide_eq_false (by omega)
          clear hval hQ9 hB9 hS9
          go_wp2_with fail
          go_roundw
          case rel => exact ⟨k + 1, _, by first | rfl | go_num | (simp; try omega), by omega, by rw [List.length_set]; exact HWL.out, HWD.out.set _ _ hc, HNX.out, HR.out.1, HR.out.2.1, HR.out.2.2⟩
          case measure => simp [intOf]; omega
    · obtain rfl : k = a.length := by omega
      have hval := HV.out
      rw [List.take_length] at hval
      have hin : Nt.In wo (.slice (some ⟨T, 0, none⟩) (a.length + b.length) (a.length + b.length)) ws := by
        have := Nt.In.of_row HQ.out
        rw [HWL.out] at this
        exact this
      have KN := Nt.norm_any ws _ wo hin HWD.out (by have := HWL.out; omega)
      rw [hval] at KN
      have hnlt : decide ((a.length : Int) < (a.length : Int)) = false := decide_eq_false (by omega)
      clear hval hin
      go_wp2_with fail
      refine KN.mono ?_
      rintro z w8 ⟨v8, rfl, hn8, hb8⟩
      have HN8 := Lib.hid hn8
      have HB8 := Lib.hid (HBW.out.trans (hb8.mono HBW.out.size))
      clear hn8 hb8
      go_wp2_with fail
      go_ret
      exact ⟨_, rfl, HN8.out, HB8.out⟩

theorem Nt.less_end {a b ws : List Nat} {n c : Nat} (hw : Nt.Wd ws) (hl : ws.length = n) (h : Nt.val ws + Nt.val b = Nt.val a + 4294967296 ^ n * c) (hab : Nt.val b ≤ Nt.val a) : Nt.val ws = Nt.val a - Nt.val b := by
  have h1 := Nt.val_lt ws hw
  rw [hl] at h1
  rcases Nat.eq_zero_or_pos c with h0 | h0
  · subst h0; omega
  · have : 4294967296 ^ n * 1 ≤ 4294967296 ^ n * c := Nat.mul_le_mul_left _ h0
    omega
set_option maxHeartbeats 4000000 in
set_option maxRecDepth 1000000 in
theorem Nt.less_ws (a b : List Nat) (v v2 : Value) (w : World) (h : Nt.In w v a) (h2 : Nt.In w v2 b) (ha : Nt.Wd a) (hb : Nt.Wd b) (hl : a.length ≤ 500000) (hll : b.length ≤ a.length) (hab : Nt.val b ≤ Nt.val a) : Calls Tryz.prog 89 #[v, v2] w fun e w' => ∃ v', e = .returned v' ∧ Nt.N w' v' (Nt.val a - Nt.val b) ∧ Below w.heap.size w w' := by
  obtain ⟨ad, cap, rfl⟩ := h.slice
  obtain ⟨ad2, cap2, rfl⟩ := h2.slice
  have H := Lib.hid h
  have H2 := Lib.hid h2
  have HA := Lib.hid ha
  have HB := Lib.hid hb
  have hmk := Nt.make a.length w (by omega)
  clear h h2 ha hb
  obtain ⟨T, hT⟩ : ∃ T, w.heap.size = T := ⟨_, rfl⟩
  obtain ⟨w2, hw2⟩ : ∃ z, w.alloc (.cells (Nt.row (List.replicate a.length 0)) 104) = z := ⟨_, rfl⟩
  have q2 : w2.heap[T]? = some (.cells (Nt.row (List.replicate a.length 0)) 104 (0, 0)) := by rw [← hw2, ← hT]; exact heap_alloc_new w _
  have hb2 : Below w.heap.size w w2 := hw2 ▸ (Below.refl _ _).alloc (Nat.le_refl _) _
  rw [hT, hw2] at hmk
  have HT := Lib.hid hT
  have HB2 := Lib.hid hb2
  have HQ2 := Lib.hid q2
  clear hT hw2 hb2 q2
  go_enter Tryz.func89, Tryz.ntmps89
  go_wp2_with fail
  go_loopw [6, 14] (fun cv i wr => ∃ (k c : Nat) (ws : List Nat), i = .int .i64 k ∧ cv = .int .u32 c ∧ k ≤ a.length ∧ c ≤ 1 ∧ ws.length = a.length ∧ Nt.Wd ws ∧ (∀ j, k ≤ j → ws.getD j 0 = 0) ∧ Nt.val (ws.take k) + Nt.val (b.take k) = Nt.val (a.take k) + 4294967296 ^ k * c ∧ wr.heap[T]? = some (.cells (Nt.row ws) 104 (0, 0)) ∧ Below w.heap.size w wr) (fun _ i _ => a.length - (intOf i).toNat)
  case atStart => exact ⟨0, 0, List.replicate a.length 0, rfl, rfl, Nat.zero_le _, by decide, by simp, Nt.Wd.zeros _, fun j _ => Nt.zeros_getD _ _, by simp [Nt.val], HQ2.out, HB2.out⟩
  case round =>
    obtain ⟨k, c, ws, rfl, rfl, hk, hc1, hwl, hwd, hz, hval, hq, hbw⟩ := hrel
    obtain ⟨wo, hwo⟩ : ∃ z, z = wr := ⟨_, rfl⟩
    subst hwo
    have HZ := Lib.hid hz
    have HWD := Lib.hid hwd
    have HV := Lib.hid hval
    have HQ := Lib.hid hq
    have HBW := Lib.hid hbw
    have HWL := Lib.hid hwl
    clear hz hwd hval hq hbw hwl
    by_cases hlt : k < a.length
    · obtain ⟨b1, o1, rfl, _, hcap1, hbl1, hcell1⟩ := (H.out.below HBW.out (Nat.le_refl _)).at (by omega)
      have c1 := hcell1 k hlt
      have hxb := HA.out.getD k
      have hyb := HB.out.getD k
      have hz0 : ws.getD k 0 = 0 := HZ.out k (Nat.le_refl _)
      have hyb2 : k < b.length → ∃ b2 o2, ad2 = some ⟨b2, o2, none⟩ ∧ wo.cell? ⟨b2, o2 + k, none⟩ = some (.int .u32 (b.getD k 0 : Nat)) := fun h => by
        obtain ⟨b2, o2, e, _, _, _, hcell2⟩ := (H2.out.below HBW.out (Nat.le_refl _)).at (by omega)
        exact ⟨b2, o2, e, hcell2 k h⟩
      have hyb3 : ¬ k < b.length → b.getD k 0 = 0 := fun h => Nt.getD_ge b k (by omega)
      have HY2 := Lib.hid hyb2
      have HY3 := Lib.hid hyb3
      clear hcell1 hyb2 hyb3
      have HX := Lib.hid (And.intro hxb hyb)
      have HSTEP : Hid (∀ d c' : Nat, d + b.getD k 0 + c = a.getD k 0 + 4294967296 * c' → Nt.val ((ws.set k d).take (k + 1)) + Nt.val (b.take (k + 1)) = Nt.val (a.take (k + 1)) + 4294967296 ^ (k + 1) * c') := Lib.hid (fun d c' hd => Nt.less_step HV.out (by have := HWL.out; omega) hxb hyb hc1 hd)
      clear hxb hyb hz0
      generalize a.getD k 0 = x at *
      generalize b.getD k 0 = y at *
      have KA := fun w => Nt.Sub32_any x y c w HX.out.1 HX.out.2 hc1
      have HNX : Hid (∀ s j, k + 1 ≤ j → (ws.set k s).getD j 0 = 0) := Lib.hid (fun s j hj => by rw [Nt.getD_set_ne ws k j s (by omega)]; exact HZ.out j (by omega))
      have HST : Hid (∀ s : Nat, ∃ W, wo.setCell ⟨T, k, none⟩ (.int .u32 (s : Int)) = W ∧ wo.cell? ⟨T, k, none⟩ = some (.int .u32 (ws.getD k 0 : Nat)) ∧ wo.frozen? ⟨T, k, none⟩ = false ∧ W.heap[T]? = some (.cells (Nt.row (ws.set k s)) 104 (0, 0)) ∧ Below w.heap.size w W ∧ W.heap.size = wo.heap.size) := Lib.hid (fun s => Nt.store HQ.out k s (by have := HWL.out; omega) HBW.out (by have := HT.out; omega))
      by_cases hlt2 : k < b.length
      · obtain ⟨b2, o2, rfl, c2⟩ := HY2.out hlt2
        have hlt2I : (k : Int) < (b.length : Int) := by omega
        go_wp2_with fail
        refine (KA _).mono ?_
        rintro z wz ⟨s, c', rfl, hs, hc', hd, hwz⟩
        subst hwz
        obtain ⟨W, hW, e1, e2, hQ9, hB9, hS9⟩ := HST.out s
        have HR := Lib.hid (And.intro hs (And.intro hc' (And.intro (HSTEP.out s c' hd) (And.intro hQ9 hB9))))
        clear hs hd hQ9 hB9
        go_wp2_with fail
        go_roundw
        case rel => exact ⟨k + 1, _, _, by first | rfl | go_num | (simp; try omega), rfl, by omega, HR.out.2.1, by rw [List.length_set]; exact HWL.out, HWD.out.set k s HR.out.1, HNX.out s, HR.out.2.2.1, HR.out.2.2.2.1, HR.out.2.2.2.2⟩
        case measure => simp [intOf]; omega
      · obtain rfl := HY3.out hlt2
        have hlt2I : ¬ (k : Int) < (b.length : Int) := by omega
        go_wp2_with fail
        refine (KA _).mono ?_
        rintro z wz ⟨s, c', rfl, hs, hc', hd, hwz⟩
        subst hwz
        obtain ⟨W, hW, e1, e2, hQ9, hB9, hS9⟩ := HST.out s
        have HR := Lib.hid (And.intro hs (And.intro hc' (And.intro (HSTEP.out s c' hd) (And.intro hQ9 hB9))))
        clear hs hd hQ9 hB9
        go_wp2_with fail
        go_roundw
        case rel => exact ⟨k + 1, _, _, by first | rfl | go_num | (simp; try omega), rfl, by omega, HR.out.2.1, by rw [List.length_set]; exact HWL.out, HWD.out.set k s HR.out.1, HNX.out s, HR.out.2.2.1, HR.out.2.2.2.1, HR.out.2.2.2.2⟩
        case measure => simp [intOf]; omega
    · obtain rfl : k = a.length := by omega
      have hlenw := HWL.out
      have hval : Nt.val ws = Nt.val a - Nt.val b := by
        have h2 := HV.out
        rw [List.take_length, List.take_of_length_le hll, List.take_of_length_le (by omega)] at h2
        exact Nt.less_end HWD.out hlenw h2 hab
      have hin : Nt.In wo (.slice (some ⟨T, 0, none⟩) a.length a.length) ws := by
        have := Nt.In.of_row HQ.out
        rw [hlenw] at this
        exact this
      have KN := Nt.norm_any ws _ wo hin HWD.out (by omega)
      rw [hval] at KN
      have hnlt : decide ((a.length : Int) < (a.length : Int)) = false := decide_eq_false (by omega)
      clear hval hin hlenw
      go_wp2_with fail
      refine KN.mono ?_
      rintro z w8 ⟨v8, rfl, hn8, hb8⟩
      have HN8 := Lib.hid hn8
      have HB8 := Lib.hid (HBW.out.trans (hb8.mono HBW.out.size))
      clear hn8 hb8
      go_wp2_with fail
      go_ret
      exact ⟨_, rfl, HN8.out, HB8.out⟩

theorem Rt.cell_of {w : World} {b : Nat} {C : Array Value} {t : TypeId} (h : w.heap[b]? = some (.cells C t (0, 0))) (k : Nat) : w.cell? ⟨b, k, none⟩ = C[k]? := by
  simp [World.cell?, h]
theorem Rt.setCells {w : World} {b : Nat} {C : Array Value} {t : TypeId} (h : w.heap[b]? = some (.cells C t (0, 0))) (k : Nat) (u : Value) : (w.setCell ⟨b, k, none⟩ u).heap[b]? = some (.cells (C.set! k u) t (0, 0)) := by
  obtain ⟨hlt, hk⟩ := Array.getElem?_eq_some_iff.1 h
  show (w.heap.modify b _)[b]? = _
  rw [Array.getElem?_eq_getElem (by rw [Array.size_modify]; exact hlt), Array.getElem_modify_self, hk]
  rfl
theorem Rt.frozen_of {w : World} {b : Nat} {C : Array Value} {t : TypeId} (h : w.heap[b]? = some (.cells C t (0, 0))) (k : Nat) : w.frozen? ⟨b, k, none⟩ = false := by
  simp [World.frozen?, h]
/-- Three cells are stored. -/
theorem Rt.put3 {w : World} {b : Nat} {v0 v1 v2 : Value} {t : TypeId} (h : w.heap[b]? = some (.cells #[v0, v1, v2] t (0, 0))) (u0 u1 u2 : Value) :
    ∃ W1 W2 W3 : World,
    (w.cell? ⟨b, 0, none⟩ = some v0 ∧ w.frozen? ⟨b, 0, none⟩ = false ∧ w.setCell ⟨b, 0, none⟩ u0 = W1) ∧
    (W1.cell? ⟨b, 1, none⟩ = some v1 ∧ W1.frozen? ⟨b, 1, none⟩ = false ∧ W1.setCell ⟨b, 1, none⟩ u1 = W2) ∧
    (W2.cell? ⟨b, 2, none⟩ = some v2 ∧ W2.frozen? ⟨b, 2, none⟩ = false ∧ W2.setCell ⟨b, 2, none⟩ u2 = W3) ∧
    (W3.cell? ⟨b, 0, none⟩ = some u0 ∧ W3.cell? ⟨b, 1, none⟩ = some u1 ∧ W3.cell? ⟨b, 2, none⟩ = some u2) ∧
    Hid (W3.heap[b]? = some (.cells #[u0, u1, u2] t (0, 0)) ∧ W3.heap.size = w.heap.size ∧ (∀ q, q ≠ b → W3.heap[q]? = w.heap[q]?) ∧ ∀ (B : Nat) (w0 : World), Below B w0 w → B ≤ b → Below B w0 W3) := by
  have h1 : (w.setCell ⟨b, 0, none⟩ u0).heap[b]? = some (.cells #[u0, v1, v2] t (0, 0)) := Rt.setCells h 0 u0
  have h2 : ((w.setCell ⟨b, 0, none⟩ u0).setCell ⟨b, 1, none⟩ u1).heap[b]? = some (.cells #[u0, u1, v2] t (0, 0)) := Rt.setCells h1 1 u1
  have h3 : (((w.setCell ⟨b, 0, none⟩ u0).setCell ⟨b, 1, none⟩ u1).setCell ⟨b, 2, none⟩ u2).heap[b]? = some (.cells #[u0, u1, u2] t (0, 0)) := Rt.setCells h2 2 u2
  refine ⟨_, _, _, ⟨Rt.cell_of h 0, Rt.frozen_of h 0, rfl⟩, ⟨Rt.cell_of h1 1, Rt.frozen_of h1 1, rfl⟩, ⟨Rt.cell_of h2 2, Rt.frozen_of h2 2, rfl⟩, ⟨Rt.cell_of h3 0, Rt.cell_of h3 1, Rt.cell_of h3 2⟩, Lib.hid ⟨h3, by simp, fun q hq => ?_, fun B w0 hb hB => ?_⟩⟩
  · rw [Below.heap_setCell _ ⟨b, 2, none⟩ _ q hq, Below.heap_setCell _ ⟨b, 1, none⟩ _ q hq, Below.heap_setCell _ ⟨b, 0, none⟩ _ q hq]
  · exact ((hb.setCell (p := ⟨b, 0, none⟩) hB _).setCell (p := ⟨b, 1, none⟩) hB _).setCell (p := ⟨b, 2, none⟩) hB _
/-- A row of words stays when another block, of other things, is stored into. -/
theorem Nt.In.othr {w w' : World} {v : Value} {ws : List Nat} {r : Nat} {C : Array Value} {t : TypeId} (h : Nt.In w v ws) (hr : w.heap[r]? = some (.cells C t (0, 0))) (hC : ∀ (k : Nat) (n : Int), C[k]? ≠ some (.int .u32 n)) (hk : ∀ q, q ≠ r → w'.heap[q]? = w.heap[q]?) (hs : w'.heap.size = w.heap.size) : Nt.In w' v ws := by
  rcases h with h | h | ⟨h0, b, off, cap, hv, hc, hl, hcell⟩
  · exact .inl h
  · exact .inr (.inl h)
  · have hb : b ≠ r := by
      rintro rfl
      have := hcell 0 h0
      rw [Rt.cell_of hr] at this
      exact hC _ _ this
    exact .inr (.inr ⟨h0, b, off, cap, hv, hc, by omega, fun j hj => (World.cell?_of_block (a := ⟨b, off + j, none⟩) (hk b hb)).trans (hcell j hj)⟩)

/-- A fraction's value: its sign, what is above, what is below. -/
def Rt.R (w : World) (v : Value) (s : Bool) (t b : Nat) : Prop := ∃ tv bv, v = .agg #[.bool s, tv, bv] ∧ Nt.N w tv t ∧ Nt.N w bv b
theorem Rt.R.below {w w' : World} {v : Value} {s : Bool} {t b B : Nat} (h : Rt.R w v s t b) (hb : Below B w w') (hB : w.heap.size ≤ B) : Rt.R w' v s t b := by
  obtain ⟨tv, bv, hv, h1, h2⟩ := h
  exact ⟨tv, bv, hv, h1.below hb hB, h2.below hb hB⟩
/-- Cells of a fraction hold no words. -/
theorem Rt.noWords {s : Bool} {a1 a2 : Option Addr} {n1 n2 c1 c2 : Nat} : ∀ (k : Nat) (n : Int), (#[Value.bool s, .slice a1 n1 c1, .slice a2 n2 c2] : Array Value)[k]? ≠ some (.int .u32 n) := by
  intro k n h
  have hm := Array.mem_of_getElem? h
  simp at hm
def Rt.ratS (neg : Bool) (t b : Nat) : Bool × Nat × Nat := (neg && decide (0 < t / Nat.gcd t b), t / Nat.gcd t b, b / Nat.gcd t b)
theorem Rt.ok_gcd {t b : Nat} (h : Nt.Ok t b) (hb : 0 < b) : 0 < Nat.gcd t b ∧ Nt.Ok t (Nat.gcd t b) ∧ Nt.Ok b (Nat.gcd t b) := by
  have h1 : Nat.gcd t b ≤ b := Nat.gcd_le_right _ hb
  exact ⟨Nat.gcd_pos_of_pos_right _ hb, ⟨Nat.le_trans (Nt.dig_len_mono h1) h.1, h.2⟩, ⟨Nat.le_trans (Nt.dig_len_mono h1) h.1, h.1⟩⟩

set_option maxHeartbeats 4000000 in
set_option maxRecDepth 1000000 in
theorem Rt.rat_any (neg : Bool) (t b : Nat) (tv bv : Value) (w : World) (h : Nt.N w tv t) (h2 : Nt.N w bv b) (hb : 0 < b) (hok : Nt.Ok t b) : Calls Tryz.prog 84 #[.bool neg, tv, bv] w fun e w' => ∃ v', e = .returned v' ∧ Rt.R w' v' (Rt.ratS neg t b).1 (Rt.ratS neg t b).2.1 (Rt.ratS neg t b).2.2 ∧ Below w.heap.size w w' := by
  obtain ⟨hg0, hg1, hg2⟩ := Rt.ok_gcd hok hb
  have hdef : Rt.ratS neg t b = (neg && decide (0 < t / Nat.gcd t b), t / Nat.gcd t b, b / Nat.gcd t b) := rfl
  rw [hdef]
  have KD := fun w h h2 => Nt.Divisor_any t b tv bv w h h2 hok
  generalize Nat.gcd t b = g at *
  have KO1 := fun v v2 w h h2 => Nt.Over_any t g v v2 w h h2 hg0 hg1
  have KO2 := fun v v2 w h h2 => Nt.Over_any b g v v2 w h h2 hg0 hg2
  obtain ⟨ad, cap, rfl⟩ := Nt.In.slice h
  obtain ⟨ad2, cap2, rfl⟩ := Nt.In.slice h2
  have hpos : (0 < t / g) ↔ 0 < (Nt.dig (t / g)).length := Nt.dig_len_pos.symm
  have H := Lib.hid h
  have H2 := Lib.hid h2
  obtain ⟨W2, hW2⟩ : ∃ z, w.alloc (.cells #[.bool false, .slice none 0 0, .slice none 0 0] 32) = z := ⟨_, rfl⟩
  have q0 : W2.heap[w.heap.size]? = some (.cells #[.bool false, .slice none 0 0, .slice none 0 0] 32 (0, 0)) := hW2 ▸ heap_alloc_new w _
  have hb0 : Below w.heap.size w W2 := hW2 ▸ (Below.refl _ _).alloc (Nat.le_refl _) _
  have hsz : w.heap.size < W2.heap.size := (Array.getElem?_eq_some_iff.1 q0).1
  have HIN := Lib.hid (fun (w' : World) (hb : Below W2.heap.size W2 w') => And.intro (Nt.N.below (Nt.N.below H.out hb0 (Nat.le_refl _)) hb (Nat.le_refl _)) (Nt.N.below (Nt.N.below H2.out hb0 (Nat.le_refl _)) hb (Nat.le_refl _)))
  have HR := Lib.hid (fun (w' : World) (hb : Below W2.heap.size W2 w') => (hb.block w.heap.size hsz).trans q0)
  have HB := Lib.hid (fun (w' : World) (hb : Below W2.heap.size W2 w') => hb0.trans (hb.mono (Nat.le_of_lt hsz)))
  clear h h2 q0 hb0 hg1 hg2 hok hdef
  obtain ⟨dd, hdd⟩ : ∃ dd, (neg && decide (0 < t / g)) = dd := ⟨_, rfl⟩
  rw [hdd]
  have HDD := Lib.hid hdd
  clear hdd
  go_enter Tryz.func84, Tryz.ntmps84
  go_wp2_with fail
  refine (KD _ (HIN.out _ (Below.refl _ _)).1 (HIN.out _ (Below.refl _ _)).2).mono ?_
  rintro x w1 ⟨vg, rfl, hvg, hb1⟩
  have HG := Lib.hid hvg
  have HB1 := Lib.hid hb1
  clear hvg hb1
  go_wp2_with fail
  refine (KO1 _ _ _ (HIN.out _ HB1.out).1 HG.out).mono ?_
  rintro x w3 ⟨q, r, rfl, hq, hr, hb3⟩
  obtain ⟨adq, capq, rfl⟩ := Nt.In.slice hq
  have HQ := Lib.hid hq
  have HG := Lib.hid (HG.out.below hb3 (Nat.le_refl _))
  have HB3 := Lib.hid (HB1.out.trans (hb3.mono HB1.out.size))
  clear hq hr hb3
  go_wp2_with fail
  refine (KO2 _ _ _ (HIN.out _ HB3.out).2 HG.out).mono ?_
  rintro x w4 ⟨q2, r2, rfl, hq2, hr2, hb4⟩
  obtain ⟨adq2, capq2, rfl⟩ := Nt.In.slice hq2
  have HB4 := Lib.hid (HB3.out.trans (hb4.mono HB3.out.size))
  have hq4 := HQ.out.below hb4 (Nat.le_refl _)
  obtain ⟨X1, X2, X3, ⟨f0, z0, s0⟩, ⟨f1, z1, s1⟩, ⟨f2, z2, s2⟩, ⟨r0, r1, r2'⟩, HX⟩ := Rt.put3 (HR.out _ HB4.out) (.bool dd) (.slice adq (Nt.dig (t / g)).length capq) (.slice adq2 (Nt.dig (b / g)).length capq2)
  have HOUT : Hid (Nt.N X3 (.slice adq (Nt.dig (t / g)).length capq) (t / g) ∧ Nt.N X3 (.slice adq2 (Nt.dig (b / g)).length capq2) (b / g) ∧ Below w.heap.size w X3) := Lib.hid ⟨Nt.In.othr hq4 (HR.out _ HB4.out) Rt.noWords HX.out.2.2.1 HX.out.2.1, Nt.In.othr hq2 (HR.out _ HB4.out) Rt.noWords HX.out.2.2.1 HX.out.2.1, HX.out.2.2.2 _ _ (HB.out _ HB4.out) (Nat.le_refl _)⟩
  clear hq2 hr2 hb4 hq4 HX
  generalize (Nt.dig (t / g)).length = l at *
  generalize (Nt.dig (b / g)).length = l2 at *
  cases neg with
  | false =>
    obtain rfl := HDD.out
    simp only [Bool.false_and] at *
    go_wp2_with fail
    refine bodyPost_ret (v := .agg #[.bool false, .slice adq l capq, .slice adq2 l2 capq2]) (by simp [results, Tryz.results84, go_sem, r0, r1, r2']) rfl ⟨_, rfl, ⟨_, _, rfl, HOUT.out.1, HOUT.out.2.1⟩, HOUT.out.2.2⟩
  | true =>
    have hdec : decide (0 < l) = dd := by
      rw [← HDD.out, Bool.true_and]
      by_cases h : 0 < t / g
      · rw [decide_eq_true h]
        exact decide_eq_true (hpos.1 h)
      · rw [decide_eq_false h]
        exact decide_eq_false (fun h2 => h (hpos.2 h2))
    clear hpos
    go_wp2_with fail
    refine bodyPost_ret (v := .agg #[.bool dd, .slice adq l capq, .slice adq2 l2 capq2]) (by simp [results, Tryz.results84, go_sem, r0, r1, r2']) rfl ⟨_, rfl, ⟨_, _, rfl, HOUT.out.1, HOUT.out.2.1⟩, HOUT.out.2.2⟩

def Rt.wholeS (neg : Bool) (t : Nat) : Bool × Nat × Nat := Rt.ratS neg t 1
theorem Rt.wholeS_eq (neg : Bool) (t : Nat) : Rt.wholeS neg t = (neg && decide (0 < t), t, 1) := by
  simp [Rt.wholeS, Rt.ratS]
set_option maxHeartbeats 4000000 in
set_option maxRecDepth 1000000 in
theorem Rt.whole_any (neg : Bool) (t : Nat) (tv : Value) (w : World) (h : Nt.N w tv t) (hl : (Nt.dig t).length ≤ 400000) : Calls Tryz.prog 55 #[.bool neg, tv] w fun e w' => ∃ v', e = .returned v' ∧ Rt.R w' v' (neg && decide (0 < t)) t 1 ∧ Below w.heap.size w w' := by
  have KR := fun bv w h h2 => Rt.rat_any neg t 1 tv bv w h h2 (by decide) ⟨by rw [Nt.dig_small (by decide) (by decide)]; decide, hl⟩
  have e0 := Rt.wholeS_eq neg t
  unfold Rt.wholeS at e0
  rw [e0] at KR
  obtain ⟨ad, cap, rfl⟩ := Nt.In.slice h
  have H := Lib.hid h
  have hs0 : (w.alloc (.cells #[.bool false, .slice none 0 0, .slice none 0 0] 32)).heap.size = w.heap.size + 1 := by simp
  have hn1 : ∀ w : World, Nt.N (w.alloc (.cells #[.int .u32 1] 104)) (.slice (some ⟨w.heap.size, 0, none⟩) 1 1) 1 := fun w => by
    have e : (#[.int .u32 1] : Array Value) = Nt.row [1] := rfl
    unfold Nt.N
    rw [Nt.dig_small (by decide) (by decide), e]
    exact Nt.In.of_row (heap_alloc_new w _)
  obtain ⟨W2, hW2⟩ : ∃ z, (w.alloc (.cells #[.bool false, .slice none 0 0, .slice none 0 0] 32)).alloc (.cells #[.int .u32 1] 104) = z := ⟨_, rfl⟩
  have q0 : W2.heap[w.heap.size]? = some (.cells #[.bool false, .slice none 0 0, .slice none 0 0] 32 (0, 0)) := hW2 ▸ (Lib.alloc_old _ _ _ (by rw [hs0]; omega)).trans (heap_alloc_new w _)
  have hb0 : Below w.heap.size w W2 := hW2 ▸ ((Below.refl _ _).alloc (Nat.le_refl _) _).alloc (by rw [hs0]; omega) _
  have h1 : Nt.N W2 (.slice (some ⟨w.heap.size + 1, 0, none⟩) 1 1) 1 := by
    have := hn1 (w.alloc (.cells #[.bool false, .slice none 0 0, .slice none 0 0] 32))
    rw [hs0, hW2] at this
    exact this
  have hsz : w.heap.size < W2.heap.size := (Array.getElem?_eq_some_iff.1 q0).1
  have HIN := Lib.hid (And.intro (H.out.below hb0 (Nat.le_refl _)) h1)
  have HR := Lib.hid (fun (w' : World) (hb : Below W2.heap.size W2 w') => (hb.block w.heap.size hsz).trans q0)
  have HB := Lib.hid (fun (w' : World) (hb : Below W2.heap.size W2 w') => hb0.trans (hb.mono (Nat.le_of_lt hsz)))
  clear h q0 hb0 h1 hs0 hn1 e0
  generalize (neg && decide (0 < t)) = ss at *
  go_enter Tryz.func55, Tryz.ntmps55
  go_wp2_with fail
  refine (KR _ _ HIN.out.1 HIN.out.2).mono ?_
  rintro x w1 ⟨v1, rfl, ⟨tv, bv, rfl, hn, hd⟩, hb1⟩
  obtain ⟨ad1, cap1, rfl⟩ := Nt.In.slice hn
  obtain ⟨ad2, cap2, rfl⟩ := Nt.In.slice hd
  obtain ⟨X1, X2, X3, ⟨f0, z0, s0⟩, ⟨f1, z1, s1⟩, ⟨f2, z2, s2⟩, ⟨r0, r1, r2'⟩, HX⟩ := Rt.put3 (HR.out _ hb1) (.bool ss) (.slice ad1 (Nt.dig t).length cap1) (.slice ad2 (Nt.dig 1).length cap2)
  have HOUT : Hid (Nt.N X3 (.slice ad1 (Nt.dig t).length cap1) t ∧ Nt.N X3 (.slice ad2 (Nt.dig 1).length cap2) 1 ∧ Below w.heap.size w X3) := Lib.hid ⟨Nt.In.othr hn (HR.out _ hb1) Rt.noWords HX.out.2.2.1 HX.out.2.1, Nt.In.othr hd (HR.out _ hb1) Rt.noWords HX.out.2.2.1 HX.out.2.1, HX.out.2.2.2 _ _ (HB.out _ hb1) (Nat.le_refl _)⟩
  clear hn hd hb1 HX
  generalize (Nt.dig t).length = l at *
  generalize (Nt.dig 1).length = l2 at *
  go_wp2_with fail
  refine bodyPost_ret (v := .agg #[.bool ss, .slice ad1 l cap1, .slice ad2 l2 cap2]) (by simp [results, Tryz.results55, go_sem, r0, r1, r2']) rfl ⟨_, rfl, ⟨_, _, rfl, HOUT.out.1, HOUT.out.2.1⟩, HOUT.out.2.2⟩

set_option maxHeartbeats 4000000 in
set_option maxRecDepth 1000000 in
theorem Nt.Sound_same (ws : List Nat) (v : Value) (w : World) (h : Nt.In w v ws) (hw : Nt.Wd ws) (hl : ws.length ≤ 4611686018427387904) : Calls Tryz.prog 118 #[v] w fun e w' => e = .returned (.bool (Nt.sound ws)) ∧ w = w' := by
  have KT := fun w h => Nt.Trim_same ws v w h hw hl
  obtain ⟨ad, cap, rfl⟩ := h.slice
  have H := Lib.hid h
  clear h
  have hs : Nt.sound ws = (decide (ws.length ≤ 512) && decide ((Nt.dig (Nt.val ws)).length = ws.length)) := rfl
  rw [hs]
  generalize (Nt.dig (Nt.val ws)).length = n at *
  clear hs hw hl
  by_cases h1 : ws.length ≤ 512
  · have h1I : (ws.length : Int) ≤ 512 := by omega
    rw [decide_eq_true h1]
    go_enter Tryz.func118, Tryz.ntmps118
    go_wp2_with fail
    refine (KT _ H.out).mono ?_
    rintro x w1 ⟨rfl, hw1⟩
    subst hw1
    by_cases h2 : n = ws.length
    · subst h2
      go_wp2_with fail
      go_ret
      exact ⟨by simp, rfl⟩
    · have h2I : ((n : Int) == (ws.length : Int)) = false := by simp; omega
      go_wp2_with fail
      go_ret
      exact ⟨by simp [h2], rfl⟩
  · have h1I : ¬ (ws.length : Int) ≤ 512 := by omega
    rw [decide_eq_false h1]
    go_enter Tryz.func118, Tryz.ntmps118
    go_wp2_with fail
    go_ret
    exact ⟨by simp, rfl⟩

/-- A fraction as it may come: sign and words. -/
def Rt.G (w : World) (v : Value) (s : Bool) (t b : List Nat) : Prop := ∃ tv bv, v = .agg #[.bool s, tv, bv] ∧ Nt.In w tv t ∧ Nt.In w bv b
structure Rt.GOk (t b : List Nat) : Prop where
  w1 : Nt.Wd t
  w2 : Nt.Wd b
  l1 : t.length ≤ 4611686018427387904
  l2 : b.length ≤ 4611686018427387904
/-- A number's words, looked at: is it 1? -/
theorem Rt.isOne {w : World} {v : Value} {g : Nat} (h : Nt.N w v g) (h0 : 0 < g) : ∃ S : Bool, S = decide (g = 1) ∧ ((∃ ad cap, v = .slice ad (Nt.dig g).length cap ∧ (((Nt.dig g).length : Int) == 1) = false ∧ S = false) ∨ ∃ b off cap, v = .slice (some ⟨b, off, none⟩) 1 cap ∧ w.cell? ⟨b, off, none⟩ = some (.int .u32 g) ∧ ((g : Int) == 1) = S) := by
  refine ⟨_, rfl, ?_⟩
  by_cases hl : (Nt.dig g).length = 1
  · right
    obtain ⟨ad, cap, rfl⟩ := Nt.In.slice h
    obtain ⟨b, off, rfl, _, _, _, hc⟩ := Nt.In.at h (by omega)
    have hc0 := hc 0 (by omega)
    have hg : (Nt.dig g).getD 0 0 = g := by
      have e := Nt.val_dig g
      match hd : Nt.dig g, hl with
      | [x], _ => rw [hd] at e; simpa [Nt.val] using e
    rw [hg] at hc0
    refine ⟨b, off, cap, by rw [hl], hc0, ?_⟩
    by_cases h1 : g = 1
    · subst h1; rfl
    · simp [h1]; omega
  · left
    obtain ⟨ad, cap, rfl⟩ := Nt.In.slice h
    refine ⟨ad, cap, rfl, by simp; omega, ?_⟩
    apply decide_eq_false
    intro e
    subst e
    exact hl (by rw [Nt.dig_small (by decide) (by decide)]; rfl)
set_option maxHeartbeats 4000000 in
set_option maxRecDepth 1000000 in
theorem Rt.ratSound_any (s : Bool) (t b : List Nat) (v : Value) (w : World) (h : Rt.G w v s t b) (hok : Rt.GOk t b) : Calls Tryz.prog 83 #[v] w fun e w' => e = .returned (.bool (Rt.sound s t b)) ∧ Below w.heap.size w w' := by
  obtain ⟨tv, bv, rfl, h1, h2⟩ := h
  have K1 := fun w h => Nt.Sound_same t tv w h hok.w1 hok.l1
  have K2 := fun w h => Nt.Sound_same b bv w h hok.w2 hok.l2
  obtain ⟨a1, c1, rfl⟩ := h1.slice
  obtain ⟨a2, c2, rfl⟩ := h2.slice
  have hal : ∀ o, Below w.heap.size w (w.alloc o) := fun o => (Below.refl _ _).alloc (Nat.le_refl _) _
  have H1 : Hid (∀ o, Nt.In (w.alloc o) (.slice a1 t.length c1) t) := Lib.hid (fun o => h1.below (hal o) (Nat.le_refl _))
  have H2 : Hid (∀ o, Nt.In (w.alloc o) (.slice a2 b.length c2) b) := Lib.hid (fun o => h2.below (hal o) (Nat.le_refl _))
  have HAL := Lib.hid hal
  have HOK := Lib.hid hok
  have hdef : Rt.sound s t b = (Nt.sound t && Nt.sound b && decide (b.length ≠ 0) && !(decide (t.length = 0) && s) && decide (Nat.gcd (Nt.val t) (Nt.val b) = 1)) := rfl
  rw [hdef]
  clear hdef hal h1 h2 hok
  obtain ⟨S1, hS1⟩ : ∃ S, Nt.sound t = S := ⟨_, rfl⟩
  obtain ⟨S2, hS2⟩ : ∃ S, Nt.sound b = S := ⟨_, rfl⟩
  rw [hS1] at K1 ⊢
  rw [hS2] at K2 ⊢
  have HS1 := Lib.hid hS1
  have HS2 := Lib.hid hS2
  clear hS1 hS2
  have hmain : ∃ g vt vb : Nat, decide (Nat.gcd (Nt.val t) (Nt.val b) = 1) = decide (g = 1) ∧ (S1 = true → S2 = true → b.length ≠ 0 → (∀ o, Nt.N (w.alloc o) (.slice a1 t.length c1) vt ∧ Nt.N (w.alloc o) (.slice a2 b.length c2) vb) ∧ 0 < g ∧ (∀ v v2 w, Nt.N w v vt → Nt.N w v2 vb → Calls Tryz.prog 119 #[v, v2] w fun e w' => ∃ v', e = .returned v' ∧ Nt.N w' v' g ∧ Below w.heap.size w w')) := by
    refine ⟨Nat.gcd (Nt.val t) (Nt.val b), Nt.val t, Nt.val b, rfl, ?_⟩
    intro e1 e2 hb0
    obtain ⟨et, elt⟩ := Nt.sound_eq HOK.out.w1 (HS1.out.trans e1)
    obtain ⟨eb, elb⟩ := Nt.sound_eq HOK.out.w2 (HS2.out.trans e2)
    refine ⟨fun o => ?_, ?_, fun v v2 w h h2 => Nt.Divisor_any (Nt.val t) (Nt.val b) v v2 w h h2 ⟨by rw [← eb]; omega, by rw [← et]; omega⟩⟩
    · unfold Nt.N
      rw [← et, ← eb]
      exact ⟨H1.out o, H2.out o⟩
    · refine Nat.gcd_pos_of_pos_right _ ?_
      rcases Nat.eq_zero_or_pos (Nt.val b) with h0 | h0
      · rw [h0, Nt.dig_zero] at eb
        rw [eb] at hb0
        exact absurd rfl hb0
      · exact h0
  obtain ⟨g, vt, vb, hgd, hmain⟩ := hmain
  rw [hgd]
  have HM := Lib.hid hmain
  clear hmain HS1 HS2 HOK hgd
  obtain ⟨G1, hG1⟩ : ∃ G : Bool, decide (g = 1) = G := ⟨_, rfl⟩
  rw [hG1]
  have HG1 := Lib.hid hG1
  clear hG1
  generalize t.length = l1 at *
  generalize b.length = l2 at *
  rcases S1 with _ | _
  · clear HM
    go_enter Tryz.func83, Tryz.ntmps83
    go_wp2_with fail
    refine (K1 _ (H1.out _)).mono ?_
    rintro x w1 ⟨rfl, hw1⟩
    subst hw1
    go_wp2_with fail
    go_ret
    exact ⟨by simp, HAL.out _⟩
  rcases S2 with _ | _
  · clear HM
    go_enter Tryz.func83, Tryz.ntmps83
    go_wp2_with fail
    refine (K1 _ (H1.out _)).mono ?_
    rintro x w1 ⟨rfl, hw1⟩
    subst hw1
    go_wp2_with fail
    refine (K2 _ (H2.out _)).mono ?_
    rintro x w1 ⟨rfl, hw1⟩
    subst hw1
    go_wp2_with fail
    go_ret
    exact ⟨by simp, HAL.out _⟩
  by_cases hb0 : l2 = 0
  · subst hb0
    clear HM
    go_enter Tryz.func83, Tryz.ntmps83
    go_wp2_with fail
    refine (K1 _ (H1.out _)).mono ?_
    rintro x w1 ⟨rfl, hw1⟩
    subst hw1
    go_wp2_with fail
    refine (K2 _ (H2.out _)).mono ?_
    rintro x w1 ⟨rfl, hw1⟩
    subst hw1
    go_wp2_with fail
    go_ret
    exact ⟨by simp, HAL.out _⟩
  obtain ⟨hm1, hm2, hm3⟩ := HM.out rfl rfl hb0
  have HN := Lib.hid hm1
  have HG0 := Lib.hid hm2
  have HL2 := Lib.hid hb0
  have hl2I : ((l2 : Int) == 0) = false := by simp; exact hb0
  have hl2J : ¬ (l2 : Int) = 0 := by omega
  clear HM hm1 hm2 hb0
  have FIN : Hid (∀ (w1 : World) (tv : Value), Nt.N w1 tv g → (∃ ad cap, tv = .slice ad (Nt.dig g).length cap)) := Lib.hid (fun w1 tv h => Nt.In.slice h)
  by_cases ht0 : l1 = 0
  · subst ht0
    rcases s with _ | _
    · go_enter Tryz.func83, Tryz.ntmps83
      go_wp2_with fail
      refine (K1 _ (H1.out _)).mono ?_
      rintro x w1 ⟨rfl, hw1⟩
      subst hw1
      go_wp2_with fail
      refine (K2 _ (H2.out _)).mono ?_
      rintro x w1 ⟨rfl, hw1⟩
      subst hw1
      go_wp2_with fail
      refine (hm3 _ _ _ (HN.out _).1 (HN.out _).2).mono ?_
      rintro x w1 ⟨vg, rfl, hg, hbg⟩
      have HBG := Lib.hid ((HAL.out _).trans (hbg.mono (HAL.out _).size))
      obtain ⟨S, hS, hK⟩ := Rt.isOne hg HG0.out
      rw [HG1.out] at hS
      subst hS
      clear hg hbg FIN
      rcases hK with ⟨ad, cap, rfl, hf, hSf⟩ | ⟨b', off', cap', rfl, hc, hgS⟩
      · generalize (Nt.dig g).length = l3 at *
        subst hSf
        go_wp2_with fail
        go_ret
        exact ⟨by simp, HBG.out⟩
      · go_wp2_with fail
        go_ret
        exact ⟨by simp [HL2.out], HBG.out⟩
    · go_enter Tryz.func83, Tryz.ntmps83
      go_wp2_with fail
      refine (K1 _ (H1.out _)).mono ?_
      rintro x w1 ⟨rfl, hw1⟩
      subst hw1
      go_wp2_with fail
      refine (K2 _ (H2.out _)).mono ?_
      rintro x w1 ⟨rfl, hw1⟩
      subst hw1
      go_wp2_with fail
      go_ret
      exact ⟨by simp, HAL.out _⟩
  · have ht0I : ((l1 : Int) == 0) = false := by simp; exact ht0
    have ht0J : ¬ (l1 : Int) = 0 := by omega
    have HL1 := Lib.hid ht0
    clear ht0
    go_enter Tryz.func83, Tryz.ntmps83
    go_wp2_with fail
    refine (K1 _ (H1.out _)).mono ?_
    rintro x w1 ⟨rfl, hw1⟩
    subst hw1
    go_wp2_with fail
    refine (K2 _ (H2.out _)).mono ?_
    rintro x w1 ⟨rfl, hw1⟩
    subst hw1
    go_wp2_with fail
    refine (hm3 _ _ _ (HN.out _).1 (HN.out _).2).mono ?_
    rintro x w1 ⟨vg, rfl, hg, hbg⟩
    have HBG := Lib.hid ((HAL.out _).trans (hbg.mono (HAL.out _).size))
    obtain ⟨S, hS, hK⟩ := Rt.isOne hg HG0.out
    rw [HG1.out] at hS
    subst hS
    clear hg hbg FIN
    rcases hK with ⟨ad, cap, rfl, hf, hSf⟩ | ⟨b', off', cap', rfl, hc, hgS⟩
    · generalize (Nt.dig g).length = l3 at *
      subst hSf
      go_wp2_with fail
      go_ret
      exact ⟨by simp, HBG.out⟩
    · go_wp2_with fail
      go_ret
      exact ⟨by simp [HL2.out, HL1.out], HBG.out⟩

theorem Nt.Times_any (m n : Nat) (v v2 : Value) (w : World) (h : Nt.N w v m) (h2 : Nt.N w v2 n) (hl : (Nt.dig m).length ≤ 400000) (hl2 : (Nt.dig n).length ≤ 400000) : Calls Tryz.prog 85 #[v, v2] w fun e w' => ∃ v', e = .returned v' ∧ Nt.N w' v' (m * n) ∧ Below w.heap.size w w' := by
  have := Nt.times_ws (Nt.dig m) (Nt.dig n) v v2 w h h2 (Nt.dig_wd m) (Nt.dig_wd n) hl hl2
  rwa [Nt.val_dig, Nt.val_dig] at this
theorem Nt.Plus_any (m n : Nat) (v v2 : Value) (w : World) (h : Nt.N w v m) (h2 : Nt.N w v2 n) (hl : (Nt.dig m).length ≤ 400000) (hl2 : (Nt.dig n).length ≤ 400000) : Calls Tryz.prog 87 #[v, v2] w fun e w' => ∃ v', e = .returned v' ∧ Nt.N w' v' (m + n) ∧ Below w.heap.size w w' := by
  have := Nt.plus_ws (Nt.dig m) (Nt.dig n) v v2 w h h2 (Nt.dig_wd m) (Nt.dig_wd n) (by omega) (by omega)
  rwa [Nt.val_dig, Nt.val_dig] at this
theorem Nt.Less_any (m n : Nat) (v v2 : Value) (w : World) (h : Nt.N w v m) (h2 : Nt.N w v2 n) (hl : (Nt.dig m).length ≤ 400000) (hle : n ≤ m) : Calls Tryz.prog 89 #[v, v2] w fun e w' => ∃ v', e = .returned v' ∧ Nt.N w' v' (m - n) ∧ Below w.heap.size w w' := by
  have := Nt.less_ws (Nt.dig m) (Nt.dig n) v v2 w h h2 (Nt.dig_wd m) (Nt.dig_wd n) (by omega) (Nt.dig_len_mono hle) (by rw [Nt.val_dig, Nt.val_dig]; exact hle)
  rwa [Nt.val_dig, Nt.val_dig] at this
theorem Rt.belowD {w0 w : World} (h : Below w0.heap.size w0 w) : Below w0.heap.size w0 w.drew := h.drew
theorem Rt.belowT {w0 w w2 : World} (h : Below w0.heap.size w0 w) (h2 : Below w.heap.size w w2) : Below w0.heap.size w0 w2 := h.trans (h2.mono h.size)
/-- Three boxes behind a world. -/
theorem Rt.three (w : World) (o o2 o3 : Obj) : ∃ W2, ((w.alloc o).alloc o2).alloc o3 = W2 ∧ W2.heap[w.heap.size]? = some o ∧ W2.heap[w.heap.size + 1]? = some o2 ∧ W2.heap[w.heap.size + 2]? = some o3 ∧ W2.heap.size = w.heap.size + 3 ∧ Below w.heap.size w W2 := by
  have h1 : (w.alloc o).heap.size = w.heap.size + 1 := by simp
  have h2 : ((w.alloc o).alloc o2).heap.size = w.heap.size + 2 := by simp
  refine ⟨_, rfl, ?_, ?_, ?_, by simp, ?_⟩
  · exact (Lib.alloc_old _ _ _ (by rw [h2]; omega)).trans ((Lib.alloc_old _ _ _ (by rw [h1]; omega)).trans (heap_alloc_new w o))
  · have := heap_alloc_new (w.alloc o) o2
    rw [h1] at this
    exact (Lib.alloc_old _ _ _ (by rw [h2]; omega)).trans this
  · have := heap_alloc_new ((w.alloc o).alloc o2) o3
    rwa [h2] at this
  · exact (((Below.refl _ _).alloc (Nat.le_refl _) _).alloc (by rw [h1]; omega) _).alloc (by rw [h2]; omega) _
theorem Rt.cells3 {w : World} {b : Nat} {v0 v1 v2 : Value} {t : TypeId} (h : w.heap[b]? = some (.cells #[v0, v1, v2] t (0, 0))) : w.cell? ⟨b, 0, none⟩ = some v0 ∧ w.cell? ⟨b, 1, none⟩ = some v1 ∧ w.cell? ⟨b, 2, none⟩ = some v2 := ⟨Rt.cell_of h 0, Rt.cell_of h 1, Rt.cell_of h 2⟩

def Rt.sumS (s1 : Bool) (t1 b1 : Nat) (s2 : Bool) (t2 b2 : Nat) : Bool × Nat × Nat :=
  if s1 = s2 then Rt.ratS s1 (t1 * b2 + t2 * b1) (b1 * b2) else if t2 * b1 ≤ t1 * b2 then Rt.ratS s1 (t1 * b2 - t2 * b1) (b1 * b2) else Rt.ratS s2 (t2 * b1 - t1 * b2) (b1 * b2)


set_option maxHeartbeats 8000000 in
set_option maxRecDepth 1000000 in
theorem Rt.sum_eq (s1 s2 : Bool) (t1 b1 t2 b2 x y bb : Nat) (hx : t1 * b2 = x) (hy : t2 * b1 = y) (hbb : b1 * b2 = bb) (v v2 : Value) (w : World) (h : Rt.R w v s1 t1 b1) (h2 : Rt.R w v2 s2 t2 b2) (hb1 : 0 < b1) (hb2 : 0 < b2) (hl : (Nt.dig t1).length ≤ 400000 ∧ (Nt.dig b1).length ≤ 400000 ∧ (Nt.dig t2).length ≤ 400000 ∧ (Nt.dig b2).length ≤ 400000) (hlx : (Nt.dig x).length ≤ 400000) (hly : (Nt.dig y).length ≤ 400000) (hs : s1 = s2) (hok : Nt.Ok (x + y) bb) :
    Calls Tryz.prog 53 #[v, v2] w fun e w' => ∃ v', e = .returned v' ∧ Rt.R w' v' (Rt.ratS s1 (x + y) bb).1 (Rt.ratS s1 (x + y) bb).2.1 (Rt.ratS s1 (x + y) bb).2.2 ∧ Below w.heap.size w w' := by
  have hbpos : 0 < bb := hbb ▸ Nat.mul_pos hb1 hb2
  subst hs
  have KX := fun v v2 w h h2 => Nt.Times_any t1 b2 v v2 w h h2 hl.1 hl.2.2.2
  have KY := fun v v2 w h h2 => Nt.Times_any t2 b1 v v2 w h h2 hl.2.2.1 hl.2.1
  have KB := fun v v2 w h h2 => Nt.Times_any b1 b2 v v2 w h h2 hl.2.1 hl.2.2.2
  rw [hx] at KX
  rw [hy] at KY
  rw [hbb] at KB
  have KA := fun v v2 w h h2 => Nt.Plus_any x y v v2 w h h2 hlx hly
  have KR := fun tv bv w h h2 => Rt.rat_any s1 (x + y) bb tv bv w h h2 hbpos hok
  generalize Rt.ratS s1 (x + y) bb = rr at *
  generalize hrv : x + y = res at *
  obtain ⟨rs, rt, rb⟩ := rr
  simp only at KR ⊢
  clear hrv hok hb1 hb2 hbpos hl hx hy hbb hlx hly
  obtain ⟨tv1, bv1, rfl, hn1, hd1⟩ := h
  obtain ⟨tv2, bv2, rfl, hn2, hd2⟩ := h2
  obtain ⟨a1, c1, rfl⟩ := Nt.In.slice hn1
  obtain ⟨a2, c2, rfl⟩ := Nt.In.slice hd1
  obtain ⟨a3, c3, rfl⟩ := Nt.In.slice hn2
  obtain ⟨a4, c4, rfl⟩ := Nt.In.slice hd2
  generalize (Nt.dig t1).length = l1 at *
  generalize (Nt.dig b1).length = l2 at *
  generalize (Nt.dig t2).length = l3 at *
  generalize (Nt.dig b2).length = l4 at *
  obtain ⟨W2, hW2, q0, q1, q2, hsz, hb0⟩ := Rt.three w (.cells #[.bool s1, .slice a1 l1 c1, .slice a2 l2 c2] 32) (.cells #[.bool s1, .slice a3 l3 c3, .slice a4 l4 c4] 32) (.cells #[.bool false, .slice none 0 0, .slice none 0 0] 32)
  have HI := Lib.hid (fun (w' : World) (hb : Below W2.heap.size W2 w') => And.intro ((Nt.N.below hn1 hb0 (Nat.le_refl _)).below hb (Nat.le_refl _)) (And.intro ((Nt.N.below hd1 hb0 (Nat.le_refl _)).below hb (Nat.le_refl _)) (And.intro ((Nt.N.below hn2 hb0 (Nat.le_refl _)).below hb (Nat.le_refl _)) ((Nt.N.below hd2 hb0 (Nat.le_refl _)).below hb (Nat.le_refl _)))))
  have HK := Lib.hid (fun (w' : World) (hb : Below W2.heap.size W2 w') => And.intro (Rt.cells3 ((hb.block w.heap.size (by omega)).trans q0)) (Rt.cells3 ((hb.block (w.heap.size + 1) (by omega)).trans q1)))
  have HR := Lib.hid (fun (w' : World) (hb : Below W2.heap.size W2 w') => (hb.block (w.heap.size + 2) (by omega)).trans q2)
  have HKX := Lib.hid (fun (w' w'' : World) (hb : Below W2.heap.size W2 w') (hx : ∀ q, q ≠ w.heap.size + 2 → w''.heap[q]? = w'.heap[q]?) => And.intro (Rt.cells3 ((hx w.heap.size (by omega)).trans ((hb.block w.heap.size (by omega)).trans q0))) (Rt.cells3 ((hx (w.heap.size + 1) (by omega)).trans ((hb.block (w.heap.size + 1) (by omega)).trans q1))))
  have HB := Lib.hid (fun (w' : World) (hb : Below W2.heap.size W2 w') => hb0.trans (hb.mono (by omega : w.heap.size ≤ W2.heap.size)))
  have hacc : Below W2.heap.size W2 W2.drew := Rt.belowD (Below.refl _ _)
  have hkeep := HK.out _ hacc
  clear q0 q1 q2 hb0 hn1 hd1 hn2 hd2 hsz
  go_enter Tryz.func53, Tryz.ntmps53
  go_wp2_with fail
  clear hW2
  go_region_held3 (fun w' => (w'.cell? ⟨w.heap.size, 0, none⟩ = some (.bool s1) ∧ w'.cell? ⟨w.heap.size, 1, none⟩ = some (.slice a1 l1 c1) ∧ w'.cell? ⟨w.heap.size, 2, none⟩ = some (.slice a2 l2 c2)) ∧ (w'.cell? ⟨w.heap.size + 1, 0, none⟩ = some (.bool s1) ∧ w'.cell? ⟨w.heap.size + 1, 1, none⟩ = some (.slice a3 l3 c3) ∧ w'.cell? ⟨w.heap.size + 1, 2, none⟩ = some (.slice a4 l4 c4)))
    (first | exact hkeep)
    (first
      | (go_at_call_of 85 (Value.slice a1 l1 c1)
         refine (KX _ _ _ (HI.out _ hacc).1 (HI.out _ hacc).2.2.2).mono ?_
         rintro x w5 ⟨v5, rfl, hv5, hb5⟩
         have hacc := Rt.belowT hacc hb5
         have hkeep := HK.out _ hacc)
      | (go_at_call_of 85 (Value.slice a3 l3 c3)
         refine (KY _ _ _ (HI.out _ hacc).2.2.1 (HI.out _ hacc).2.1).mono ?_
         rintro x w6 ⟨v6, rfl, hv6, hb6⟩
         have hv5 := Nt.N.below hv5 hb6 (Nat.le_refl _)
         have hacc := Rt.belowT hacc hb6
         have hkeep := HK.out _ hacc))
  all_goals
    clear hb5 hb6
    obtain ⟨ax, cx, rfl⟩ := Nt.In.slice hv5
    obtain ⟨ay, cy, rfl⟩ := Nt.In.slice hv6
    generalize (Nt.dig x).length = lx at *
    generalize (Nt.dig y).length = ly at *
    obtain ⟨⟨e0, e1, e2⟩, f0, f1, f2⟩ := hkeep
    have HV := Lib.hid (And.intro hv5 (And.intro hv6 hacc))
    clear hv5 hv6 hacc
    go_wp2_with fail
    refine (KB _ _ _ (HI.out _ HV.out.2.2).2.1 (HI.out _ HV.out.2.2).2.2.2).mono ?_
    rintro z w7 ⟨v7, rfl, hv7, hb7⟩
    have hacc := Rt.belowT HV.out.2.2 hb7
    obtain ⟨⟨e0, e1, e2⟩, f0, f1, f2⟩ := HK.out _ hacc
    have HV := Lib.hid (And.intro (HV.out.1.below hb7 (Nat.le_refl _)) (And.intro (HV.out.2.1.below hb7 (Nat.le_refl _)) (And.intro hv7 hacc)))
    obtain ⟨az, cz, rfl⟩ := Nt.In.slice hv7
    generalize (Nt.dig bb).length = lz at *
    clear hv7 hb7 hacc
    go_wp2_with fail
    have hacc := Rt.belowD HV.out.2.2.2
    have hkeep := HK.out _ hacc
    clear e0 e1 e2 f0 f1 f2
    have HVD := Lib.hid (And.intro (HV.out.1.below ((Below.refl _ _).drew) (Nat.le_refl _)) (And.intro (HV.out.2.1.below ((Below.refl _ _).drew) (Nat.le_refl _)) (HV.out.2.2.1.below ((Below.refl _ _).drew) (Nat.le_refl _))))
    go_region_held3 (fun w' => (w'.cell? ⟨w.heap.size, 0, none⟩ = some (.bool s1) ∧ w'.cell? ⟨w.heap.size, 1, none⟩ = some (.slice a1 l1 c1) ∧ w'.cell? ⟨w.heap.size, 2, none⟩ = some (.slice a2 l2 c2)) ∧ (w'.cell? ⟨w.heap.size + 1, 0, none⟩ = some (.bool s1) ∧ w'.cell? ⟨w.heap.size + 1, 1, none⟩ = some (.slice a3 l3 c3) ∧ w'.cell? ⟨w.heap.size + 1, 2, none⟩ = some (.slice a4 l4 c4)))
      (first | exact hkeep | exact hkeepX)
      (first
        | (go_at_call_of 87 (Value.slice ax lx cx)
           refine (KA _ _ _ HVD.out.1 HVD.out.2.1).mono ?_
           rintro x w8 ⟨v8, rfl, hv8, hb8⟩
           have hvz := HVD.out.2.2.below hb8 (Nat.le_refl _)
           have hacc := Rt.belowT hacc hb8
           have hkeep := HK.out _ hacc)
        | (go_at_call 84
           refine (KR _ _ _ hv8 hvz).mono ?_
           rintro x w9 ⟨v9, rfl, ⟨tv, bv, rfl, hn, hd⟩, hb9⟩
           obtain ⟨a5, c5, rfl⟩ := Nt.In.slice hn
           obtain ⟨a6, c6, rfl⟩ := Nt.In.slice hd
           have hacc := Rt.belowT hacc hb9
           have hkeep := HK.out _ hacc
           obtain ⟨X1, X2, X3, ⟨g0, z0, s0⟩, ⟨g1, z1, s1'⟩, ⟨g2, z2, s2'⟩, ⟨r0, r1, r2'⟩, HX⟩ := Rt.put3 (HR.out _ hacc) (.bool rs) (.slice a5 (Nt.dig rt).length c5) (.slice a6 (Nt.dig rb).length c6)
           have HOUT : Hid (Nt.N X3 (.slice a5 (Nt.dig rt).length c5) rt ∧ Nt.N X3 (.slice a6 (Nt.dig rb).length c6) rb ∧ Below w.heap.size w X3) := Lib.hid ⟨Nt.In.othr hn (HR.out _ hacc) Rt.noWords HX.out.2.2.1 HX.out.2.1, Nt.In.othr hd (HR.out _ hacc) Rt.noWords HX.out.2.2.1 HX.out.2.1, HX.out.2.2.2 _ _ (HB.out _ hacc) (by omega)⟩
           have hkeepX := HKX.out _ X3 hacc HX.out.2.2.1))
  all_goals
    clear hkeep hkeepX hacc hb8 hb9 hv8 hvz hn hd HX
    generalize (Nt.dig rt).length = l5 at *
    generalize (Nt.dig rb).length = l6 at *
    go_wp2_with fail
    refine bodyPost_ret (v := .agg #[.bool rs, .slice a5 l5 c5, .slice a6 l6 c6]) (by simp [results, Tryz.results53, go_sem, r0, r1, r2']) rfl ⟨_, rfl, ⟨_, _, rfl, HOUT.out.1, HOUT.out.2.1⟩, HOUT.out.2.2⟩

set_option maxHeartbeats 8000000 in
set_option maxRecDepth 1000000 in
theorem Rt.sum_ge (s1 s2 : Bool) (t1 b1 t2 b2 x y bb : Nat) (hx : t1 * b2 = x) (hy : t2 * b1 = y) (hbb : b1 * b2 = bb) (v v2 : Value) (w : World) (h : Rt.R w v s1 t1 b1) (h2 : Rt.R w v2 s2 t2 b2) (hb1 : 0 < b1) (hb2 : 0 < b2) (hl : (Nt.dig t1).length ≤ 400000 ∧ (Nt.dig b1).length ≤ 400000 ∧ (Nt.dig t2).length ≤ 400000 ∧ (Nt.dig b2).length ≤ 400000) (hlx : (Nt.dig x).length ≤ 400000) (hly : (Nt.dig y).length ≤ 400000) (hs : s1 ≠ s2) (hle : y ≤ x) (hok : Nt.Ok (x - y) bb) :
    Calls Tryz.prog 53 #[v, v2] w fun e w' => ∃ v', e = .returned v' ∧ Rt.R w' v' (Rt.ratS s1 (x - y) bb).1 (Rt.ratS s1 (x - y) bb).2.1 (Rt.ratS s1 (x - y) bb).2.2 ∧ Below w.heap.size w w' := by
  have hbpos : 0 < bb := hbb ▸ Nat.mul_pos hb1 hb2
  have KX := fun v v2 w h h2 => Nt.Times_any t1 b2 v v2 w h h2 hl.1 hl.2.2.2
  have KY := fun v v2 w h h2 => Nt.Times_any t2 b1 v v2 w h h2 hl.2.2.1 hl.2.1
  have KB := fun v v2 w h h2 => Nt.Times_any b1 b2 v v2 w h h2 hl.2.1 hl.2.2.2
  rw [hx] at KX
  rw [hy] at KY
  rw [hbb] at KB
  have KA := fun v v2 w h h2 => Nt.Less_any x y v v2 w h h2 hlx hle
  have KR := fun tv bv w h h2 => Rt.rat_any s1 (x - y) bb tv bv w h h2 hbpos hok
  have KO := fun v v2 w h h2 => Nt.Order_any x y v v2 w h h2 (by omega) (by omega)
  have hc0 : (0 : Int) ≤ Nt.cmp x y := by
    have := mt Nt.cmp_neg.1 (by omega : ¬ x < y)
    omega
  have hcd : decide ((0 : Int) ≤ Nt.cmp x y) = true := decide_eq_true hc0
  generalize Nt.cmp x y = cc at *
  have hne : (s1 == s2) = false := by cases s1 <;> cases s2 <;> simp_all
  have hned : decide (s1 = s2) = false := decide_eq_false hs
  generalize Rt.ratS s1 (x - y) bb = rr at *
  generalize hrv : x - y = res at *
  obtain ⟨rs, rt, rb⟩ := rr
  simp only at KR ⊢
  clear hrv hok hb1 hb2 hbpos hl hx hy hbb hlx hly hle hs
  obtain ⟨tv1, bv1, rfl, hn1, hd1⟩ := h
  obtain ⟨tv2, bv2, rfl, hn2, hd2⟩ := h2
  obtain ⟨a1, c1, rfl⟩ := Nt.In.slice hn1
  obtain ⟨a2, c2, rfl⟩ := Nt.In.slice hd1
  obtain ⟨a3, c3, rfl⟩ := Nt.In.slice hn2
  obtain ⟨a4, c4, rfl⟩ := Nt.In.slice hd2
  generalize (Nt.dig t1).length = l1 at *
  generalize (Nt.dig b1).length = l2 at *
  generalize (Nt.dig t2).length = l3 at *
  generalize (Nt.dig b2).length = l4 at *
  obtain ⟨W2, hW2, q0, q1, q2, hsz, hb0⟩ := Rt.three w (.cells #[.bool s1, .slice a1 l1 c1, .slice a2 l2 c2] 32) (.cells #[.bool s2, .slice a3 l3 c3, .slice a4 l4 c4] 32) (.cells #[.bool false, .slice none 0 0, .slice none 0 0] 32)
  have HI := Lib.hid (fun (w' : World) (hb : Below W2.heap.size W2 w') => And.intro ((Nt.N.below hn1 hb0 (Nat.le_refl _)).below hb (Nat.le_refl _)) (And.intro ((Nt.N.below hd1 hb0 (Nat.le_refl _)).below hb (Nat.le_refl _)) (And.intro ((Nt.N.below hn2 hb0 (Nat.le_refl _)).below hb (Nat.le_refl _)) ((Nt.N.below hd2 hb0 (Nat.le_refl _)).below hb (Nat.le_refl _)))))
  have HK := Lib.hid (fun (w' : World) (hb : Below W2.heap.size W2 w') => And.intro (Rt.cells3 ((hb.block w.heap.size (by omega)).trans q0)) (Rt.cells3 ((hb.block (w.heap.size + 1) (by omega)).trans q1)))
  have HR := Lib.hid (fun (w' : World) (hb : Below W2.heap.size W2 w') => (hb.block (w.heap.size + 2) (by omega)).trans q2)
  have HKX := Lib.hid (fun (w' w'' : World) (hb : Below W2.heap.size W2 w') (hx : ∀ q, q ≠ w.heap.size + 2 → w''.heap[q]? = w'.heap[q]?) => And.intro (Rt.cells3 ((hx w.heap.size (by omega)).trans ((hb.block w.heap.size (by omega)).trans q0))) (Rt.cells3 ((hx (w.heap.size + 1) (by omega)).trans ((hb.block (w.heap.size + 1) (by omega)).trans q1))))
  have HB := Lib.hid (fun (w' : World) (hb : Below W2.heap.size W2 w') => hb0.trans (hb.mono (by omega : w.heap.size ≤ W2.heap.size)))
  have hacc : Below W2.heap.size W2 W2.drew := Rt.belowD (Below.refl _ _)
  have hkeep := HK.out _ hacc
  clear q0 q1 q2 hb0 hn1 hd1 hn2 hd2 hsz
  go_enter Tryz.func53, Tryz.ntmps53
  go_wp2_with fail
  clear hW2
  go_region_held3 (fun w' => (w'.cell? ⟨w.heap.size, 0, none⟩ = some (.bool s1) ∧ w'.cell? ⟨w.heap.size, 1, none⟩ = some (.slice a1 l1 c1) ∧ w'.cell? ⟨w.heap.size, 2, none⟩ = some (.slice a2 l2 c2)) ∧ (w'.cell? ⟨w.heap.size + 1, 0, none⟩ = some (.bool s2) ∧ w'.cell? ⟨w.heap.size + 1, 1, none⟩ = some (.slice a3 l3 c3) ∧ w'.cell? ⟨w.heap.size + 1, 2, none⟩ = some (.slice a4 l4 c4)))
    (first | exact hkeep)
    (first
      | (go_at_call_of 85 (Value.slice a1 l1 c1)
         refine (KX _ _ _ (HI.out _ hacc).1 (HI.out _ hacc).2.2.2).mono ?_
         rintro x w5 ⟨v5, rfl, hv5, hb5⟩
         have hacc := Rt.belowT hacc hb5
         have hkeep := HK.out _ hacc)
      | (go_at_call_of 85 (Value.slice a3 l3 c3)
         refine (KY _ _ _ (HI.out _ hacc).2.2.1 (HI.out _ hacc).2.1).mono ?_
         rintro x w6 ⟨v6, rfl, hv6, hb6⟩
         have hv5 := Nt.N.below hv5 hb6 (Nat.le_refl _)
         have hacc := Rt.belowT hacc hb6
         have hkeep := HK.out _ hacc))
  all_goals
    clear hb5 hb6
    obtain ⟨ax, cx, rfl⟩ := Nt.In.slice hv5
    obtain ⟨ay, cy, rfl⟩ := Nt.In.slice hv6
    generalize (Nt.dig x).length = lx at *
    generalize (Nt.dig y).length = ly at *
    obtain ⟨⟨e0, e1, e2⟩, f0, f1, f2⟩ := hkeep
    have HV := Lib.hid (And.intro hv5 (And.intro hv6 hacc))
    clear hv5 hv6 hacc
    go_wp2_with fail
    refine (KB _ _ _ (HI.out _ HV.out.2.2).2.1 (HI.out _ HV.out.2.2).2.2.2).mono ?_
    rintro z w7 ⟨v7, rfl, hv7, hb7⟩
    have hacc := Rt.belowT HV.out.2.2 hb7
    obtain ⟨⟨e0, e1, e2⟩, f0, f1, f2⟩ := HK.out _ hacc
    have HV := Lib.hid (And.intro (HV.out.1.below hb7 (Nat.le_refl _)) (And.intro (HV.out.2.1.below hb7 (Nat.le_refl _)) (And.intro hv7 hacc)))
    obtain ⟨az, cz, rfl⟩ := Nt.In.slice hv7
    generalize (Nt.dig bb).length = lz at *
    clear hv7 hb7 hacc
    go_wp2_with fail
    refine (KO _ _ _ HV.out.1 HV.out.2.1).mono ?_
    rintro z w8 ⟨rfl, hb8⟩
    have hacc := Rt.belowT HV.out.2.2.2 hb8
    obtain ⟨⟨e0, e1, e2⟩, f0, f1, f2⟩ := HK.out _ hacc
    have HV := Lib.hid (And.intro (HV.out.1.below hb8 (Nat.le_refl _)) (And.intro (HV.out.2.1.below hb8 (Nat.le_refl _)) (And.intro (HV.out.2.2.1.below hb8 (Nat.le_refl _)) hacc)))
    clear hb8 hacc
    go_wp2_with fail
    have hacc := Rt.belowD HV.out.2.2.2
    have hkeep := HK.out _ hacc
    clear e0 e1 e2 f0 f1 f2
    have HVD := Lib.hid (And.intro (HV.out.1.below ((Below.refl _ _).drew) (Nat.le_refl _)) (And.intro (HV.out.2.1.below ((Below.refl _ _).drew) (Nat.le_refl _)) (HV.out.2.2.1.below ((Below.refl _ _).drew) (Nat.le_refl _))))
    go_region_held3 (fun w' => (w'.cell? ⟨w.heap.size, 0, none⟩ = some (.bool s1) ∧ w'.cell? ⟨w.heap.size, 1, none⟩ = some (.slice a1 l1 c1) ∧ w'.cell? ⟨w.heap.size, 2, none⟩ = some (.slice a2 l2 c2)) ∧ (w'.cell? ⟨w.heap.size + 1, 0, none⟩ = some (.bool s2) ∧ w'.cell? ⟨w.heap.size + 1, 1, none⟩ = some (.slice a3 l3 c3) ∧ w'.cell? ⟨w.heap.size + 1, 2, none⟩ = some (.slice a4 l4 c4)))
      (first | exact hkeep | exact hkeepX)
      (first
        | (go_at_call_of 89 (Value.slice ax lx cx)
           refine (KA _ _ _ HVD.out.1 HVD.out.2.1).mono ?_
           rintro x w8 ⟨v8, rfl, hv8, hb8⟩
           have hvz := HVD.out.2.2.below hb8 (Nat.le_refl _)
           have hacc := Rt.belowT hacc hb8
           have hkeep := HK.out _ hacc)
        | (go_at_call 84
           refine (KR _ _ _ hv8 hvz).mono ?_
           rintro x w9 ⟨v9, rfl, ⟨tv, bv, rfl, hn, hd⟩, hb9⟩
           obtain ⟨a5, c5, rfl⟩ := Nt.In.slice hn
           obtain ⟨a6, c6, rfl⟩ := Nt.In.slice hd
           have hacc := Rt.belowT hacc hb9
           have hkeep := HK.out _ hacc
           obtain ⟨X1, X2, X3, ⟨g0, z0, s0⟩, ⟨g1, z1, s1'⟩, ⟨g2, z2, s2'⟩, ⟨r0, r1, r2'⟩, HX⟩ := Rt.put3 (HR.out _ hacc) (.bool rs) (.slice a5 (Nt.dig rt).length c5) (.slice a6 (Nt.dig rb).length c6)
           have HOUT : Hid (Nt.N X3 (.slice a5 (Nt.dig rt).length c5) rt ∧ Nt.N X3 (.slice a6 (Nt.dig rb).length c6) rb ∧ Below w.heap.size w X3) := Lib.hid ⟨Nt.In.othr hn (HR.out _ hacc) Rt.noWords HX.out.2.2.1 HX.out.2.1, Nt.In.othr hd (HR.out _ hacc) Rt.noWords HX.out.2.2.1 HX.out.2.1, HX.out.2.2.2 _ _ (HB.out _ hacc) (by omega)⟩
           have hkeepX := HKX.out _ X3 hacc HX.out.2.2.1))
  all_goals
    clear hkeep hkeepX hacc hb8 hb9 hv8 hvz hn hd HX
    generalize (Nt.dig rt).length = l5 at *
    generalize (Nt.dig rb).length = l6 at *
    go_wp2_with fail
    refine bodyPost_ret (v := .agg #[.bool rs, .slice a5 l5 c5, .slice a6 l6 c6]) (by simp [results, Tryz.results53, go_sem, r0, r1, r2']) rfl ⟨_, rfl, ⟨_, _, rfl, HOUT.out.1, HOUT.out.2.1⟩, HOUT.out.2.2⟩

set_option maxHeartbeats 8000000 in
set_option maxRecDepth 1000000 in
theorem Rt.sum_lt (s1 s2 : Bool) (t1 b1 t2 b2 x y bb : Nat) (hx : t1 * b2 = x) (hy : t2 * b1 = y) (hbb : b1 * b2 = bb) (v v2 : Value) (w : World) (h : Rt.R w v s1 t1 b1) (h2 : Rt.R w v2 s2 t2 b2) (hb1 : 0 < b1) (hb2 : 0 < b2) (hl : (Nt.dig t1).length ≤ 400000 ∧ (Nt.dig b1).length ≤ 400000 ∧ (Nt.dig t2).length ≤ 400000 ∧ (Nt.dig b2).length ≤ 400000) (hlx : (Nt.dig x).length ≤ 400000) (hly : (Nt.dig y).length ≤ 400000) (hs : s1 ≠ s2) (hle : x < y) (hok : Nt.Ok (y - x) bb) :
    Calls Tryz.prog 53 #[v, v2] w fun e w' => ∃ v', e = .returned v' ∧ Rt.R w' v' (Rt.ratS s2 (y - x) bb).1 (Rt.ratS s2 (y - x) bb).2.1 (Rt.ratS s2 (y - x) bb).2.2 ∧ Below w.heap.size w w' := by
  have hbpos : 0 < bb := hbb ▸ Nat.mul_pos hb1 hb2
  have KX := fun v v2 w h h2 => Nt.Times_any t1 b2 v v2 w h h2 hl.1 hl.2.2.2
  have KY := fun v v2 w h h2 => Nt.Times_any t2 b1 v v2 w h h2 hl.2.2.1 hl.2.1
  have KB := fun v v2 w h h2 => Nt.Times_any b1 b2 v v2 w h h2 hl.2.1 hl.2.2.2
  rw [hx] at KX
  rw [hy] at KY
  rw [hbb] at KB
  have KA := fun v v2 w h h2 => Nt.Less_any y x v v2 w h h2 hly (Nat.le_of_lt hle)
  have KR := fun tv bv w h h2 => Rt.rat_any s2 (y - x) bb tv bv w h h2 hbpos hok
  have KO := fun v v2 w h h2 => Nt.Order_any x y v v2 w h h2 (by omega) (by omega)
  have hc0 : ¬ (0 : Int) ≤ Nt.cmp x y := by
    have := Nt.cmp_neg.2 hle
    omega
  have hcd : decide ((0 : Int) ≤ Nt.cmp x y) = false := decide_eq_false hc0
  generalize Nt.cmp x y = cc at *
  have hne : (s1 == s2) = false := by cases s1 <;> cases s2 <;> simp_all
  have hned : decide (s1 = s2) = false := decide_eq_false hs
  generalize Rt.ratS s2 (y - x) bb = rr at *
  generalize hrv : y - x = res at *
  obtain ⟨rs, rt, rb⟩ := rr
  simp only at KR ⊢
  clear hrv hok hb1 hb2 hbpos hl hx hy hbb hlx hly hle hs
  obtain ⟨tv1, bv1, rfl, hn1, hd1⟩ := h
  obtain ⟨tv2, bv2, rfl, hn2, hd2⟩ := h2
  obtain ⟨a1, c1, rfl⟩ := Nt.In.slice hn1
  obtain ⟨a2, c2, rfl⟩ := Nt.In.slice hd1
  obtain ⟨a3, c3, rfl⟩ := Nt.In.slice hn2
  obtain ⟨a4, c4, rfl⟩ := Nt.In.slice hd2
  generalize (Nt.dig t1).length = l1 at *
  generalize (Nt.dig b1).length = l2 at *
  generalize (Nt.dig t2).length = l3 at *
  generalize (Nt.dig b2).length = l4 at *
  obtain ⟨W2, hW2, q0, q1, q2, hsz, hb0⟩ := Rt.three w (.cells #[.bool s1, .slice a1 l1 c1, .slice a2 l2 c2] 32) (.cells #[.bool s2, .slice a3 l3 c3, .slice a4 l4 c4] 32) (.cells #[.bool false, .slice none 0 0, .slice none 0 0] 32)
  have HI := Lib.hid (fun (w' : World) (hb : Below W2.heap.size W2 w') => And.intro ((Nt.N.below hn1 hb0 (Nat.le_refl _)).below hb (Nat.le_refl _)) (And.intro ((Nt.N.below hd1 hb0 (Nat.le_refl _)).below hb (Nat.le_refl _)) (And.intro ((Nt.N.below hn2 hb0 (Nat.le_refl _)).below hb (Nat.le_refl _)) ((Nt.N.below hd2 hb0 (Nat.le_refl _)).below hb (Nat.le_refl _)))))
  have HK := Lib.hid (fun (w' : World) (hb : Below W2.heap.size W2 w') => And.intro (Rt.cells3 ((hb.block w.heap.size (by omega)).trans q0)) (Rt.cells3 ((hb.block (w.heap.size + 1) (by omega)).trans q1)))
  have HR := Lib.hid (fun (w' : World) (hb : Below W2.heap.size W2 w') => (hb.block (w.heap.size + 2) (by omega)).trans q2)
  have HKX := Lib.hid (fun (w' w'' : World) (hb : Below W2.heap.size W2 w') (hx : ∀ q, q ≠ w.heap.size + 2 → w''.heap[q]? = w'.heap[q]?) => And.intro (Rt.cells3 ((hx w.heap.size (by omega)).trans ((hb.block w.heap.size (by omega)).trans q0))) (Rt.cells3 ((hx (w.heap.size + 1) (by omega)).trans ((hb.block (w.heap.size + 1) (by omega)).trans q1))))
  have HB := Lib.hid (fun (w' : World) (hb : Below W2.heap.size W2 w') => hb0.trans (hb.mono (by omega : w.heap.size ≤ W2.heap.size)))
  have hacc : Below W2.heap.size W2 W2.drew := Rt.belowD (Below.refl _ _)
  have hkeep := HK.out _ hacc
  clear q0 q1 q2 hb0 hn1 hd1 hn2 hd2 hsz
  go_enter Tryz.func53, Tryz.ntmps53
  go_wp2_with fail
  clear hW2
  go_region_held3 (fun w' => (w'.cell? ⟨w.heap.size, 0, none⟩ = some (.bool s1) ∧ w'.cell? ⟨w.heap.size, 1, none⟩ = some (.slice a1 l1 c1) ∧ w'.cell? ⟨w.heap.size, 2, none⟩ = some (.slice a2 l2 c2)) ∧ (w'.cell? ⟨w.heap.size + 1, 0, none⟩ = some (.bool s2) ∧ w'.cell? ⟨w.heap.size + 1, 1, none⟩ = some (.slice a3 l3 c3) ∧ w'.cell? ⟨w.heap.size + 1, 2, none⟩ = some (.slice a4 l4 c4)))
    (first | exact hkeep)
    (first
      | (go_at_call_of 85 (Value.slice a1 l1 c1)
         refine (KX _ _ _ (HI.out _ hacc).1 (HI.out _ hacc).2.2.2).mono ?_
         rintro x w5 ⟨v5, rfl, hv5, hb5⟩
         have hacc := Rt.belowT hacc hb5
         have hkeep := HK.out _ hacc)
      | (go_at_call_of 85 (Value.slice a3 l3 c3)
         refine (KY _ _ _ (HI.out _ hacc).2.2.1 (HI.out _ hacc).2.1).mono ?_
         rintro x w6 ⟨v6, rfl, hv6, hb6⟩
         have hv5 := Nt.N.below hv5 hb6 (Nat.le_refl _)
         have hacc := Rt.belowT hacc hb6
         have hkeep := HK.out _ hacc))
  all_goals
    clear hb5 hb6
    obtain ⟨ax, cx, rfl⟩ := Nt.In.slice hv5
    obtain ⟨ay, cy, rfl⟩ := Nt.In.slice hv6
    generalize (Nt.dig x).length = lx at *
    generalize (Nt.dig y).length = ly at *
    obtain ⟨⟨e0, e1, e2⟩, f0, f1, f2⟩ := hkeep
    have HV := Lib.hid (And.intro hv5 (And.intro hv6 hacc))
    clear hv5 hv6 hacc
    go_wp2_with fail
    refine (KB _ _ _ (HI.out _ HV.out.2.2).2.1 (HI.out _ HV.out.2.2).2.2.2).mono ?_
    rintro z w7 ⟨v7, rfl, hv7, hb7⟩
    have hacc := Rt.belowT HV.out.2.2 hb7
    obtain ⟨⟨e0, e1, e2⟩, f0, f1, f2⟩ := HK.out _ hacc
    have HV := Lib.hid (And.intro (HV.out.1.below hb7 (Nat.le_refl _)) (And.intro (HV.out.2.1.below hb7 (Nat.le_refl _)) (And.intro hv7 hacc)))
    obtain ⟨az, cz, rfl⟩ := Nt.In.slice hv7
    generalize (Nt.dig bb).length = lz at *
    clear hv7 hb7 hacc
    go_wp2_with fail
    refine (KO _ _ _ HV.out.1 HV.out.2.1).mono ?_
    rintro z w8 ⟨rfl, hb8⟩
    have hacc := Rt.belowT HV.out.2.2.2 hb8
    obtain ⟨⟨e0, e1, e2⟩, f0, f1, f2⟩ := HK.out _ hacc
    have HV := Lib.hid (And.intro (HV.out.1.below hb8 (Nat.le_refl _)) (And.intro (HV.out.2.1.below hb8 (Nat.le_refl _)) (And.intro (HV.out.2.2.1.below hb8 (Nat.le_refl _)) hacc)))
    clear hb8 hacc
    go_wp2_with fail
    have hacc := Rt.belowD HV.out.2.2.2
    have hkeep := HK.out _ hacc
    clear e0 e1 e2 f0 f1 f2
    have HVD := Lib.hid (And.intro (HV.out.1.below ((Below.refl _ _).drew) (Nat.le_refl _)) (And.intro (HV.out.2.1.below ((Below.refl _ _).drew) (Nat.le_refl _)) (HV.out.2.2.1.below ((Below.refl _ _).drew) (Nat.le_refl _))))
    go_region_held3 (fun w' => (w'.cell? ⟨w.heap.size, 0, none⟩ = some (.bool s1) ∧ w'.cell? ⟨w.heap.size, 1, none⟩ = some (.slice a1 l1 c1) ∧ w'.cell? ⟨w.heap.size, 2, none⟩ = some (.slice a2 l2 c2)) ∧ (w'.cell? ⟨w.heap.size + 1, 0, none⟩ = some (.bool s2) ∧ w'.cell? ⟨w.heap.size + 1, 1, none⟩ = some (.slice a3 l3 c3) ∧ w'.cell? ⟨w.heap.size + 1, 2, none⟩ = some (.slice a4 l4 c4)))
      (first | exact hkeep | exact hkeepX)
      (first
        | (go_at_call_of 89 (Value.slice ay ly cy)
           refine (KA _ _ _ HVD.out.2.1 HVD.out.1).mono ?_
           rintro x w8 ⟨v8, rfl, hv8, hb8⟩
           have hvz := HVD.out.2.2.below hb8 (Nat.le_refl _)
           have hacc := Rt.belowT hacc hb8
           have hkeep := HK.out _ hacc)
        | (go_at_call 84
           refine (KR _ _ _ hv8 hvz).mono ?_
           rintro x w9 ⟨v9, rfl, ⟨tv, bv, rfl, hn, hd⟩, hb9⟩
           obtain ⟨a5, c5, rfl⟩ := Nt.In.slice hn
           obtain ⟨a6, c6, rfl⟩ := Nt.In.slice hd
           have hacc := Rt.belowT hacc hb9
           have hkeep := HK.out _ hacc
           obtain ⟨X1, X2, X3, ⟨g0, z0, s0⟩, ⟨g1, z1, s1'⟩, ⟨g2, z2, s2'⟩, ⟨r0, r1, r2'⟩, HX⟩ := Rt.put3 (HR.out _ hacc) (.bool rs) (.slice a5 (Nt.dig rt).length c5) (.slice a6 (Nt.dig rb).length c6)
           have HOUT : Hid (Nt.N X3 (.slice a5 (Nt.dig rt).length c5) rt ∧ Nt.N X3 (.slice a6 (Nt.dig rb).length c6) rb ∧ Below w.heap.size w X3) := Lib.hid ⟨Nt.In.othr hn (HR.out _ hacc) Rt.noWords HX.out.2.2.1 HX.out.2.1, Nt.In.othr hd (HR.out _ hacc) Rt.noWords HX.out.2.2.1 HX.out.2.1, HX.out.2.2.2 _ _ (HB.out _ hacc) (by omega)⟩
           have hkeepX := HKX.out _ X3 hacc HX.out.2.2.1))
  all_goals
    clear hkeep hkeepX hacc hb8 hb9 hv8 hvz hn hd HX
    generalize (Nt.dig rt).length = l5 at *
    generalize (Nt.dig rb).length = l6 at *
    go_wp2_with fail
    refine bodyPost_ret (v := .agg #[.bool rs, .slice a5 l5 c5, .slice a6 l6 c6]) (by simp [results, Tryz.results53, go_sem, r0, r1, r2']) rfl ⟨_, rfl, ⟨_, _, rfl, HOUT.out.1, HOUT.out.2.1⟩, HOUT.out.2.2⟩

theorem Rt.sum_any (s1 s2 : Bool) (t1 b1 t2 b2 : Nat) (v v2 : Value) (w : World) (h : Rt.R w v s1 t1 b1) (h2 : Rt.R w v2 s2 t2 b2) (hb1 : 0 < b1) (hb2 : 0 < b2) (hl : (Nt.dig t1).length ≤ 400000 ∧ (Nt.dig b1).length ≤ 400000 ∧ (Nt.dig t2).length ≤ 400000 ∧ (Nt.dig b2).length ≤ 400000) (hok : Nt.Ok (t1 * b2 + t2 * b1) (b1 * b2)) :
    Calls Tryz.prog 53 #[v, v2] w fun e w' => ∃ v', e = .returned v' ∧ Rt.R w' v' (Rt.sumS s1 t1 b1 s2 t2 b2).1 (Rt.sumS s1 t1 b1 s2 t2 b2).2.1 (Rt.sumS s1 t1 b1 s2 t2 b2).2.2 ∧ Below w.heap.size w w' := by
  have hx := Nat.le_trans (Nt.dig_len_mono (Nat.le_add_right (t1 * b2) (t2 * b1))) hok.2
  have hy := Nat.le_trans (Nt.dig_len_mono (Nat.le_add_left (t2 * b1) (t1 * b2))) hok.2
  by_cases hs : s1 = s2
  · have := Rt.sum_eq s1 s2 t1 b1 t2 b2 _ _ _ rfl rfl rfl v v2 w h h2 hb1 hb2 hl hx hy hs hok
    unfold Rt.sumS
    rwa [if_pos hs]
  · by_cases hle : t2 * b1 ≤ t1 * b2
    · have := Rt.sum_ge s1 s2 t1 b1 t2 b2 _ _ _ rfl rfl rfl v v2 w h h2 hb1 hb2 hl hx hy hs hle ⟨hok.1, Nat.le_trans (Nt.dig_len_mono (by omega)) hok.2⟩
      unfold Rt.sumS
      rwa [if_neg hs, if_pos hle]
    · have := Rt.sum_lt s1 s2 t1 b1 t2 b2 _ _ _ rfl rfl rfl v v2 w h h2 hb1 hb2 hl hx hy hs (by omega) ⟨hok.1, Nat.le_trans (Nt.dig_len_mono (by omega)) hok.2⟩
      unfold Rt.sumS
      rwa [if_neg hs, if_neg hle]
/-- Two boxes behind a world. -/
theorem Rt.two (w : World) (o o2 : Obj) : ∃ W2, (w.alloc o).alloc o2 = W2 ∧ W2.heap[w.heap.size]? = some o ∧ W2.heap[w.heap.size + 1]? = some o2 ∧ W2.heap.size = w.heap.size + 2 ∧ Below w.heap.size w W2 := by
  have h1 : (w.alloc o).heap.size = w.heap.size + 1 := by simp
  refine ⟨_, rfl, ?_, ?_, by simp, ?_⟩
  · exact (Lib.alloc_old _ _ _ (by rw [h1]; omega)).trans (heap_alloc_new w o)
  · have := heap_alloc_new (w.alloc o) o2
    rwa [h1] at this
  · exact ((Below.refl _ _).alloc (Nat.le_refl _) _).alloc (by rw [h1]; omega) _
/-- A number's value: what is real, what is imaginary. -/
def Rt.Q (w : World) (v : Value) (s : Bool) (t b : Nat) (s2 : Bool) (t2 b2 : Nat) : Prop := ∃ tv bv tv2 bv2, v = .agg #[.bool s, tv, bv, .bool s2, tv2, bv2] ∧ Nt.N w tv t ∧ Nt.N w bv b ∧ Nt.N w tv2 t2 ∧ Nt.N w bv2 b2
theorem Rt.noWords6 {s s2 : Bool} {a1 a2 a3 a4 : Option Addr} {n1 n2 n3 n4 c1 c2 c3 c4 : Nat} : ∀ (k : Nat) (n : Int), (#[Value.bool s, .slice a1 n1 c1, .slice a2 n2 c2, .bool s2, .slice a3 n3 c3, .slice a4 n4 c4] : Array Value)[k]? ≠ some (.int .u32 n) := by
  intro k n h
  have hm := Array.mem_of_getElem? h
  simp at hm
theorem Rt.cells6 {w : World} {b : Nat} {v0 v1 v2 v3 v4 v5 : Value} {t : TypeId} (h : w.heap[b]? = some (.cells #[v0, v1, v2, v3, v4, v5] t (0, 0))) : w.cell? ⟨b, 0, none⟩ = some v0 ∧ w.cell? ⟨b, 1, none⟩ = some v1 ∧ w.cell? ⟨b, 2, none⟩ = some v2 ∧ w.cell? ⟨b, 3, none⟩ = some v3 ∧ w.cell? ⟨b, 4, none⟩ = some v4 ∧ w.cell? ⟨b, 5, none⟩ = some v5 := ⟨Rt.cell_of h 0, Rt.cell_of h 1, Rt.cell_of h 2, Rt.cell_of h 3, Rt.cell_of h 4, Rt.cell_of h 5⟩
/-- Six cells are stored. -/
theorem Rt.put6 {w : World} {b : Nat} {v0 v1 v2 v3 v4 v5 : Value} {t : TypeId} (h : w.heap[b]? = some (.cells #[v0, v1, v2, v3, v4, v5] t (0, 0))) (u0 u1 u2 u3 u4 u5 : Value) :
    ∃ W1 W2 W3 W4 W5 W6 : World,
    (w.cell? ⟨b, 0, none⟩ = some v0 ∧ w.frozen? ⟨b, 0, none⟩ = false ∧ w.setCell ⟨b, 0, none⟩ u0 = W1) ∧
    (W1.cell? ⟨b, 1, none⟩ = some v1 ∧ W1.frozen? ⟨b, 1, none⟩ = false ∧ W1.setCell ⟨b, 1, none⟩ u1 = W2) ∧
    (W2.cell? ⟨b, 2, none⟩ = some v2 ∧ W2.frozen? ⟨b, 2, none⟩ = false ∧ W2.setCell ⟨b, 2, none⟩ u2 = W3) ∧
    (W3.cell? ⟨b, 3, none⟩ = some v3 ∧ W3.frozen? ⟨b, 3, none⟩ = false ∧ W3.setCell ⟨b, 3, none⟩ u3 = W4) ∧
    (W4.cell? ⟨b, 4, none⟩ = some v4 ∧ W4.frozen? ⟨b, 4, none⟩ = false ∧ W4.setCell ⟨b, 4, none⟩ u4 = W5) ∧
    (W5.cell? ⟨b, 5, none⟩ = some v5 ∧ W5.frozen? ⟨b, 5, none⟩ = false ∧ W5.setCell ⟨b, 5, none⟩ u5 = W6) ∧
    (W6.cell? ⟨b, 0, none⟩ = some u0 ∧ W6.cell? ⟨b, 1, none⟩ = some u1 ∧ W6.cell? ⟨b, 2, none⟩ = some u2 ∧ W6.cell? ⟨b, 3, none⟩ = some u3 ∧ W6.cell? ⟨b, 4, none⟩ = some u4 ∧ W6.cell? ⟨b, 5, none⟩ = some u5) ∧
    Hid (W6.heap[b]? = some (.cells #[u0, u1, u2, u3, u4, u5] t (0, 0)) ∧ W6.heap.size = w.heap.size ∧ (∀ q, q ≠ b → W6.heap[q]? = w.heap[q]?) ∧ ∀ (B : Nat) (w0 : World), Below B w0 w → B ≤ b → Below B w0 W6) := by
  obtain ⟨A1, h1⟩ : ∃ z, w.setCell ⟨b, 0, none⟩ u0 = z := ⟨_, rfl⟩
  obtain ⟨A2, h2⟩ : ∃ z, A1.setCell ⟨b, 1, none⟩ u1 = z := ⟨_, rfl⟩
  obtain ⟨A3, h3⟩ : ∃ z, A2.setCell ⟨b, 2, none⟩ u2 = z := ⟨_, rfl⟩
  obtain ⟨A4, h4⟩ : ∃ z, A3.setCell ⟨b, 3, none⟩ u3 = z := ⟨_, rfl⟩
  obtain ⟨A5, h5⟩ : ∃ z, A4.setCell ⟨b, 4, none⟩ u4 = z := ⟨_, rfl⟩
  obtain ⟨A6, h6⟩ : ∃ z, A5.setCell ⟨b, 5, none⟩ u5 = z := ⟨_, rfl⟩
  have g1 : A1.heap[b]? = some (.cells #[u0, v1, v2, v3, v4, v5] t (0, 0)) := h1 ▸ Rt.setCells h 0 u0
  have g2 : A2.heap[b]? = some (.cells #[u0, u1, v2, v3, v4, v5] t (0, 0)) := h2 ▸ Rt.setCells g1 1 u1
  have g3 : A3.heap[b]? = some (.cells #[u0, u1, u2, v3, v4, v5] t (0, 0)) := h3 ▸ Rt.setCells g2 2 u2
  have g4 : A4.heap[b]? = some (.cells #[u0, u1, u2, u3, v4, v5] t (0, 0)) := h4 ▸ Rt.setCells g3 3 u3
  have g5 : A5.heap[b]? = some (.cells #[u0, u1, u2, u3, u4, v5] t (0, 0)) := h5 ▸ Rt.setCells g4 4 u4
  have g6 : A6.heap[b]? = some (.cells #[u0, u1, u2, u3, u4, u5] t (0, 0)) := h6 ▸ Rt.setCells g5 5 u5
  refine ⟨A1, A2, A3, A4, A5, A6, ⟨Rt.cell_of h 0, Rt.frozen_of h 0, h1⟩, ⟨Rt.cell_of g1 1, Rt.frozen_of g1 1, h2⟩, ⟨Rt.cell_of g2 2, Rt.frozen_of g2 2, h3⟩, ⟨Rt.cell_of g3 3, Rt.frozen_of g3 3, h4⟩, ⟨Rt.cell_of g4 4, Rt.frozen_of g4 4, h5⟩, ⟨Rt.cell_of g5 5, Rt.frozen_of g5 5, h6⟩, Rt.cells6 g6, Lib.hid ⟨g6, ?_, fun q hq => ?_, fun B w0 hb hB => ?_⟩⟩
  · subst h1 h2 h3 h4 h5 h6
    simp
  · subst h1 h2 h3 h4 h5 h6
    rw [Below.heap_setCell _ ⟨b, 5, none⟩ _ q hq, Below.heap_setCell _ ⟨b, 4, none⟩ _ q hq, Below.heap_setCell _ ⟨b, 3, none⟩ _ q hq, Below.heap_setCell _ ⟨b, 2, none⟩ _ q hq, Below.heap_setCell _ ⟨b, 1, none⟩ _ q hq, Below.heap_setCell _ ⟨b, 0, none⟩ _ q hq]
  · subst h1 h2 h3 h4 h5 h6
    exact (((((hb.setCell (p := ⟨b, 0, none⟩) hB _).setCell (p := ⟨b, 1, none⟩) hB _).setCell (p := ⟨b, 2, none⟩) hB _).setCell (p := ⟨b, 3, none⟩) hB _).setCell (p := ⟨b, 4, none⟩) hB _).setCell (p := ⟨b, 5, none⟩) hB _
/-- A slice that lies in blocks from B on, if in any. -/
def Nt.Fr (B : Nat) (v : Value) : Prop := ∀ b off l c, v = .slice (some ⟨b, off, none⟩) l c → B ≤ b
theorem Nt.Fr.mono {B B' : Nat} {v : Value} (h : Nt.Fr B v) (hB : B' ≤ B) : Nt.Fr B' v := fun b off l c e => Nat.le_trans hB (h b off l c e)
theorem Nt.Fr.own {w : World} {B : Nat} {t : TypeId} {v : Value} {n : Nat} {xs : List Value} (h : w.ownsRow B t 1 v n xs) : Nt.Fr B v := by
  intro b off l c e
  rcases h.2 with ⟨hv, _⟩ | ⟨g, cap, cur, hv, hB, _⟩
  · rw [hv] at e; simp at e
  · rw [hv] at e
    simp only [Value.slice.injEq, Option.some.injEq, Addr.mk.injEq] at e
    omega
theorem Nt.Clone_fr (ws : List Nat) (v : Value) (w : World) (h : Nt.In w v ws) (hl : ws.length ≤ 1000000) : Calls Tryz.prog 120 #[v] w fun e w' => ∃ v', e = .returned v' ∧ Nt.In w' v' ws ∧ Nt.Fr w.heap.size v' ∧ Below w.heap.size w w' :=
  (Nt.Clone_own ws v w h hl).mono fun _ _ ⟨v', he, ho, hb⟩ => ⟨v', he, Nt.In.of_own ho, Nt.Fr.own ho, hb⟩
/-- A fraction whose words lie in blocks from B on. -/
def Rt.Fr (B : Nat) (v : Value) : Prop := ∃ s tv bv, v = .agg #[s, tv, bv] ∧ Nt.Fr B tv ∧ Nt.Fr B bv
set_option maxHeartbeats 8000000 in
set_option maxRecDepth 1000000 in
theorem Rt.own1_any (s : Bool) (t b : Nat) (v : Value) (w : World) (h : Rt.R w v s t b) (hl : (Nt.dig t).length ≤ 400000 ∧ (Nt.dig b).length ≤ 400000) :
    Calls Tryz.prog 127 #[v] w fun e w' => ∃ v', e = .returned v' ∧ Rt.R w' v' s t b ∧ Rt.Fr w.heap.size v' ∧ Below w.heap.size w w' := by
  have KT := fun v w h => Nt.Clone_fr (Nt.dig t) v w h (by omega)
  have KB := fun v w h => Nt.Clone_fr (Nt.dig b) v w h (by omega)
  clear hl
  obtain ⟨tv1, bv1, rfl, hn1, hd1⟩ := h
  obtain ⟨a1, c1, rfl⟩ := Nt.In.slice hn1
  obtain ⟨a2, c2, rfl⟩ := Nt.In.slice hd1
  generalize (Nt.dig t).length = l1 at *
  generalize (Nt.dig b).length = l2 at *
  obtain ⟨W2, hW2, q0, q1, hsz, hb0⟩ := Rt.two w (.cells #[.bool s, .slice a1 l1 c1, .slice a2 l2 c2] 32) (.cells #[.bool false, .slice none 0 0, .slice none 0 0] 32)
  have HI := Lib.hid (fun (w' : World) (hb : Below W2.heap.size W2 w') => And.intro ((Nt.N.below hn1 hb0 (Nat.le_refl _)).below hb (Nat.le_refl _)) ((Nt.N.below hd1 hb0 (Nat.le_refl _)).below hb (Nat.le_refl _)))
  have HK := Lib.hid (fun (w' : World) (hb : Below W2.heap.size W2 w') => Rt.cells3 ((hb.block w.heap.size (by omega)).trans q0))
  have HR := Lib.hid (fun (w' : World) (hb : Below W2.heap.size W2 w') => (hb.block (w.heap.size + 1) (by omega)).trans q1)
  have HKX := Lib.hid (fun (w' w'' : World) (hb : Below W2.heap.size W2 w') (hx : ∀ q, q ≠ w.heap.size + 1 → w''.heap[q]? = w'.heap[q]?) => (Rt.cells3 ((hx w.heap.size (by omega)).trans ((hb.block w.heap.size (by omega)).trans q0))))
  have HB := Lib.hid (fun (w' : World) (hb : Below W2.heap.size W2 w') => hb0.trans (hb.mono (by omega : w.heap.size ≤ W2.heap.size)))
  have hacc : Below W2.heap.size W2 W2.drew := Rt.belowD (Below.refl _ _)
  have hkeep := HK.out _ hacc
  have HZ : Hid (∀ w', Below W2.heap.size W2 w' → w.heap.size ≤ w'.heap.size) := Lib.hid (fun w' hb => by have := hb.size; omega)
  clear q0 q1 hb0 hn1 hd1 hsz
  go_enter Tryz.func127, Tryz.ntmps127
  go_wp2_with fail
  clear hW2
  go_region_held3 (fun w' => w'.cell? ⟨w.heap.size, 0, none⟩ = some (.bool s) ∧ w'.cell? ⟨w.heap.size, 1, none⟩ = some (.slice a1 l1 c1) ∧ w'.cell? ⟨w.heap.size, 2, none⟩ = some (.slice a2 l2 c2))
    (first | exact hkeep | exact hkeepX)
    (first
      | (go_at_call_of 120 (Value.slice a1 l1 c1)
         refine (KT _ _ (HI.out _ hacc).1).mono ?_
         rintro x w5 ⟨v5, rfl, hv5, hf5, hb5⟩
         have hf5 := Lib.hid (hf5.mono (HZ.out _ hacc))
         have hacc := Rt.belowT hacc hb5
         have hkeep := HK.out _ hacc)
      | (go_at_call_of 120 (Value.slice a2 l2 c2)
         refine (KB _ _ (HI.out _ hacc).2).mono ?_
         rintro x w6 ⟨v6, rfl, hv6, hf6, hb6⟩
         have hf6 := Lib.hid (hf6.mono (HZ.out _ hacc))
         have hn : Nt.N w6 v5 t := Nt.In.below hv5 hb6 (Nat.le_refl _)
         have hd : Nt.N w6 v6 b := hv6
         obtain ⟨a5, c5, rfl⟩ := Nt.In.slice hn
         obtain ⟨a6, c6, rfl⟩ := Nt.In.slice hd
         have hacc := Rt.belowT hacc hb6
         have hkeep := HK.out _ hacc
         obtain ⟨X1, X2, X3, ⟨f0, z0, s0⟩, ⟨f1, z1, s1'⟩, ⟨f2, z2, s2'⟩, ⟨r0, r1, r2'⟩, HX⟩ := Rt.put3 (HR.out _ hacc) (.bool s) (.slice a5 (Nt.dig t).length c5) (.slice a6 (Nt.dig b).length c6)
         have HOUT : Hid (Nt.N X3 (.slice a5 (Nt.dig t).length c5) t ∧ Nt.N X3 (.slice a6 (Nt.dig b).length c6) b ∧ Below w.heap.size w X3) := Lib.hid ⟨Nt.In.othr hn (HR.out _ hacc) Rt.noWords HX.out.2.2.1 HX.out.2.1, Nt.In.othr hd (HR.out _ hacc) Rt.noWords HX.out.2.2.1 HX.out.2.1, HX.out.2.2.2 _ _ (HB.out _ hacc) (by omega)⟩
         have hkeepX := HKX.out _ X3 hacc HX.out.2.2.1))
  all_goals
    clear hkeep hkeepX hacc hb5 hb6 hv5 hv6 hn hd HX
    generalize (Nt.dig t).length = l5 at *
    generalize (Nt.dig b).length = l6 at *
    go_wp2_with fail
    refine bodyPost_ret (v := .agg #[.bool s, .slice a5 l5 c5, .slice a6 l6 c6]) (by simp [results, Tryz.results127, go_sem, r0, r1, r2']) rfl ⟨_, rfl, ⟨_, _, rfl, HOUT.out.1, HOUT.out.2.1⟩, ⟨_, _, _, rfl, hf5.out, hf6.out⟩, HOUT.out.2.2⟩

/-- A number as it may come. -/
structure Rt.GN (w : World) (v : Value) (s : Bool) (t b : List Nat) (s2 : Bool) (t2 b2 : List Nat) : Prop where
  form : ∃ v3 v4 v6 v7, v = .agg #[.bool s, v3, v4, .bool s2, v6, v7] ∧ Nt.In w v3 t ∧ Nt.In w v4 b ∧ Nt.In w v6 t2 ∧ Nt.In w v7 b2
  ok1 : Rt.GOk t b
  ok2 : Rt.GOk t2 b2
theorem Rt.GN.below {w w' : World} {v : Value} {s s2 : Bool} {t b t2 b2 : List Nat} {B : Nat} (h : Rt.GN w v s t b s2 t2 b2) (hb : Below B w w') (hB : w.heap.size ≤ B) : Rt.GN w' v s t b s2 t2 b2 := by
  obtain ⟨⟨v3, v4, v6, v7, e, h1, h2, h3, h4⟩, o1, o2⟩ := h
  exact ⟨⟨v3, v4, v6, v7, e, h1.below hb hB, h2.below hb hB, h3.below hb hB, h4.below hb hB⟩, o1, o2⟩
def Rt.soundN (s : Bool) (t b : List Nat) (s2 : Bool) (t2 b2 : List Nat) : Bool := Rt.sound s t b && Rt.sound s2 t2 b2
set_option maxHeartbeats 4000000 in
set_option maxRecDepth 1000000 in
theorem Rt.Sound_any (s : Bool) (t b : List Nat) (s2 : Bool) (t2 b2 : List Nat) (v : Value) (w : World) (h : Rt.GN w v s t b s2 t2 b2) : Calls Tryz.prog 48 #[v] w fun e w' => e = .returned (.bool (Rt.soundN s t b s2 t2 b2)) ∧ Below w.heap.size w w' := by
  obtain ⟨⟨v3, v4, v6, v7, rfl, h1, h2, h3, h4⟩, o1, o2⟩ := h
  have K1 := fun w h => Rt.ratSound_any s t b (.agg #[.bool s, v3, v4]) w h o1
  have K2 := fun w h => Rt.ratSound_any s2 t2 b2 (.agg #[.bool s2, v6, v7]) w h o2
  obtain ⟨a1, c1, rfl⟩ := h1.slice
  obtain ⟨a2, c2, rfl⟩ := h2.slice
  obtain ⟨a3, c3, rfl⟩ := h3.slice
  obtain ⟨a4, c4, rfl⟩ := h4.slice
  obtain ⟨W, hW⟩ : ∃ W, w.alloc (.cells #[.bool s, .slice a1 t.length c1, .slice a2 b.length c2, .bool s2, .slice a3 t2.length c3, .slice a4 b2.length c4] 34) = W := ⟨_, rfl⟩
  have q0 : W.heap[w.heap.size]? = some (.cells #[.bool s, .slice a1 t.length c1, .slice a2 b.length c2, .bool s2, .slice a3 t2.length c3, .slice a4 b2.length c4] 34 (0, 0)) := by rw [← hW]; exact heap_alloc_new w _
  have hb0 : Below w.heap.size w W := by rw [← hW]; exact (Below.refl _ _).alloc (Nat.le_refl _) _
  have HI := Lib.hid (fun (w' : World) (hb : Below W.heap.size W w') => And.intro (show Rt.G w' (.agg #[.bool s, .slice a1 t.length c1, .slice a2 b.length c2]) s t b from ⟨_, _, rfl, (h1.below hb0 (Nat.le_refl _)).below hb (Nat.le_refl _), (h2.below hb0 (Nat.le_refl _)).below hb (Nat.le_refl _)⟩) (show Rt.G w' (.agg #[.bool s2, .slice a3 t2.length c3, .slice a4 b2.length c4]) s2 t2 b2 from ⟨_, _, rfl, (h3.below hb0 (Nat.le_refl _)).below hb (Nat.le_refl _), (h4.below hb0 (Nat.le_refl _)).below hb (Nat.le_refl _)⟩))
  have hzw : w.heap.size < W.heap.size := (Array.getElem?_eq_some_iff.1 q0).1
  have HK := Lib.hid (fun (w' : World) (hb : Below W.heap.size W w') => Rt.cells6 ((hb.block w.heap.size hzw).trans q0))
  have HB := Lib.hid (fun (w' : World) (hb : Below W.heap.size W w') => hb0.trans (hb.mono (by omega : w.heap.size ≤ W.heap.size)))
  obtain ⟨d0, d1, d2, d3, d4, d5⟩ := HK.out _ (Below.refl _ _)
  clear h1 h2 h3 h4 o1 o2 q0 hb0 hzw
  unfold Rt.soundN
  generalize Rt.sound s t b = S1 at *
  generalize Rt.sound s2 t2 b2 = S2 at *
  generalize t.length = l1 at *
  generalize b.length = l2 at *
  generalize t2.length = l3 at *
  generalize b2.length = l4 at *
  rcases S1 with _ | _
  · go_enter Tryz.func48, Tryz.ntmps48
    go_wp2_with fail
    refine (K1 _ (HI.out _ (Below.refl _ _)).1).mono ?_
    rintro x w1 ⟨rfl, hb1⟩
    have HB1 := Lib.hid (HB.out _ hb1)
    clear hb1 hW
    go_wp2_with fail
    go_ret
    exact ⟨by simp, HB1.out⟩
  · go_enter Tryz.func48, Tryz.ntmps48
    go_wp2_with fail
    refine (K1 _ (HI.out _ (Below.refl _ _)).1).mono ?_
    rintro x w1 ⟨rfl, hb1⟩
    have HBB := Lib.hid hb1
    clear d0 d1 d2 d3 d4 d5
    obtain ⟨d0, d1, d2, d3, d4, d5⟩ := HK.out _ hb1
    clear hb1 hW
    go_wp2_with fail
    refine (K2 _ (HI.out _ HBB.out).2).mono ?_
    rintro x w2 ⟨rfl, hb2⟩
    have HB2 := Lib.hid (HB.out _ (HBB.out.trans (hb2.mono HBB.out.size)))
    clear hb2
    go_wp2_with fail
    go_ret
    exact ⟨by simp, HB2.out⟩

theorem Dt.cell_of {w : World} {b : Nat} {C : Array Value} {t : TypeId} (h : w.heap[b]? = some (.cells C t (0, 0))) (k : Nat) : w.cell? ⟨b, k, none⟩ = C[k]? := by
  simp [World.cell?, h]
theorem Dt.setCells {w : World} {b : Nat} {C : Array Value} {t : TypeId} (h : w.heap[b]? = some (.cells C t (0, 0))) (k : Nat) (u : Value) : (w.setCell ⟨b, k, none⟩ u).heap[b]? = some (.cells (C.set! k u) t (0, 0)) := by
  obtain ⟨hlt, hk⟩ := Array.getElem?_eq_some_iff.1 h
  show (w.heap.modify b _)[b]? = _
  rw [Array.getElem?_eq_getElem (by rw [Array.size_modify]; exact hlt), Array.getElem_modify_self, hk]
  rfl
theorem Dt.frozen_of {w : World} {b : Nat} {C : Array Value} {t : TypeId} (h : w.heap[b]? = some (.cells C t (0, 0))) (k : Nat) : w.frozen? ⟨b, k, none⟩ = false := by
  simp [World.frozen?, h]
theorem Dt.cells11 {w : World} {b : Nat} {v0 v1 v2 v3 v4 v5 v6 v7 v8 v9 v10 : Value} {t : TypeId} (h : w.heap[b]? = some (.cells #[v0, v1, v2, v3, v4, v5, v6, v7, v8, v9, v10] t (0, 0))) :
    w.cell? ⟨b, 0, none⟩ = some v0 ∧ w.cell? ⟨b, 1, none⟩ = some v1 ∧ w.cell? ⟨b, 2, none⟩ = some v2 ∧ w.cell? ⟨b, 3, none⟩ = some v3 ∧ w.cell? ⟨b, 4, none⟩ = some v4 ∧ w.cell? ⟨b, 5, none⟩ = some v5 ∧ w.cell? ⟨b, 6, none⟩ = some v6 ∧ w.cell? ⟨b, 7, none⟩ = some v7 ∧ w.cell? ⟨b, 8, none⟩ = some v8 ∧ w.cell? ⟨b, 9, none⟩ = some v9 ∧ w.cell? ⟨b, 10, none⟩ = some v10 :=
  ⟨Dt.cell_of h 0, Dt.cell_of h 1, Dt.cell_of h 2, Dt.cell_of h 3, Dt.cell_of h 4, Dt.cell_of h 5, Dt.cell_of h 6, Dt.cell_of h 7, Dt.cell_of h 8, Dt.cell_of h 9, Dt.cell_of h 10⟩


theorem Dt.below_set {w0 w : World} {B : Nat} (h : Below B w0 w) (b k : Nat) (u : Value) (hb : B ≤ b) : Below B w0 (w.setCell ⟨b, k, none⟩ u) := by
  exact h.setCell hb _
theorem Dt.store11 {w : World} {b : Nat} {v0 v1 v2 v3 v4 v5 v6 v7 v8 v9 v10 : Value} {t : TypeId} (h : w.heap[b]? = some (.cells #[v0, v1, v2, v3, v4, v5, v6, v7, v8, v9, v10] t (0, 0))) (u0 u1 u2 u3 u4 u5 u6 u7 u8 u9 u10 : Value) :
    w.cell? ⟨b, 0, none⟩ = some v0 ∧
    w.frozen? ⟨b, 0, none⟩ = false ∧
    (w.setCell ⟨b, 0, none⟩ u0).cell? ⟨b, 1, none⟩ = some v1 ∧
    (w.setCell ⟨b, 0, none⟩ u0).frozen? ⟨b, 1, none⟩ = false ∧
    ((w.setCell ⟨b, 0, none⟩ u0).setCell ⟨b, 1, none⟩ u1).cell? ⟨b, 2, none⟩ = some v2 ∧
    ((w.setCell ⟨b, 0, none⟩ u0).setCell ⟨b, 1, none⟩ u1).frozen? ⟨b, 2, none⟩ = false ∧
    (((w.setCell ⟨b, 0, none⟩ u0).setCell ⟨b, 1, none⟩ u1).setCell ⟨b, 2, none⟩ u2).cell? ⟨b, 3, none⟩ = some v3 ∧
    (((w.setCell ⟨b, 0, none⟩ u0).setCell ⟨b, 1, none⟩ u1).setCell ⟨b, 2, none⟩ u2).frozen? ⟨b, 3, none⟩ = false ∧
    ((((w.setCell ⟨b, 0, none⟩ u0).setCell ⟨b, 1, none⟩ u1).setCell ⟨b, 2, none⟩ u2).setCell ⟨b, 3, none⟩ u3).cell? ⟨b, 4, none⟩ = some v4 ∧
    ((((w.setCell ⟨b, 0, none⟩ u0).setCell ⟨b, 1, none⟩ u1).setCell ⟨b, 2, none⟩ u2).setCell ⟨b, 3, none⟩ u3).frozen? ⟨b, 4, none⟩ = false ∧
    (((((w.setCell ⟨b, 0, none⟩ u0).setCell ⟨b, 1, none⟩ u1).setCell ⟨b, 2, none⟩ u2).setCell ⟨b, 3, none⟩ u3).setCell ⟨b, 4, none⟩ u4).cell? ⟨b, 5, none⟩ = some v5 ∧
    (((((w.setCell ⟨b, 0, none⟩ u0).setCell ⟨b, 1, none⟩ u1).setCell ⟨b, 2, none⟩ u2).setCell ⟨b, 3, none⟩ u3).setCell ⟨b, 4, none⟩ u4).frozen? ⟨b, 5, none⟩ = false ∧
    ((((((w.setCell ⟨b, 0, none⟩ u0).setCell ⟨b, 1, none⟩ u1).setCell ⟨b, 2, none⟩ u2).setCell ⟨b, 3, none⟩ u3).setCell ⟨b, 4, none⟩ u4).setCell ⟨b, 5, none⟩ u5).cell? ⟨b, 6, none⟩ = some v6 ∧
    ((((((w.setCell ⟨b, 0, none⟩ u0).setCell ⟨b, 1, none⟩ u1).setCell ⟨b, 2, none⟩ u2).setCell ⟨b, 3, none⟩ u3).setCell ⟨b, 4, none⟩ u4).setCell ⟨b, 5, none⟩ u5).frozen? ⟨b, 6, none⟩ = false ∧
    (((((((w.setCell ⟨b, 0, none⟩ u0).setCell ⟨b, 1, none⟩ u1).setCell ⟨b, 2, none⟩ u2).setCell ⟨b, 3, none⟩ u3).setCell ⟨b, 4, none⟩ u4).setCell ⟨b, 5, none⟩ u5).setCell ⟨b, 6, none⟩ u6).cell? ⟨b, 7, none⟩ = some v7 ∧
    (((((((w.setCell ⟨b, 0, none⟩ u0).setCell ⟨b, 1, none⟩ u1).setCell ⟨b, 2, none⟩ u2).setCell ⟨b, 3, none⟩ u3).setCell ⟨b, 4, none⟩ u4).setCell ⟨b, 5, none⟩ u5).setCell ⟨b, 6, none⟩ u6).frozen? ⟨b, 7, none⟩ = false ∧
    ((((((((w.setCell ⟨b, 0, none⟩ u0).setCell ⟨b, 1, none⟩ u1).setCell ⟨b, 2, none⟩ u2).setCell ⟨b, 3, none⟩ u3).setCell ⟨b, 4, none⟩ u4).setCell ⟨b, 5, none⟩ u5).setCell ⟨b, 6, none⟩ u6).setCell ⟨b, 7, none⟩ u7).cell? ⟨b, 8, none⟩ = some v8 ∧
    ((((((((w.setCell ⟨b, 0, none⟩ u0).setCell ⟨b, 1, none⟩ u1).setCell ⟨b, 2, none⟩ u2).setCell ⟨b, 3, none⟩ u3).setCell ⟨b, 4, none⟩ u4).setCell ⟨b, 5, none⟩ u5).setCell ⟨b, 6, none⟩ u6).setCell ⟨b, 7, none⟩ u7).frozen? ⟨b, 8, none⟩ = false ∧
    (((((((((w.setCell ⟨b, 0, none⟩ u0).setCell ⟨b, 1, none⟩ u1).setCell ⟨b, 2, none⟩ u2).setCell ⟨b, 3, none⟩ u3).setCell ⟨b, 4, none⟩ u4).setCell ⟨b, 5, none⟩ u5).setCell ⟨b, 6, none⟩ u6).setCell ⟨b, 7, none⟩ u7).setCell ⟨b, 8, none⟩ u8).cell? ⟨b, 9, none⟩ = some v9 ∧
    (((((((((w.setCell ⟨b, 0, none⟩ u0).setCell ⟨b, 1, none⟩ u1).setCell ⟨b, 2, none⟩ u2).setCell ⟨b, 3, none⟩ u3).setCell ⟨b, 4, none⟩ u4).setCell ⟨b, 5, none⟩ u5).setCell ⟨b, 6, none⟩ u6).setCell ⟨b, 7, none⟩ u7).setCell ⟨b, 8, none⟩ u8).frozen? ⟨b, 9, none⟩ = false ∧
    ((((((((((w.setCell ⟨b, 0, none⟩ u0).setCell ⟨b, 1, none⟩ u1).setCell ⟨b, 2, none⟩ u2).setCell ⟨b, 3, none⟩ u3).setCell ⟨b, 4, none⟩ u4).setCell ⟨b, 5, none⟩ u5).setCell ⟨b, 6, none⟩ u6).setCell ⟨b, 7, none⟩ u7).setCell ⟨b, 8, none⟩ u8).setCell ⟨b, 9, none⟩ u9).cell? ⟨b, 10, none⟩ = some v10 ∧
    ((((((((((w.setCell ⟨b, 0, none⟩ u0).setCell ⟨b, 1, none⟩ u1).setCell ⟨b, 2, none⟩ u2).setCell ⟨b, 3, none⟩ u3).setCell ⟨b, 4, none⟩ u4).setCell ⟨b, 5, none⟩ u5).setCell ⟨b, 6, none⟩ u6).setCell ⟨b, 7, none⟩ u7).setCell ⟨b, 8, none⟩ u8).setCell ⟨b, 9, none⟩ u9).frozen? ⟨b, 10, none⟩ = false ∧
    (((((((((((w.setCell ⟨b, 0, none⟩ u0).setCell ⟨b, 1, none⟩ u1).setCell ⟨b, 2, none⟩ u2).setCell ⟨b, 3, none⟩ u3).setCell ⟨b, 4, none⟩ u4).setCell ⟨b, 5, none⟩ u5).setCell ⟨b, 6, none⟩ u6).setCell ⟨b, 7, none⟩ u7).setCell ⟨b, 8, none⟩ u8).setCell ⟨b, 9, none⟩ u9).setCell ⟨b, 10, none⟩ u10).heap[b]? = some (.cells #[u0, u1, u2, u3, u4, u5, u6, u7, u8, u9, u10] t (0, 0)) := by
  have h0 := h
  have h1 : (w.setCell ⟨b, 0, none⟩ u0).heap[b]? = some (.cells #[u0, v1, v2, v3, v4, v5, v6, v7, v8, v9, v10] t (0, 0)) := Dt.setCells h0 0 u0
  have h2 : ((w.setCell ⟨b, 0, none⟩ u0).setCell ⟨b, 1, none⟩ u1).heap[b]? = some (.cells #[u0, u1, v2, v3, v4, v5, v6, v7, v8, v9, v10] t (0, 0)) := Dt.setCells h1 1 u1
  have h3 : (((w.setCell ⟨b, 0, none⟩ u0).setCell ⟨b, 1, none⟩ u1).setCell ⟨b, 2, none⟩ u2).heap[b]? = some (.cells #[u0, u1, u2, v3, v4, v5, v6, v7, v8, v9, v10] t (0, 0)) := Dt.setCells h2 2 u2
  have h4 : ((((w.setCell ⟨b, 0, none⟩ u0).setCell ⟨b, 1, none⟩ u1).setCell ⟨b, 2, none⟩ u2).setCell ⟨b, 3, none⟩ u3).heap[b]? = some (.cells #[u0, u1, u2, u3, v4, v5, v6, v7, v8, v9, v10] t (0, 0)) := Dt.setCells h3 3 u3
  have h5 : (((((w.setCell ⟨b, 0, none⟩ u0).setCell ⟨b, 1, none⟩ u1).setCell ⟨b, 2, none⟩ u2).setCell ⟨b, 3, none⟩ u3).setCell ⟨b, 4, none⟩ u4).heap[b]? = some (.cells #[u0, u1, u2, u3, u4, v5, v6, v7, v8, v9, v10] t (0, 0)) := Dt.setCells h4 4 u4
  have h6 : ((((((w.setCell ⟨b, 0, none⟩ u0).setCell ⟨b, 1, none⟩ u1).setCell ⟨b, 2, none⟩ u2).setCell ⟨b, 3, none⟩ u3).setCell ⟨b, 4, none⟩ u4).setCell ⟨b, 5, none⟩ u5).heap[b]? = some (.cells #[u0, u1, u2, u3, u4, u5, v6, v7, v8, v9, v10] t (0, 0)) := Dt.setCells h5 5 u5
  have h7 : (((((((w.setCell ⟨b, 0, none⟩ u0).setCell ⟨b, 1, none⟩ u1).setCell ⟨b, 2, none⟩ u2).setCell ⟨b, 3, none⟩ u3).setCell ⟨b, 4, none⟩ u4).setCell ⟨b, 5, none⟩ u5).setCell ⟨b, 6, none⟩ u6).heap[b]? = some (.cells #[u0, u1, u2, u3, u4, u5, u6, v7, v8, v9, v10] t (0, 0)) := Dt.setCells h6 6 u6
  have h8 : ((((((((w.setCell ⟨b, 0, none⟩ u0).setCell ⟨b, 1, none⟩ u1).setCell ⟨b, 2, none⟩ u2).setCell ⟨b, 3, none⟩ u3).setCell ⟨b, 4, none⟩ u4).setCell ⟨b, 5, none⟩ u5).setCell ⟨b, 6, none⟩ u6).setCell ⟨b, 7, none⟩ u7).heap[b]? = some (.cells #[u0, u1, u2, u3, u4, u5, u6, u7, v8, v9, v10] t (0, 0)) := Dt.setCells h7 7 u7
  have h9 : (((((((((w.setCell ⟨b, 0, none⟩ u0).setCell ⟨b, 1, none⟩ u1).setCell ⟨b, 2, none⟩ u2).setCell ⟨b, 3, none⟩ u3).setCell ⟨b, 4, none⟩ u4).setCell ⟨b, 5, none⟩ u5).setCell ⟨b, 6, none⟩ u6).setCell ⟨b, 7, none⟩ u7).setCell ⟨b, 8, none⟩ u8).heap[b]? = some (.cells #[u0, u1, u2, u3, u4, u5, u6, u7, u8, v9, v10] t (0, 0)) := Dt.setCells h8 8 u8
  have h10 : ((((((((((w.setCell ⟨b, 0, none⟩ u0).setCell ⟨b, 1, none⟩ u1).setCell ⟨b, 2, none⟩ u2).setCell ⟨b, 3, none⟩ u3).setCell ⟨b, 4, none⟩ u4).setCell ⟨b, 5, none⟩ u5).setCell ⟨b, 6, none⟩ u6).setCell ⟨b, 7, none⟩ u7).setCell ⟨b, 8, none⟩ u8).setCell ⟨b, 9, none⟩ u9).heap[b]? = some (.cells #[u0, u1, u2, u3, u4, u5, u6, u7, u8, u9, v10] t (0, 0)) := Dt.setCells h9 9 u9
  have h11 : (((((((((((w.setCell ⟨b, 0, none⟩ u0).setCell ⟨b, 1, none⟩ u1).setCell ⟨b, 2, none⟩ u2).setCell ⟨b, 3, none⟩ u3).setCell ⟨b, 4, none⟩ u4).setCell ⟨b, 5, none⟩ u5).setCell ⟨b, 6, none⟩ u6).setCell ⟨b, 7, none⟩ u7).setCell ⟨b, 8, none⟩ u8).setCell ⟨b, 9, none⟩ u9).setCell ⟨b, 10, none⟩ u10).heap[b]? = some (.cells #[u0, u1, u2, u3, u4, u5, u6, u7, u8, u9, u10] t (0, 0)) := Dt.setCells h10 10 u10
  exact ⟨Dt.cell_of h0 0, Dt.frozen_of h0 0, Dt.cell_of h1 1, Dt.frozen_of h1 1, Dt.cell_of h2 2, Dt.frozen_of h2 2, Dt.cell_of h3 3, Dt.frozen_of h3 3, Dt.cell_of h4 4, Dt.frozen_of h4 4, Dt.cell_of h5 5, Dt.frozen_of h5 5, Dt.cell_of h6 6, Dt.frozen_of h6 6, Dt.cell_of h7 7, Dt.frozen_of h7 7, Dt.cell_of h8 8, Dt.frozen_of h8 8, Dt.cell_of h9 9, Dt.frozen_of h9 9, Dt.cell_of h10 10, Dt.frozen_of h10 10, h11⟩
theorem Dt.below_store11 {w0 w : World} {B b : Nat} (h : Below B w0 w) (hb : B ≤ b) (u0 u1 u2 u3 u4 u5 u6 u7 u8 u9 u10 : Value) : Below B w0 (((((((((((w.setCell ⟨b, 0, none⟩ u0).setCell ⟨b, 1, none⟩ u1).setCell ⟨b, 2, none⟩ u2).setCell ⟨b, 3, none⟩ u3).setCell ⟨b, 4, none⟩ u4).setCell ⟨b, 5, none⟩ u5).setCell ⟨b, 6, none⟩ u6).setCell ⟨b, 7, none⟩ u7).setCell ⟨b, 8, none⟩ u8).setCell ⟨b, 9, none⟩ u9).setCell ⟨b, 10, none⟩ u10) := by
  have h0 := h
  have h1 := Dt.below_set h0 b 0 u0 hb
  have h2 := Dt.below_set h1 b 1 u1 hb
  have h3 := Dt.below_set h2 b 2 u2 hb
  have h4 := Dt.below_set h3 b 3 u3 hb
  have h5 := Dt.below_set h4 b 4 u4 hb
  have h6 := Dt.below_set h5 b 5 u5 hb
  have h7 := Dt.below_set h6 b 6 u6 hb
  have h8 := Dt.below_set h7 b 7 u7 hb
  have h9 := Dt.below_set h8 b 8 u8 hb
  have h10 := Dt.below_set h9 b 9 u9 hb
  have h11 := Dt.below_set h10 b 10 u10 hb
  exact h11
theorem Dt.put11 {w : World} {b : Nat} {v0 v1 v2 v3 v4 v5 v6 v7 v8 v9 v10 : Value} {t : TypeId} (h : w.heap[b]? = some (.cells #[v0, v1, v2, v3, v4, v5, v6, v7, v8, v9, v10] t (0, 0))) (u0 u1 u2 u3 u4 u5 u6 u7 u8 u9 u10 : Value) :
    ∃ W1 W2 W3 W4 W5 W6 W7 W8 W9 W10 W11 : World,
    (w.cell? ⟨b, 0, none⟩ = some v0 ∧ w.frozen? ⟨b, 0, none⟩ = false ∧ w.setCell ⟨b, 0, none⟩ u0 = W1 ∧ W1.heap.size = w.heap.size) ∧
    (W1.cell? ⟨b, 1, none⟩ = some v1 ∧ W1.frozen? ⟨b, 1, none⟩ = false ∧ W1.setCell ⟨b, 1, none⟩ u1 = W2 ∧ W2.heap.size = w.heap.size) ∧
    (W2.cell? ⟨b, 2, none⟩ = some v2 ∧ W2.frozen? ⟨b, 2, none⟩ = false ∧ W2.setCell ⟨b, 2, none⟩ u2 = W3 ∧ W3.heap.size = w.heap.size) ∧
    (W3.cell? ⟨b, 3, none⟩ = some v3 ∧ W3.frozen? ⟨b, 3, none⟩ = false ∧ W3.setCell ⟨b, 3, none⟩ u3 = W4 ∧ W4.heap.size = w.heap.size) ∧
    (W4.cell? ⟨b, 4, none⟩ = some v4 ∧ W4.frozen? ⟨b, 4, none⟩ = false ∧ W4.setCell ⟨b, 4, none⟩ u4 = W5 ∧ W5.heap.size = w.heap.size) ∧
    (W5.cell? ⟨b, 5, none⟩ = some v5 ∧ W5.frozen? ⟨b, 5, none⟩ = false ∧ W5.setCell ⟨b, 5, none⟩ u5 = W6 ∧ W6.heap.size = w.heap.size) ∧
    (W6.cell? ⟨b, 6, none⟩ = some v6 ∧ W6.frozen? ⟨b, 6, none⟩ = false ∧ W6.setCell ⟨b, 6, none⟩ u6 = W7 ∧ W7.heap.size = w.heap.size) ∧
    (W7.cell? ⟨b, 7, none⟩ = some v7 ∧ W7.frozen? ⟨b, 7, none⟩ = false ∧ W7.setCell ⟨b, 7, none⟩ u7 = W8 ∧ W8.heap.size = w.heap.size) ∧
    (W8.cell? ⟨b, 8, none⟩ = some v8 ∧ W8.frozen? ⟨b, 8, none⟩ = false ∧ W8.setCell ⟨b, 8, none⟩ u8 = W9 ∧ W9.heap.size = w.heap.size) ∧
    (W9.cell? ⟨b, 9, none⟩ = some v9 ∧ W9.frozen? ⟨b, 9, none⟩ = false ∧ W9.setCell ⟨b, 9, none⟩ u9 = W10 ∧ W10.heap.size = w.heap.size) ∧
    (W10.cell? ⟨b, 10, none⟩ = some v10 ∧ W10.frozen? ⟨b, 10, none⟩ = false ∧ W10.setCell ⟨b, 10, none⟩ u10 = W11 ∧ W11.heap.size = w.heap.size) ∧
    W11.heap[b]? = some (.cells #[u0, u1, u2, u3, u4, u5, u6, u7, u8, u9, u10] t (0, 0)) ∧
    W11.heap.size = w.heap.size ∧
    (∀ q, q ≠ b → W11.heap[q]? = w.heap[q]?) ∧
    (∀ (B : Nat) (w0 : World), Below B w0 w → B ≤ b → Below B w0 W11) := by
  obtain ⟨f0, z0, f1, z1, f2, z2, f3, z3, f4, z4, f5, z5, f6, z6, f7, z7, f8, z8, f9, z9, f10, z10, g⟩ := Dt.store11 h u0 u1 u2 u3 u4 u5 u6 u7 u8 u9 u10
  refine ⟨_, _, _, _, _, _, _, _, _, _, _, ⟨f0, z0, rfl, by simp⟩, ⟨f1, z1, rfl, by simp⟩, ⟨f2, z2, rfl, by simp⟩, ⟨f3, z3, rfl, by simp⟩, ⟨f4, z4, rfl, by simp⟩, ⟨f5, z5, rfl, by simp⟩, ⟨f6, z6, rfl, by simp⟩, ⟨f7, z7, rfl, by simp⟩, ⟨f8, z8, rfl, by simp⟩, ⟨f9, z9, rfl, by simp⟩, ⟨f10, z10, rfl, by simp⟩, g, by simp, ?_, fun B w0 h0 hb => Dt.below_store11 h0 hb u0 u1 u2 u3 u4 u5 u6 u7 u8 u9 u10⟩
  intro q hq
  rw [Below.heap_setCell _ ⟨b, 10, none⟩ _ q hq]
  rw [Below.heap_setCell _ ⟨b, 9, none⟩ _ q hq]
  rw [Below.heap_setCell _ ⟨b, 8, none⟩ _ q hq]
  rw [Below.heap_setCell _ ⟨b, 7, none⟩ _ q hq]
  rw [Below.heap_setCell _ ⟨b, 6, none⟩ _ q hq]
  rw [Below.heap_setCell _ ⟨b, 5, none⟩ _ q hq]
  rw [Below.heap_setCell _ ⟨b, 4, none⟩ _ q hq]
  rw [Below.heap_setCell _ ⟨b, 3, none⟩ _ q hq]
  rw [Below.heap_setCell _ ⟨b, 2, none⟩ _ q hq]
  rw [Below.heap_setCell _ ⟨b, 1, none⟩ _ q hq]
  rw [Below.heap_setCell _ ⟨b, 0, none⟩ _ q hq]
end Go.Proofs.YtdjllmogejkimaaGreatDoor
