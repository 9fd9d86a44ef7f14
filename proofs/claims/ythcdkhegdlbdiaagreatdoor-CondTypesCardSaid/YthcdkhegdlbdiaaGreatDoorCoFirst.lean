/-
  cond.first of a condition, where it finds one.
-/
import Derived.Test.YthcdkhegdlbdiaaGreatDoorCoCheck
namespace Go.Proofs.YthcdkhegdlbdiaaGreatDoor
open Go.RowKit
set_option linter.unusedVariables false
theorem Dt.store2 {w : World} {b : Nat} {v0 v1 : Value} {t : TypeId} (h : w.heap[b]? = some (.cells #[v0, v1] t (0, 0))) (u0 u1 : Value) :
    w.cell? ⟨b, 0, none⟩ = some v0 ∧
    w.frozen? ⟨b, 0, none⟩ = false ∧
    (w.setCell ⟨b, 0, none⟩ u0).cell? ⟨b, 1, none⟩ = some v1 ∧
    (w.setCell ⟨b, 0, none⟩ u0).frozen? ⟨b, 1, none⟩ = false ∧
    ((w.setCell ⟨b, 0, none⟩ u0).setCell ⟨b, 1, none⟩ u1).heap[b]? = some (.cells #[u0, u1] t (0, 0)) := by
  have h0 := h
  have h1 : (w.setCell ⟨b, 0, none⟩ u0).heap[b]? = some (.cells #[u0, v1] t (0, 0)) := Dt.setCells h0 0 u0
  have h2 : ((w.setCell ⟨b, 0, none⟩ u0).setCell ⟨b, 1, none⟩ u1).heap[b]? = some (.cells #[u0, u1] t (0, 0)) := Dt.setCells h1 1 u1
  exact ⟨Dt.cell_of h0 0, Dt.frozen_of h0 0, Dt.cell_of h1 1, Dt.frozen_of h1 1, h2⟩
theorem Dt.below_store2 {w0 w : World} {B b : Nat} (h : Below B w0 w) (hb : B ≤ b) (u0 u1 : Value) : Below B w0 ((w.setCell ⟨b, 0, none⟩ u0).setCell ⟨b, 1, none⟩ u1) := by
  have h0 := h
  have h1 := Dt.below_set h0 b 0 u0 hb
  have h2 := Dt.below_set h1 b 1 u1 hb
  exact h2
theorem Dt.put2 {w : World} {b : Nat} {v0 v1 : Value} {t : TypeId} (h : w.heap[b]? = some (.cells #[v0, v1] t (0, 0))) (u0 u1 : Value) :
    ∃ W1 W2 : World,
    (w.cell? ⟨b, 0, none⟩ = some v0 ∧ w.frozen? ⟨b, 0, none⟩ = false ∧ w.setCell ⟨b, 0, none⟩ u0 = W1 ∧ W1.heap.size = w.heap.size) ∧
    (W1.cell? ⟨b, 1, none⟩ = some v1 ∧ W1.frozen? ⟨b, 1, none⟩ = false ∧ W1.setCell ⟨b, 1, none⟩ u1 = W2 ∧ W2.heap.size = w.heap.size) ∧
    W2.heap[b]? = some (.cells #[u0, u1] t (0, 0)) ∧
    W2.heap.size = w.heap.size ∧
    (∀ q, q ≠ b → W2.heap[q]? = w.heap[q]?) ∧
    (∀ (B : Nat) (w0 : World), Below B w0 w → B ≤ b → Below B w0 W2) := by
  obtain ⟨f0, z0, f1, z1, g⟩ := Dt.store2 h u0 u1
  refine ⟨_, _, ⟨f0, z0, rfl, by simp⟩, ⟨f1, z1, rfl, by simp⟩, g, by simp, ?_, fun B w0 h0 hb => Dt.below_store2 h0 hb u0 u1⟩
  intro q hq
  rw [Below.heap_setCell _ ⟨b, 1, none⟩ _ q hq]
  rw [Below.heap_setCell _ ⟨b, 0, none⟩ _ q hq]

set_option maxHeartbeats 4000000 in
set_option maxRecDepth 1000000 in
theorem Co.first_at (a n cap : Nat) (hn : n ≤ 16) (t : Nat → Nat) (f : Nat → Value) (of : Int) (i : Nat) (hi : i < n) (hno : ∀ j, j < i → Co.under (t j) of = false) (hyes : Co.under (t i) of = true) (w : World) (h : Co.At w w.heap.size a n t f) :
    Calls Tryz.prog 21 #[.slice (some ⟨a, 0, none⟩) n cap, .int .i64 of] w fun e w' => e = .returned (.tuple #[.agg #[.int .i64 (t i), f i], .bool true]) ∧ Below w.heap.size w w' := by
  have HH := Lib.hid h; clear h
  have HNO := Lib.hid hno; clear hno
  have hq0 : ∀ o, (w.alloc o).heap[w.heap.size]? = some o := fun o => heap_alloc_new w o
  have hb0 : ∀ o, Below w.heap.size w (w.alloc o) := fun o => (Below.refl _ _).alloc (Nat.le_refl _) _
  have hsz : ∀ o, (w.alloc o).heap.size = w.heap.size + 1 := by intro o; simp
  have HB0 := Lib.hid hb0
  have HQ0 := Lib.hid hq0
  have HSZ := Lib.hid hsz
  clear hb0 hq0 hsz
  go_enter Tryz.func21, Tryz.ntmps21
  go_wp2_with fail
  go_loopw [10] (fun s wr => ∃ k : Nat, s = .int .i64 k ∧ k ≤ i ∧ Below (w.heap.size + 1) (w.alloc (.cells #[.int .i64 0, .slice none 0 0] 57)) wr) (fun s _ => n - (intOf s).toNat)
  case atStart => exact ⟨0, rfl, Nat.zero_le _, Below.refl _ _⟩
  case round =>
    obtain ⟨k, rfl, hk, hbw⟩ := hrel
    obtain ⟨wo, hwo⟩ : ∃ z, z = wr := ⟨_, rfl⟩
    subst hwo
    have q4 := (hbw.block w.heap.size (by omega)).trans (HQ0.out _)
    have HWR := Lib.hid ((HB0.out _).trans (hbw.mono (by omega)))
    have HBW := Lib.hid hbw
    have hzo : w.heap.size < wo.heap.size := (Array.getElem?_eq_some_iff.1 q4).1
    have Q4 := Lib.hid q4
    clear hbw q4
    have hlt : k < n := by omega
    obtain ⟨ht, c0, c1, hf⟩ := (HH.out.below HWR.out).2 k hlt
    obtain ⟨ao, m, cp, hfe, hm, hm1⟩ := hf.slice
    have HFE := Lib.hid hfe
    rw [hfe] at c1
    have KU := fun w => Co.under_any (t k) ht of w
    clear hf hfe hm
    have hq1 : ∀ o, (wo.alloc o).heap[wo.heap.size]? = some o := fun o => heap_alloc_new wo o
    have hb1 : ∀ o, Below wo.heap.size wo (wo.alloc o) := fun o => (Below.refl _ _).alloc (Nat.le_refl _) _
    have hsz1 : ∀ o, (wo.alloc o).heap.size = wo.heap.size + 1 := by intro o; simp
    rcases Nat.lt_or_ge k i with hki | hki
    · rw [HNO.out k hki] at KU
      generalize t k = tk at *
      go_wp2_with fail
      refine (KU _).mono ?_
      rintro x w2 ⟨rfl, hb2⟩
      have HB2 := Lib.hid (HBW.out.trans (((hb1 _).trans (hb2.mono (by rw [hsz1]; omega))).mono (by omega)))
      clear hb2 hq1 hb1 hsz1 KU c0 c1
      go_wp2_with fail
      go_roundw
      case rel => exact ⟨k + 1, by first | rfl | go_num | (simp; try omega), by omega, HB2.out⟩
      case measure => simp [intOf]; omega
    · obtain rfl : k = i := by omega
      rw [hyes] at KU
      clear hyes
      go_wp2_with fail
      refine (KU _).mono ?_
      rintro x w2 ⟨rfl, hb2⟩
      have HB2 := Lib.hid ((hb1 _).trans (hb2.mono (by rw [hsz1]; omega)))
      have q5 := (hb2.block wo.heap.size (by rw [hsz1]; omega)).trans (hq1 _)
      have d0 := Co.cell_of q5 0
      have d1 := Co.cell_of q5 1
      have q6 := (HB2.out.block w.heap.size hzo).trans Q4.out
      clear hb2 hq1 hb1 hsz1 KU c0 c1 q5
      obtain ⟨W1, W2, ⟨f0, z0, e0, s0⟩, ⟨f1, z1, e1, s1⟩, q7, hszz, _, hbb⟩ := Dt.put2 q6 (.int .i64 (t k)) (.slice ao m cp)
      have HE := Lib.hid (hbb w.heap.size w (HWR.out.trans (HB2.out.mono (Nat.le_of_lt hzo))) (Nat.le_refl _))
      have r0 := Co.cell_of q7 0
      have r1 := Co.cell_of q7 1
      clear hbb q6 q7 hszz
      go_wp2_with fail
      refine bodyPost_ret (v := .tuple #[.agg #[.int .i64 (t k), .slice ao m cp], .bool true]) ?_ rfl ⟨by rw [HFE.out], HE.out⟩
      simp [results, Tryz.results21, go_sem, r0, r1]
end Go.Proofs.YthcdkhegdlbdiaaGreatDoor
