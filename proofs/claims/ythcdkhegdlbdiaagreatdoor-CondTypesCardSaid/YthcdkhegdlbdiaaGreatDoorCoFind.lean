/-
  cond.find, under, Under, Name, Parent, of whatever numbers. No condition.
-/
import Derived.Test.YthcdkhegdlbdiaaGreatDoorCoKinds
namespace Go.Proofs.YthcdkhegdlbdiaaGreatDoor
open Go.RowKit
set_option linter.unusedVariables false

theorem Co.par_lt : ∀ k, k < 20 → -1 ≤ Co.par k ∧ Co.par k < k := by
  intro k hk
  rcases (show k = 0 ∨ k = 1 ∨ k = 2 ∨ k = 3 ∨ k = 4 ∨ k = 5 ∨ k = 6 ∨ k = 7 ∨ k = 8 ∨ k = 9 ∨ k = 10 ∨ k = 11 ∨ k = 12 ∨ k = 13 ∨ k = 14 ∨ k = 15 ∨ k = 16 ∨ k = 17 ∨ k = 18 ∨ k = 19 by omega) with rfl | rfl | rfl | rfl | rfl | rfl | rfl | rfl | rfl | rfl | rfl | rfl | rfl | rfl | rfl | rfl | rfl | rfl | rfl | rfl
  all_goals decide
/-- Going up from t until there is none, or it is 'of'. -/
def Co.und : Nat → Int → Int → Bool
  | 0, t, of => t == of
  | n + 1, t, of => if t < 0 ∨ t = of then t == of else Co.und n (Co.par t.toNat) of
def Co.under (t of : Int) : Bool := Co.und 20 t of
def Co.thr (t : Int) : Bool := decide (0 ≤ t ∧ t < 20)

theorem Co.cell_of {w : World} {b : Nat} {C : Array Value} {t : TypeId} (h : w.heap[b]? = some (.cells C t (0, 0))) (k : Nat) : w.cell? ⟨b, k, none⟩ = C[k]? := by
  simp [World.cell?, h]
theorem Co.kind_cells {w : World} {b : Nat} {t : TypeId} (h : w.heap[b]? = some (.cells Co.cells t (0, 0))) (k : Nat) (hk : k < 20) : w.cell? ⟨b, k * 3, none⟩ = some (.string (Co.nm k)) ∧ w.cell? ⟨b, k * 3 + 1, none⟩ = some (.int .i64 (Co.par k)) ∧ w.cell? ⟨b, k * 3 + 2, none⟩ = some (.int .i64 (Co.fld k)) := by
  obtain ⟨h1, h2, h3⟩ := Co.cells_at k hk
  exact ⟨(Co.cell_of h _).trans h1, (Co.cell_of h _).trans h2, (Co.cell_of h _).trans h3⟩

theorem Co.setCells {w : World} {b : Nat} {C : Array Value} {t : TypeId} (h : w.heap[b]? = some (.cells C t (0, 0))) (k : Nat) (u : Value) : (w.setCell ⟨b, k, none⟩ u).heap[b]? = some (.cells (C.set! k u) t (0, 0)) := by
  obtain ⟨hlt, hk⟩ := Array.getElem?_eq_some_iff.1 h
  show (w.heap.modify b _)[b]? = _
  rw [Array.getElem?_eq_getElem (by rw [Array.size_modify]; exact hlt), Array.getElem_modify_self, hk]
  rfl
theorem Co.frozen_of {w : World} {b : Nat} {C : Array Value} {t : TypeId} (h : w.heap[b]? = some (.cells C t (0, 0))) (k : Nat) : w.frozen? ⟨b, k, none⟩ = false := by
  simp [World.frozen?, h]
/-- What a store of three cells asks and leaves. -/
theorem Co.store3 {w : World} {b : Nat} {v0 v1 v2 : Value} {t : TypeId} (h : w.heap[b]? = some (.cells #[v0, v1, v2] t (0, 0))) (u0 u1 u2 : Value) :
    w.cell? ⟨b, 0, none⟩ = some v0 ∧ w.frozen? ⟨b, 0, none⟩ = false ∧ (w.setCell ⟨b, 0, none⟩ u0).cell? ⟨b, 1, none⟩ = some v1 ∧ (w.setCell ⟨b, 0, none⟩ u0).frozen? ⟨b, 1, none⟩ = false ∧
    ((w.setCell ⟨b, 0, none⟩ u0).setCell ⟨b, 1, none⟩ u1).cell? ⟨b, 2, none⟩ = some v2 ∧ ((w.setCell ⟨b, 0, none⟩ u0).setCell ⟨b, 1, none⟩ u1).frozen? ⟨b, 2, none⟩ = false ∧
    (((w.setCell ⟨b, 0, none⟩ u0).setCell ⟨b, 1, none⟩ u1).setCell ⟨b, 2, none⟩ u2).heap[b]? = some (.cells #[u0, u1, u2] t (0, 0)) := by
  have h1 := Co.setCells h 0 u0
  have h2 := Co.setCells h1 1 u1
  have h3 := Co.setCells h2 2 u2
  exact ⟨Co.cell_of h 0, Co.frozen_of h 0, Co.cell_of h1 1, Co.frozen_of h1 1, Co.cell_of h2 2, Co.frozen_of h2 2, h3⟩

set_option maxHeartbeats 4000000 in
set_option maxRecDepth 1000000 in
theorem Co.find_in (k : Nat) (hk : k < 20) (w : World) : Calls Tryz.prog 12 #[.int .i64 k] w fun e w' => e = .returned (.tuple #[.agg #[.string (Co.nm k), .int .i64 (Co.par k), .int .i64 (Co.fld k)], .bool true]) ∧ Below w.heap.size w w' := by
  have h0 : ¬ ((k : Int) < 0) := by omega
  have h1 : ¬ ((k : Int) ≥ 20) := by omega
  go_enter Tryz.func12, Tryz.ntmps12
  go_wp2_with fail
  refine (Co.kinds_any _).mono ?_
  rintro x w1 ⟨rfl, hg, hb⟩
  have e0 : ∀ o, (w.alloc o).heap.size = w.heap.size + 1 := by intro o; simp
  rw [e0] at hg
  have q0 : w1.heap[w.heap.size]? = some (.cells #[.string ⟨#[]⟩, .int .i64 0, .int .i64 0] 35 (0, 0)) := by
    rw [hb.block _ (by simp)]
    exact heap_alloc_new _ _
  obtain ⟨c0, c1, c2⟩ := Co.kind_cells hg k hk
  have HB := Lib.hid (((Below.refl w.heap.size w).alloc (Nat.le_refl _) _).trans (hb.mono (by simp)))
  clear hb hg e0
  obtain ⟨f0, z0, f1, z1, f2, z2, f3⟩ := Co.store3 q0 (.string (Co.nm k)) (.int .i64 (Co.par k)) (.int .i64 (Co.fld k))
  have F3 := Lib.hid f3
  have g0 := Co.cell_of f3 0
  have g1 := Co.cell_of f3 1
  have g2 := Co.cell_of f3 2
  clear f3 q0
  go_wp2_with fail
  refine bodyPost_ret (v := .tuple #[.agg #[.string (Co.nm k), .int .i64 (Co.par k), .int .i64 (Co.fld k)], .bool true]) (by simp [results, Tryz.results12, go_sem, g0, g1, g2]) rfl ⟨rfl, ?_⟩
  exact ((HB.out.setCell (Nat.le_refl _) _).setCell (Nat.le_refl _) _).setCell (Nat.le_refl _) _

set_option maxHeartbeats 4000000 in
set_option maxRecDepth 1000000 in
theorem Co.find_out (t : Int) (ht : t < 0 ∨ t ≥ 20) (w : World) : Calls Tryz.prog 12 #[.int .i64 t] w fun e w' => e = .returned (.tuple #[.agg #[.string ⟨#[]⟩, .int .i64 0, .int .i64 0], .bool false]) ∧ Below w.heap.size w w' := by
  go_enter Tryz.func12, Tryz.ntmps12
  go_wp2_with fail
  refine (Co.kinds_any _).mono ?_
  rintro x w1 ⟨rfl, hg, hb⟩
  have q0 : w1.heap[w.heap.size]? = some (.cells #[.string ⟨#[]⟩, .int .i64 0, .int .i64 0] 35 (0, 0)) := by
    rw [hb.block _ (by simp)]
    exact heap_alloc_new _ _
  have HB := Lib.hid (((Below.refl w.heap.size w).alloc (Nat.le_refl _) _).trans (hb.mono (by simp)))
  clear hb hg
  obtain ⟨f0, z0, f1, z1, f2, z2, f3⟩ := Co.store3 q0 (.string ⟨#[]⟩) (.int .i64 0) (.int .i64 0)
  have g0 := Co.cell_of f3 0
  have g1 := Co.cell_of f3 1
  have g2 := Co.cell_of f3 2
  clear f3 q0
  rcases ht with ht | ht
  all_goals
    go_wp2_with fail
    refine bodyPost_ret (v := .tuple #[.agg #[.string ⟨#[]⟩, .int .i64 0, .int .i64 0], .bool false]) (by simp [results, Tryz.results12, go_sem, g0, g1, g2]) rfl ⟨rfl, ?_⟩
    exact ((HB.out.setCell (Nat.le_refl _) _).setCell (Nat.le_refl _) _).setCell (Nat.le_refl _) _

theorem Co.und_stop (n : Nat) (t of : Int) (h : t < 0 ∨ t = of) : Co.und n t of = (t == of) := by
  cases n with
  | zero => rfl
  | succ n => rw [Co.und, if_pos h]
theorem Co.und_step (n : Nat) (t of : Int) (h : ¬ (t < 0 ∨ t = of)) : Co.und (n + 1) t of = Co.und n (Co.par t.toNat) of := by
  rw [Co.und, if_neg h]

set_option maxHeartbeats 4000000 in
set_option maxRecDepth 1000000 in
theorem Co.under_any (t : Nat) (ht : t < 20) (of : Int) (w : World) : Calls Tryz.prog 13 #[.int .i64 t, .int .i64 of] w fun e w' => e = .returned (.bool (Co.under t of)) ∧ Below w.heap.size w w' := by
  have hU : ∃ U, Co.und 20 t of = U := ⟨_, rfl⟩
  obtain ⟨U, hU⟩ := hU
  unfold Co.under
  rw [hU]
  go_enter Tryz.func13, Tryz.ntmps13
  go_wp2_with fail
  refine (Co.kinds_any _).mono ?_
  rintro x w1 ⟨rfl, hg, hb⟩
  have HB := Lib.hid hb
  clear hb
  go_wp2_with fail
  go_loopw [0] (fun i wr => ∃ (n : Nat) (k : Int), i = .int .i64 k ∧ -1 ≤ k ∧ k < n ∧ n ≤ 20 ∧ Co.und n k of = U ∧ wr = w1) (fun i _ => (intOf i + 1).toNat)
  case atStart => exact ⟨20, t, rfl, by omega, by omega, Nat.le_refl _, hU, rfl⟩
  case round =>
    obtain ⟨n, k, rfl, hk, hkn, hn, hu, rfl⟩ := hrel
    by_cases h1 : k < 0
    · rw [Co.und_stop _ _ _ (.inl h1)] at hu
      have h2 : ¬ (k ≥ 0) := by omega
      go_wp2_with fail
      go_ret
      refine ⟨?_, HB.out⟩
      rw [← hu]
      first | rfl | simp
    · by_cases h2 : k = of
      · rw [Co.und_stop _ _ _ (.inr h2)] at hu
        have h3 : k ≥ 0 := by omega
        subst h2
        go_wp2_with fail
        go_ret
        refine ⟨?_, HB.out⟩
        rw [← hu]
        first | rfl | simp
      · obtain ⟨m, rfl⟩ : ∃ m : Nat, k = m := ⟨k.toNat, by omega⟩
        obtain ⟨n, rfl⟩ : ∃ q : Nat, n = q + 1 := ⟨n - 1, by omega⟩
        rw [Co.und_step _ _ _ (by omega), Int.toNat_natCast] at hu
        obtain ⟨p1, p2⟩ := Co.par_lt m (by omega)
        obtain ⟨c0, c1, c2⟩ := Co.kind_cells hg m (by omega)
        have h3 : (m : Int) ≥ 0 := by omega
        have h4 : m < 20 := by omega
        have HN := Lib.hid hn
        have HKN := Lib.hid hkn
        have HU := Lib.hid hu
        clear hn hkn hu hk
        go_wp2_with fail
        go_roundw
        case rel => exact ⟨n, Co.par m, rfl, p1, by have := HKN.out; omega, by have := HN.out; omega, HU.out, trivial⟩
        case measure => simp [intOf]; omega

/-- Is it a type, and what is told of it. -/
theorem Co.find_any (t : Int) (w : World) : Calls Tryz.prog 12 #[.int .i64 t] w fun e w' => e = .returned (.tuple #[.agg #[.string (if Co.thr t then Co.nm t.toNat else ⟨#[]⟩), .int .i64 (if Co.thr t then Co.par t.toNat else 0), .int .i64 (if Co.thr t then Co.fld t.toNat else 0)], .bool (Co.thr t)]) ∧ Below w.heap.size w w' := by
  by_cases h : 0 ≤ t ∧ t < 20
  · have e : Co.thr t = true := decide_eq_true h
    rw [e]
    have := Co.find_in t.toNat (by omega) w
    rw [show ((t.toNat : Nat) : Int) = t by omega] at this
    exact this
  · have e : Co.thr t = false := decide_eq_false h
    rw [e]
    exact Co.find_out t (by omega) w

set_option maxHeartbeats 4000000 in
set_option maxRecDepth 1000000 in
theorem Co.name_any (t : Int) (w : World) : Calls Tryz.prog 8 #[.int .i64 t] w fun e w' => e = .returned (.tuple #[.string (if Co.thr t then Co.nm t.toNat else ⟨#[]⟩), .int .i64 (if Co.thr t then 0 else 7)]) ∧ Below w.heap.size w w' := by
  have KF := Lib.hid (Co.find_any t w)
  cases he : Co.thr t
  all_goals
    rw [he] at KF
    simp only [if_true, if_false, Bool.false_eq_true] at KF ⊢
    go_enter Tryz.func8, Tryz.ntmps8
    go_wp2_with fail
    refine KF.out.mono ?_
    rintro x w1 ⟨rfl, hb⟩
    have HB := Lib.hid hb
    clear hb KF
    go_wp2
    go_ret2
    exact ⟨rfl, HB.out.alloc HB.out.size _⟩
set_option maxHeartbeats 4000000 in
set_option maxRecDepth 1000000 in
theorem Co.parent_any (t : Int) (w : World) : Calls Tryz.prog 7 #[.int .i64 t] w fun e w' => e = .returned (.tuple #[.int .i64 (if Co.thr t then Co.par t.toNat else 0), .int .i64 (if Co.thr t then 0 else 7)]) ∧ Below w.heap.size w w' := by
  have KF := Lib.hid (Co.find_any t w)
  cases he : Co.thr t
  all_goals
    rw [he] at KF
    simp only [if_true, if_false, Bool.false_eq_true] at KF ⊢
    go_enter Tryz.func7, Tryz.ntmps7
    go_wp2_with fail
    refine KF.out.mono ?_
    rintro x w1 ⟨rfl, hb⟩
    have HB := Lib.hid hb
    clear hb KF
    go_wp2
    go_ret2
    exact ⟨rfl, HB.out.alloc HB.out.size _⟩
def Co.Under (t of : Int) : Bool := (Co.thr t && Co.thr of) && Co.under t of
set_option maxHeartbeats 4000000 in
set_option maxRecDepth 1000000 in
theorem Co.Under_any (t of : Int) (w : World) : Calls Tryz.prog 5 #[.int .i64 t, .int .i64 of] w fun e w' => e = .returned (.tuple #[.bool (Co.Under t of), .int .i64 (if Co.thr t && Co.thr of then 0 else 7)]) ∧ Below w.heap.size w w' := by
  have KF := fun w => Co.find_any t w
  have KF2 := fun w => Co.find_any of w
  have KU : Co.thr t = true → ∀ w, Calls Tryz.prog 13 #[.int .i64 t, .int .i64 of] w fun e w' => e = .returned (.bool (Co.under t of)) ∧ Below w.heap.size w w' := by
    intro h w
    have h := of_decide_eq_true h
    have := Co.under_any t.toNat (by omega) of w
    rw [show ((t.toNat : Nat) : Int) = t by omega] at this
    exact this
  unfold Co.Under
  generalize Co.under t of = U at *
  generalize Co.nm t.toNat = n1 at *
  generalize Co.par t.toNat = n2 at *
  generalize Co.fld t.toNat = n3 at *
  generalize Co.nm of.toNat = m1 at *
  generalize Co.par of.toNat = m2 at *
  generalize Co.fld of.toNat = m3 at *
  cases he : Co.thr t <;> cases he2 : Co.thr of
  all_goals
    rw [he] at KF
    rw [he2] at KF2
    simp only [if_true, if_false, Bool.false_eq_true, Bool.and_true, Bool.and_false, Bool.true_and, Bool.false_and] at KF KF2 ⊢
    go_enter Tryz.func5, Tryz.ntmps5
    go_wp2_with fail
    refine (KF _).mono ?_
    rintro x w1 ⟨rfl, hb⟩
    have HA : ∀ o, Below w.heap.size w (w1.alloc o) := fun o => hb.alloc hb.size o
    clear hb
    go_wp2_with fail
    refine (KF2 _).mono ?_
    rintro x w2 ⟨rfl, hb2⟩
    have HB2 := Lib.hid ((HA _).trans (hb2.mono (HA _).size))
    have HA2 : ∀ o, Below w.heap.size w (w2.alloc o) := fun o => HB2.out.alloc HB2.out.size o
    clear hb2 HA
    go_wp2_with fail
    first
    | (go_ret2
       exact ⟨rfl, HA2 _⟩)
    | (refine (KU he _).mono ?_
       rintro x w3 ⟨rfl, hb3⟩
       have HB3 := Lib.hid ((HA2 _).trans (hb3.mono (HA2 _).size))
       clear hb3 HA2
       go_wp2
       go_ret2
       exact ⟨rfl, HB3.out⟩)
end Go.Proofs.YthcdkhegdlbdiaaGreatDoor
