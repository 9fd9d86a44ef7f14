/-
  The types of conditions: cond.kinds, find, under, Under, Name, Parent. No condition.
  cond.find, under, Under, Name, Parent, of whatever numbers. No condition.
  How many fields a type of conditions has.
  Conditions as lists of parts: a type and fields.
  bits.Add32, bits.Sub32.
  nat.Plus, nat.Less of numbers.
  The long division of numbers: how a word of the quotient is guessed, and what the guess is worth; shifts of rows of words. Plain law.
  The long division of numbers: one round of it. Plain law.
  nat.Up, nat.Down of numbers, by less than one word.
  Rows of words that a call owns, with places to spare behind them.
  nat.short: a number over one word.
  nat.Order of numbers.
  The long division of numbers: how the divisor is shifted. Plain law.
-/
import Derived.Test.YtikmebkfdpbidaaGreatDoorProg
import Derived.WalkKit
import Derived.WalkSpells
import Derived.WalkLawsBesides
import Derived.Handy
import Derived.BigCall
import Derived.Lib.Hide
import Derived.Outline
import Derived.BigQuiet
import Derived.Deep.DeepCutAuto
import Derived.Laws.Bits64
import Derived.Lib.ItoaNum
import Derived.Test.YtikmebkfdpbidaaGreatDoorKa
namespace Go.Proofs.YtikmebkfdpbidaaGreatDoor
open Go.RowKit
set_option linter.unusedVariables false

/-- The table of the types, as the program lays it: name, parent, own fields. -/
def Co.table : List (ByteArray × Int × Int) := [(⟨#[99, 111, 110, 100, 105, 116, 105, 111, 110]⟩, -1, 0), (⟨#[109, 101, 115, 115, 97, 103, 101]⟩, 0, 1), (⟨#[119, 97, 114, 110, 105, 110, 103]⟩, 0, 0), (⟨#[115, 101, 114, 105, 111, 117, 115]⟩, 0, 0), (⟨#[101, 114, 114, 111, 114]⟩, 3, 0), (⟨#[118, 105, 111, 108, 97, 116, 105, 111, 110]⟩, 3, 0), (⟨#[97, 115, 115, 101, 114, 116, 105, 111, 110]⟩, 5, 0), (⟨#[105, 114, 114, 105, 116, 97, 110, 116, 115]⟩, 0, 1), (⟨#[119, 104, 111]⟩, 0, 1), (⟨#[110, 111, 110, 45, 99, 111, 110, 116, 105, 110, 117, 97, 98, 108, 101]⟩, 5, 0), (⟨#[105, 109, 112, 108, 101, 109, 101, 110, 116, 97, 116, 105, 111, 110, 45, 114, 101, 115, 116, 114, 105, 99, 116, 105, 111, 110]⟩, 5, 0), (⟨#[108, 101, 120, 105, 99, 97, 108]⟩, 5, 0), (⟨#[115, 121, 110, 116, 97, 120]⟩, 5, 2), (⟨#[117, 110, 100, 101, 102, 105, 110, 101, 100]⟩, 5, 0), (⟨#[105, 47, 111]⟩, 4, 0), (⟨#[105, 47, 111, 45, 114, 101, 97, 100]⟩, 14, 0), (⟨#[105, 47, 111, 45, 119, 114, 105, 116, 101]⟩, 14, 0), (⟨#[105, 47, 111, 45, 102, 105, 108, 101, 110, 97, 109, 101]⟩, 14, 1), (⟨#[105, 47, 111, 45, 102, 105, 108, 101, 45, 100, 111, 101, 115, 45, 110, 111, 116, 45, 101, 120, 105, 115, 116]⟩, 17, 0), (⟨#[105, 47, 111, 45, 102, 105, 108, 101, 45, 97, 108, 114, 101, 97, 100, 121, 45, 101, 120, 105, 115, 116, 115]⟩, 17, 0)]
def Co.nm (k : Nat) : ByteArray := (Co.table.getD k (.empty, 0, 0)).1
def Co.par (k : Nat) : Int := (Co.table.getD k (.empty, 0, 0)).2.1
def Co.fld (k : Nat) : Int := (Co.table.getD k (.empty, 0, 0)).2.2
def Co.cells : Array Value := #[.string ⟨#[99, 111, 110, 100, 105, 116, 105, 111, 110]⟩, .int .i64 (-1), .int .i64 0, .string ⟨#[109, 101, 115, 115, 97, 103, 101]⟩, .int .i64 0, .int .i64 1, .string ⟨#[119, 97, 114, 110, 105, 110, 103]⟩, .int .i64 0, .int .i64 0, .string ⟨#[115, 101, 114, 105, 111, 117, 115]⟩, .int .i64 0, .int .i64 0, .string ⟨#[101, 114, 114, 111, 114]⟩, .int .i64 3, .int .i64 0, .string ⟨#[118, 105, 111, 108, 97, 116, 105, 111, 110]⟩, .int .i64 3, .int .i64 0, .string ⟨#[97, 115, 115, 101, 114, 116, 105, 111, 110]⟩, .int .i64 5, .int .i64 0, .string ⟨#[105, 114, 114, 105, 116, 97, 110, 116, 115]⟩, .int .i64 0, .int .i64 1, .string ⟨#[119, 104, 111]⟩, .int .i64 0, .int .i64 1, .string ⟨#[110, 111, 110, 45, 99, 111, 110, 116, 105, 110, 117, 97, 98, 108, 101]⟩, .int .i64 5, .int .i64 0, .string ⟨#[105, 109, 112, 108, 101, 109, 101, 110, 116, 97, 116, 105, 111, 110, 45, 114, 101, 115, 116, 114, 105, 99, 116, 105, 111, 110]⟩, .int .i64 5, .int .i64 0, .string ⟨#[108, 101, 120, 105, 99, 97, 108]⟩, .int .i64 5, .int .i64 0, .string ⟨#[115, 121, 110, 116, 97, 120]⟩, .int .i64 5, .int .i64 2, .string ⟨#[117, 110, 100, 101, 102, 105, 110, 101, 100]⟩, .int .i64 5, .int .i64 0, .string ⟨#[105, 47, 111]⟩, .int .i64 4, .int .i64 0, .string ⟨#[105, 47, 111, 45, 114, 101, 97, 100]⟩, .int .i64 14, .int .i64 0, .string ⟨#[105, 47, 111, 45, 119, 114, 105, 116, 101]⟩, .int .i64 14, .int .i64 0, .string ⟨#[105, 47, 111, 45, 102, 105, 108, 101, 110, 97, 109, 101]⟩, .int .i64 14, .int .i64 1, .string ⟨#[105, 47, 111, 45, 102, 105, 108, 101, 45, 100, 111, 101, 115, 45, 110, 111, 116, 45, 101, 120, 105, 115, 116]⟩, .int .i64 17, .int .i64 0, .string ⟨#[105, 47, 111, 45, 102, 105, 108, 101, 45, 97, 108, 114, 101, 97, 100, 121, 45, 101, 120, 105, 115, 116, 115]⟩, .int .i64 17, .int .i64 0]
theorem Co.cells_at : ∀ k, k < 20 → Co.cells[k * 3]? = some (.string (Co.nm k)) ∧ Co.cells[k * 3 + 1]? = some (.int .i64 (Co.par k)) ∧ Co.cells[k * 3 + 2]? = some (.int .i64 (Co.fld k)) := by
  intro k hk
  rcases (show k = 0 ∨ k = 1 ∨ k = 2 ∨ k = 3 ∨ k = 4 ∨ k = 5 ∨ k = 6 ∨ k = 7 ∨ k = 8 ∨ k = 9 ∨ k = 10 ∨ k = 11 ∨ k = 12 ∨ k = 13 ∨ k = 14 ∨ k = 15 ∨ k = 16 ∨ k = 17 ∨ k = 18 ∨ k = 19 by omega) with rfl | rfl | rfl | rfl | rfl | rfl | rfl | rfl | rfl | rfl | rfl | rfl | rfl | rfl | rfl | rfl | rfl | rfl | rfl | rfl
  all_goals exact ⟨rfl, rfl, rfl⟩

set_option maxHeartbeats 4000000 in
set_option maxRecDepth 1000000 in
theorem Co.kinds_any (w : World) : Calls Tryz.prog 59 #[] w fun e w' => e = .returned (.slice (some ⟨w.heap.size, 0, none⟩) 20 20) ∧ w'.heap[w.heap.size]? = some (.cells Co.cells 109 (0, 0)) ∧ Below w.heap.size w w' := by
  go_enter Tryz.func59, Tryz.ntmps59
  go_wp2
  go_ret
  refine ⟨rfl, ?_, (Below.refl _ _).alloc (Nat.le_refl _) _⟩
  exact heap_alloc_new _ _
end Go.Proofs.YtikmebkfdpbidaaGreatDoor
namespace Go.Proofs.YtikmebkfdpbidaaGreatDoor
open Go.RowKit
set_option linter.unusedVariables false

theorem Co.par_lt : ∀ k, k < 20 → -1 ≤ Co.par k ∧ Co.par k < k := by
  intro k hk
  rcases (show k = 0 ∨ k = 1 ∨ k = 2 ∨ k = 3 ∨ k = 4 ∨ k = 5 ∨ k = 6 ∨ k = 7 ∨ k = 8 ∨ k = 9 ∨ k = 10 ∨ k = 11 ∨ k = 12 ∨ k = 13 ∨ k = 14 ∨ k = 15 ∨ k = 16 ∨ k = 17 ∨ k = 18 ∨ k = 19 by omega) with rfl | rfl | rfl | rfl | rfl | rfl | rfl | rfl | rfl | rfl | rfl | rfl | rfl | rfl | rfl | rfl | rfl | rfl | rfl | rfl
  all_goals decide
/-- Going up from t until there is none, or it is 'of'. -/
def Co.und : Nat → Int → Int → Bool
  | 0, t, of => t == of
  | n + 1, t, of => if t < 0 ∨ t = of then t == of else Co.und n (Co.par t.toNat) of
def Co.under (t of : Int) : Bool := Co.und 20 t of
def Co.thr (t : Int) : Bool := decide (0 ≤ t ∧ t < 20)

theorem Co.cell_of {w : World} {b : Nat} {C : Array Value} {t : TypeId} (h : w.heap[b]? = some (.cells C t (0, 0))) (k : Nat) : w.cell? ⟨b, k, none⟩ = C[k]? := by
  simp [World.cell?, h]
theorem Co.kind_cells {w : World} {b : Nat} {t : TypeId} (h : w.heap[b]? = some (.cells Co.cells t (0, 0))) (k : Nat) (hk : k < 20) : w.cell? ⟨b, k * 3, none⟩ = some (.string (Co.nm k)) ∧ w.cell? ⟨b, k * 3 + 1, none⟩ = some (.int .i64 (Co.par k)) ∧ w.cell? ⟨b, k * 3 + 2, none⟩ = some (.int .i64 (Co.fld k)) := by
  obtain ⟨h1, h2, h3⟩ := Co.cells_at k hk
  exact ⟨(Co.cell_of h _).trans h1, (Co.cell_of h _).trans h2, (Co.cell_of h _).trans h3⟩

theorem Co.setCells {w : World} {b : Nat} {C : Array Value} {t : TypeId} (h : w.heap[b]? = some (.cells C t (0, 0))) (k : Nat) (u : Value) : (w.setCell ⟨b, k, none⟩ u).heap[b]? = some (.cells (C.set! k u) t (0, 0)) := by
  obtain ⟨hlt, hk⟩ := Array.getElem?_eq_some_iff.1 h
  show (w.heap.modify b _)[b]? = _
  rw [Array.getElem?_eq_getElem (by rw [Array.size_modify]; exact hlt), Array.getElem_modify_self, hk]
  rfl
theorem Co.frozen_of {w : World} {b : Nat} {C : Array Value} {t : TypeId} (h : w.heap[b]? = some (.cells C t (0, 0))) (k : Nat) : w.frozen? ⟨b, k, none⟩ = false := by
  simp [World.frozen?, h]
/-- What a store of three cells asks and leaves. -/
theorem Co.store3 {w : World} {b : Nat} {v0 v1 v2 : Value} {t : TypeId} (h : w.heap[b]? = some (.cells #[v0, v1, v2] t (0, 0))) (u0 u1 u2 : Value) :
    w.cell? ⟨b, 0, none⟩ = some v0 ∧ w.frozen? ⟨b, 0, none⟩ = false ∧ (w.setCell ⟨b, 0, none⟩ u0).cell? ⟨b, 1, none⟩ = some v1 ∧ (w.setCell ⟨b, 0, none⟩ u0).frozen? ⟨b, 1, none⟩ = false ∧
    ((w.setCell ⟨b, 0, none⟩ u0).setCell ⟨b, 1, none⟩ u1).cell? ⟨b, 2, none⟩ = some v2 ∧ ((w.setCell ⟨b, 0, none⟩ u0).setCell ⟨b, 1, none⟩ u1).frozen? ⟨b, 2, none⟩ = false ∧
    (((w.setCell ⟨b, 0, none⟩ u0).setCell ⟨b, 1, none⟩ u1).setCell ⟨b, 2, none⟩ u2).heap[b]? = some (.cells #[u0, u1, u2] t (0, 0)) := by
  have h1 := Co.setCells h 0 u0
  have h2 := Co.setCells h1 1 u1
  have h3 := Co.setCells h2 2 u2
  exact ⟨Co.cell_of h 0, Co.frozen_of h 0, Co.cell_of h1 1, Co.frozen_of h1 1, Co.cell_of h2 2, Co.frozen_of h2 2, h3⟩

set_option maxHeartbeats 4000000 in
set_option maxRecDepth 1000000 in
theorem Co.find_in (k : Nat) (hk : k < 20) (w : World) : Calls Tryz.prog 55 #[.int .i64 k] w fun e w' => e = .returned (.tuple #[.agg #[.string (Co.nm k), .int .i64 (Co.par k), .int .i64 (Co.fld k)], .bool true]) ∧ Below w.heap.size w w' := by
  have h0 : ¬ ((k : Int) < 0) := by omega
  have h1 : ¬ ((k : Int) ≥ 20) := by omega
  go_enter Tryz.func55, Tryz.ntmps55
  go_wp2_with fail
  refine (Co.kinds_any _).mono ?_
  rintro x w1 ⟨rfl, hg, hb⟩
  have e0 : ∀ o, (w.alloc o).heap.size = w.heap.size + 1 := by intro o; simp
  rw [e0] at hg
  have q0 : w1.heap[w.heap.size]? = some (.cells #[.string ⟨#[]⟩, .int .i64 0, .int .i64 0] 109 (0, 0)) := by
    rw [hb.block _ (by simp)]
    exact heap_alloc_new _ _
  obtain ⟨c0, c1, c2⟩ := Co.kind_cells hg k hk
  have HB := Lib.hid (((Below.refl w.heap.size w).alloc (Nat.le_refl _) _).trans (hb.mono (by simp)))
  clear hb hg e0
  obtain ⟨f0, z0, f1, z1, f2, z2, f3⟩ := Co.store3 q0 (.string (Co.nm k)) (.int .i64 (Co.par k)) (.int .i64 (Co.fld k))
  have F3 := Lib.hid f3
  have g0 := Co.cell_of f3 0
  have g1 := Co.cell_of f3 1
  have g2 := Co.cell_of f3 2
  clear f3 q0
  go_wp2_with fail
  refine bodyPost_ret (v := .tuple #[.agg #[.string (Co.nm k), .int .i64 (Co.par k), .int .i64 (Co.fld k)], .bool true]) (by simp [results, Tryz.results55, go_sem, g0, g1, g2]) rfl ⟨rfl, ?_⟩
  exact ((HB.out.setCell (Nat.le_refl _) _).setCell (Nat.le_refl _) _).setCell (Nat.le_refl _) _

set_option maxHeartbeats 4000000 in
set_option maxRecDepth 1000000 in
theorem Co.find_out (t : Int) (ht : t < 0 ∨ t ≥ 20) (w : World) : Calls Tryz.prog 55 #[.int .i64 t] w fun e w' => e = .returned (.tuple #[.agg #[.string ⟨#[]⟩, .int .i64 0, .int .i64 0], .bool false]) ∧ Below w.heap.size w w' := by
  go_enter Tryz.func55, Tryz.ntmps55
  go_wp2_with fail
  refine (Co.kinds_any _).mono ?_
  rintro x w1 ⟨rfl, hg, hb⟩
  have q0 : w1.heap[w.heap.size]? = some (.cells #[.string ⟨#[]⟩, .int .i64 0, .int .i64 0] 109 (0, 0)) := by
    rw [hb.block _ (by simp)]
    exact heap_alloc_new _ _
  have HB := Lib.hid (((Below.refl w.heap.size w).alloc (Nat.le_refl _) _).trans (hb.mono (by simp)))
  clear hb hg
  obtain ⟨f0, z0, f1, z1, f2, z2, f3⟩ := Co.store3 q0 (.string ⟨#[]⟩) (.int .i64 0) (.int .i64 0)
  have g0 := Co.cell_of f3 0
  have g1 := Co.cell_of f3 1
  have g2 := Co.cell_of f3 2
  clear f3 q0
  rcases ht with ht | ht
  all_goals
    go_wp2_with fail
    refine bodyPost_ret (v := .tuple #[.agg #[.string ⟨#[]⟩, .int .i64 0, .int .i64 0], .bool false]) (by simp [results, Tryz.results55, go_sem, g0, g1, g2]) rfl ⟨rfl, ?_⟩
    exact ((HB.out.setCell (Nat.le_refl _) _).setCell (Nat.le_refl _) _).setCell (Nat.le_refl _) _

theorem Co.und_stop (n : Nat) (t of : Int) (h : t < 0 ∨ t = of) : Co.und n t of = (t == of) := by
  cases n with
  | zero => rfl
  | succ n => rw [Co.und, if_pos h]
theorem Co.und_step (n : Nat) (t of : Int) (h : ¬ (t < 0 ∨ t = of)) : Co.und (n + 1) t of = Co.und n (Co.par t.toNat) of := by
  rw [Co.und, if_neg h]

set_option maxHeartbeats 4000000 in
set_option maxRecDepth 1000000 in
theorem Co.under_any (t : Nat) (ht : t < 20) (of : Int) (w : World) : Calls Tryz.prog 62 #[.int .i64 t, .int .i64 of] w fun e w' => e = .returned (.bool (Co.under t of)) ∧ Below w.heap.size w w' := by
  have hU : ∃ U, Co.und 20 t of = U := ⟨_, rfl⟩
  obtain ⟨U, hU⟩ := hU
  unfold Co.under
  rw [hU]
  go_enter Tryz.func62, Tryz.ntmps62
  go_wp2_with fail
  refine (Co.kinds_any _).mono ?_
  rintro x w1 ⟨rfl, hg, hb⟩
  have HB := Lib.hid hb
  clear hb
  go_wp2_with fail
  go_loopw [0] (fun i wr => ∃ (n : Nat) (k : Int), i = .int .i64 k ∧ -1 ≤ k ∧ k < n ∧ n ≤ 20 ∧ Co.und n k of = U ∧ wr = w1) (fun i _ => (intOf i + 1).toNat)
  case atStart => exact ⟨20, t, rfl, by omega, by omega, Nat.le_refl _, hU, rfl⟩
  case round =>
    obtain ⟨n, k, rfl, hk, hkn, hn, hu, rfl⟩ := hrel
    by_cases h1 : k < 0
    · rw [Co.und_stop _ _ _ (.inl h1)] at hu
      have h2 : ¬ (k ≥ 0) := by omega
      go_wp2_with fail
      go_ret
      refine ⟨?_, HB.out⟩
      rw [← hu]
      first | rfl | simp
    · by_cases h2 : k = of
      · rw [Co.und_stop _ _ _ (.inr h2)] at hu
        have h3 : k ≥ 0 := by omega
        subst h2
        go_wp2_with fail
        go_ret
        refine ⟨?_, HB.out⟩
        rw [← hu]
        first | rfl | simp
      · obtain ⟨m, rfl⟩ : ∃ m : Nat, k = m := ⟨k.toNat, by omega⟩
        obtain ⟨n, rfl⟩ : ∃ q : Nat, n = q + 1 := ⟨n - 1, by omega⟩
        rw [Co.und_step _ _ _ (by omega), Int.toNat_natCast] at hu
        obtain ⟨p1, p2⟩ := Co.par_lt m (by omega)
        obtain ⟨c0, c1, c2⟩ := Co.kind_cells hg m (by omega)
        have h3 : (m : Int) ≥ 0 := by omega
        have h4 : m < 20 := by omega
        have HN := Lib.hid hn
        have HKN := Lib.hid hkn
        have HU := Lib.hid hu
        clear hn hkn hu hk
        go_wp2_with fail
        go_roundw
        case rel => exact ⟨n, Co.par m, rfl, p1, by have := HKN.out; omega, by have := HN.out; omega, HU.out, trivial⟩
        case measure => simp [intOf]; omega

/-- Is it a type, and what is told of it. -/
theorem Co.find_any (t : Int) (w : World) : Calls Tryz.prog 55 #[.int .i64 t] w fun e w' => e = .returned (.tuple #[.agg #[.string (if Co.thr t then Co.nm t.toNat else ⟨#[]⟩), .int .i64 (if Co.thr t then Co.par t.toNat else 0), .int .i64 (if Co.thr t then Co.fld t.toNat else 0)], .bool (Co.thr t)]) ∧ Below w.heap.size w w' := by
  by_cases h : 0 ≤ t ∧ t < 20
  · have e : Co.thr t = true := decide_eq_true h
    rw [e]
    have := Co.find_in t.toNat (by omega) w
    rw [show ((t.toNat : Nat) : Int) = t by omega] at this
    exact this
  · have e : Co.thr t = false := decide_eq_false h
    rw [e]
    exact Co.find_out t (by omega) w

set_option maxHeartbeats 4000000 in
set_option maxRecDepth 1000000 in
theorem Co.name_any (t : Int) (w : World) : Calls Tryz.prog 87 #[.int .i64 t] w fun e w' => e = .returned (.tuple #[.string (if Co.thr t then Co.nm t.toNat else ⟨#[]⟩), .int .i64 (if Co.thr t then 0 else 7)]) ∧ Below w.heap.size w w' := by
  have KF := Lib.hid (Co.find_any t w)
  cases he : Co.thr t
  all_goals
    rw [he] at KF
    simp only [if_true, if_false, Bool.false_eq_true] at KF ⊢
    go_enter Tryz.func87, Tryz.ntmps87
    go_wp2_with fail
    refine KF.out.mono ?_
    rintro x w1 ⟨rfl, hb⟩
    have HB := Lib.hid hb
    clear hb KF
    go_wp2
    go_ret2
    exact ⟨rfl, HB.out.alloc HB.out.size _⟩
def Co.Under (t of : Int) : Bool := (Co.thr t && Co.thr of) && Co.under t of
set_option maxHeartbeats 4000000 in
set_option maxRecDepth 1000000 in
theorem Co.Under_any (t of : Int) (w : World) : Calls Tryz.prog 29 #[.int .i64 t, .int .i64 of] w fun e w' => e = .returned (.tuple #[.bool (Co.Under t of), .int .i64 (if Co.thr t && Co.thr of then 0 else 7)]) ∧ Below w.heap.size w w' := by
  have KF := fun w => Co.find_any t w
  have KF2 := fun w => Co.find_any of w
  have KU : Co.thr t = true → ∀ w, Calls Tryz.prog 62 #[.int .i64 t, .int .i64 of] w fun e w' => e = .returned (.bool (Co.under t of)) ∧ Below w.heap.size w w' := by
    intro h w
    have h := of_decide_eq_true h
    have := Co.under_any t.toNat (by omega) of w
    rw [show ((t.toNat : Nat) : Int) = t by omega] at this
    exact this
  unfold Co.Under
  generalize Co.under t of = U at *
  generalize Co.nm t.toNat = n1 at *
  generalize Co.par t.toNat = n2 at *
  generalize Co.fld t.toNat = n3 at *
  generalize Co.nm of.toNat = m1 at *
  generalize Co.par of.toNat = m2 at *
  generalize Co.fld of.toNat = m3 at *
  cases he : Co.thr t <;> cases he2 : Co.thr of
  all_goals
    rw [he] at KF
    rw [he2] at KF2
    simp only [if_true, if_false, Bool.false_eq_true, Bool.and_true, Bool.and_false, Bool.true_and, Bool.false_and] at KF KF2 ⊢
    go_enter Tryz.func29, Tryz.ntmps29
    go_wp2_with fail
    refine (KF _).mono ?_
    rintro x w1 ⟨rfl, hb⟩
    have HA : ∀ o, Below w.heap.size w (w1.alloc o) := fun o => hb.alloc hb.size o
    clear hb
    go_wp2_with fail
    refine (KF2 _).mono ?_
    rintro x w2 ⟨rfl, hb2⟩
    have HB2 := Lib.hid ((HA _).trans (hb2.mono (HA _).size))
    have HA2 : ∀ o, Below w.heap.size w (w2.alloc o) := fun o => HB2.out.alloc HB2.out.size o
    clear hb2 HA
    go_wp2_with fail
    first
    | (go_ret2
       exact ⟨rfl, HA2 _⟩)
    | (refine (KU he _).mono ?_
       rintro x w3 ⟨rfl, hb3⟩
       have HB3 := Lib.hid ((HA2 _).trans (hb3.mono (HA2 _).size))
       clear hb3 HA2
       go_wp2
       go_ret2
       exact ⟨rfl, HB3.out⟩)
end Go.Proofs.YtikmebkfdpbidaaGreatDoor
namespace Go.Proofs.YtikmebkfdpbidaaGreatDoor
open Go.RowKit
set_option linter.unusedVariables false

/-- How many fields a type has, its parents' among them. -/
def Co.nfu : Nat → Int → Int
  | 0, _ => 0
  | n + 1, t => if t < 0 then 0 else Co.fld t.toNat + Co.nfu n (Co.par t.toNat)
def Co.nf (t : Nat) : Int := Co.nfu 20 t
theorem Co.nfu_stop (n : Nat) (t : Int) (h : t < 0) : Co.nfu n t = 0 := by
  cases n with
  | zero => rfl
  | succ n => rw [Co.nfu, if_pos h]
theorem Co.nfu_step (n : Nat) (t : Int) (h : ¬ t < 0) : Co.nfu (n + 1) t = Co.fld t.toNat + Co.nfu n (Co.par t.toNat) := by
  rw [Co.nfu, if_neg h]
theorem Co.fld_le : ∀ k, k < 20 → 0 ≤ Co.fld k ∧ Co.fld k ≤ 2 := by
  intro k hk
  rcases (show k = 0 ∨ k = 1 ∨ k = 2 ∨ k = 3 ∨ k = 4 ∨ k = 5 ∨ k = 6 ∨ k = 7 ∨ k = 8 ∨ k = 9 ∨ k = 10 ∨ k = 11 ∨ k = 12 ∨ k = 13 ∨ k = 14 ∨ k = 15 ∨ k = 16 ∨ k = 17 ∨ k = 18 ∨ k = 19 by omega) with rfl | rfl | rfl | rfl | rfl | rfl | rfl | rfl | rfl | rfl | rfl | rfl | rfl | rfl | rfl | rfl | rfl | rfl | rfl | rfl
  all_goals decide
end Go.Proofs.YtikmebkfdpbidaaGreatDoor
namespace Go.Proofs.YtikmebkfdpbidaaGreatDoor
open Go.RowKit
set_option linter.unusedVariables false

structure Sp where
  t : Int
  f : List Tr
/-- Parts, one behind the other in memory. -/
def Sp.At (w : World) (S : Nat → Prop) (l : List Sp) (b off : Nat) : Prop := ∀ k s, l[k]? = some s → ∃ fv, w.cell? ⟨b, off + k * 2, none⟩ = some (.int .i64 s.t) ∧ w.cell? ⟨b, off + k * 2 + 1, none⟩ = some fv ∧ Tr.LIn w S s.f fv
/-- The value reads as the parts l; all that they lie in is of S. -/
def Sp.LIn (w : World) (S : Nat → Prop) (l : List Sp) (v : Value) : Prop := Tr.Sl w S v l.length (fun b off => Sp.At w S l b off)
theorem Sp.LIn.slice {w : World} {S : Nat → Prop} {l : List Sp} {v : Value} (h : Sp.LIn w S l v) : ∃ ad cap, v = .slice ad l.length cap ∧ l.length ≤ cap ∧ (l.length = 0 ∨ cap ≤ 9223372036854775807) := Tr.Sl.slice h
theorem Sp.LIn.at {w : World} {S : Nat → Prop} {l : List Sp} {ad : Option Addr} {n cap : Nat} (h : Sp.LIn w S l (.slice ad n cap)) {k : Nat} {s : Sp} (hk : l[k]? = some s) : ∃ b off fv, ad = some ⟨b, off, none⟩ ∧ b < w.heap.size ∧ S b ∧ w.cell? ⟨b, off + k * 2, none⟩ = some (.int .i64 s.t) ∧ w.cell? ⟨b, off + k * 2 + 1, none⟩ = some fv ∧ Tr.LIn w S s.f fv := by
  have hlt := (List.getElem?_eq_some_iff.1 hk).1
  obtain ⟨b, off, e, _, _, _, hb, hS, hA⟩ := Tr.Sl.at h (by omega)
  obtain ⟨fv, h1, h2, h3⟩ := hA k s hk
  exact ⟨b, off, fv, e, hb, hS, h1, h2, h3⟩
theorem Sp.LIn.kept {w w' : World} {S : Nat → Prop} {l : List Sp} {v : Value} (h : Sp.LIn w S l v) (hk : Tr.Kept S w w') : Sp.LIn w' S l v :=
  Tr.Sl.imp h hk.size (fun _ h => h) (fun b off hb hS hA k s hs => by
    obtain ⟨fv, h1, h2, h3⟩ := hA k s hs
    exact ⟨fv, (hk.cell hS hb).trans h1, (hk.cell hS hb).trans h2, h3.kept hk⟩)
theorem Sp.LIn.mono {w : World} {S S' : Nat → Prop} {l : List Sp} {v : Value} (h : Sp.LIn w S l v) (hk : ∀ q, S q → S' q) : Sp.LIn w S' l v :=
  Tr.Sl.imp h (Nat.le_refl _) hk (fun b off hb hS hA k s hs => by
    obtain ⟨fv, h1, h2, h3⟩ := hA k s hs
    exact ⟨fv, h1, h2, h3.mono hk⟩)
theorem Sp.LIn.below {w w' : World} {S : Nat → Prop} {B : Nat} {l : List Sp} {v : Value} (h : Sp.LIn w S l v) (hb : Below B w w') (hB : w.heap.size ≤ B) : Sp.LIn w' S l v := h.kept (Tr.Kept.all hb hB)
theorem Sp.LIn.nil (w : World) (S : Nat → Prop) : Sp.LIn w S [] (.slice none 0 0) := .inl ⟨rfl, rfl⟩

/-- Check's answer for one part. -/
def Sp.one (s : Sp) : Int := if Co.thr s.t = false then 7 else if Co.nf s.t.toNat ≠ s.f.length then 1 else if s.f.all Tr.sound then 0 else 2
def Sp.chkL : List Sp → Int
  | [] => 0
  | s :: r => if Sp.one s = 0 then Sp.chkL r else Sp.one s
/-- Check's answer. -/
def Sp.chk (l : List Sp) : Int := if 16 < l.length then 4 else Sp.chkL l
theorem Sp.chkL_at {l : List Sp} {k : Nat} {s : Sp} (hk : l[k]? = some s) : Sp.chkL (l.drop k) = if Sp.one s = 0 then Sp.chkL (l.drop (k + 1)) else Sp.one s := by
  obtain ⟨hlt, he⟩ := List.getElem?_eq_some_iff.1 hk
  rw [List.drop_eq_getElem_cons hlt, he]; rfl
theorem Sp.one_none {s : Sp} (h : Co.thr s.t = false) : Sp.one s = 7 := by unfold Sp.one; rw [if_pos h]
theorem Sp.one_arg {s : Sp} (h : Co.thr s.t = true) (h2 : Co.nf s.t.toNat ≠ s.f.length) : Sp.one s = 1 := by unfold Sp.one; rw [if_neg (by rw [h]; decide), if_pos h2]
theorem Sp.one_sound {s : Sp} (h : Co.thr s.t = true) (h2 : Co.nf s.t.toNat = s.f.length) (h3 : s.f.all Tr.sound = true) : Sp.one s = 0 := by unfold Sp.one; rw [if_neg (by rw [h]; decide), if_neg (by rw [h2]; exact fun h => h rfl), if_pos h3]
theorem Sp.one_form {s : Sp} (h : Co.thr s.t = true) (h2 : Co.nf s.t.toNat = s.f.length) (h3 : s.f.all Tr.sound = false) : Sp.one s = 2 := by unfold Sp.one; rw [if_neg (by rw [h]; decide), if_neg (by rw [h2]; exact fun h => h rfl), if_neg (by rw [h3]; decide)]
theorem Sp.one_range (s : Sp) : 0 ≤ Sp.one s ∧ Sp.one s ≤ 7 := by unfold Sp.one; repeat' split <;> omega
/-- A list that Check takes. -/
theorem Sp.chk_zero {l : List Sp} (h : Sp.chk l = 0) : l.length ≤ 16 ∧ Sp.chkL l = 0 := by
  unfold Sp.chk at h
  split at h
  · omega
  · exact ⟨by omega, h⟩
theorem Sp.one_zero {s : Sp} (h : Sp.one s = 0) : Co.thr s.t = true ∧ Co.nf s.t.toNat = s.f.length ∧ ∀ t ∈ s.f, Tr.sound t = true := by
  unfold Sp.one at h
  split at h
  · omega
  · rename_i h1
    split at h
    · omega
    · rename_i h2
      split at h
      · rename_i h3
        exact ⟨by cases e : Co.thr s.t with | true => rfl | false => exact absurd e h1, Classical.byContradiction h2, List.all_eq_true.1 h3⟩
      · omega
theorem Sp.chkL_zero : ∀ {l : List Sp}, Sp.chkL l = 0 ↔ ∀ s ∈ l, Sp.one s = 0
  | [] => ⟨fun _ s h => by simp at h, fun _ => rfl⟩
  | a :: r => by
    constructor
    · intro h s hs
      unfold Sp.chkL at h
      split at h
      · rename_i h1
        rcases List.mem_cons.1 hs with rfl | hs
        · exact h1
        · exact Sp.chkL_zero.1 h s hs
      · rename_i h1
        exact absurd h h1
    · intro h
      unfold Sp.chkL
      rw [if_pos (h a (List.mem_cons_self ..)), Sp.chkL_zero.2 (fun s hs => h s (List.mem_cons_of_mem _ hs))]
end Go.Proofs.YtikmebkfdpbidaaGreatDoor
namespace Go.Proofs.YtikmebkfdpbidaaGreatDoor
open Go.RowKit
set_option linter.unusedVariables false
set_option linter.unusedSimpArgs false

theorem Nt.bits_u32 (a b : Nat) (ha : a < 4294967296) (hb : b < 4294967296) : bits .and .u32 (a : Int) (b : Int) = ((a &&& b : Nat) : Int) ∧ bits .or .u32 (a : Int) (b : Int) = ((a ||| b : Nat) : Int) ∧ bits .xor .u32 (a : Int) (b : Int) = ((a ^^^ b : Nat) : Int) := by
  have hk : ∀ n : Int, 0 ≤ n → n < 2 ^ 32 → IntKind.u32.wrap n = n := fun n h0 h1 => by rw [IntKind.wrap_u32]; omega
  obtain ⟨h1, h2⟩ := bits_nat .u32 32 (by decide) hk a b ha hb
  refine ⟨h1, h2, ?_⟩
  have ha' : a % 2 ^ IntKind.u32.bits = a := Nat.mod_eq_of_lt ha
  have hb' : b % 2 ^ IntKind.u32.bits = b := Nat.mod_eq_of_lt hb
  simp only [bits, BitVec.ofInt_natCast, BitVec.toNat_xor, BitVec.toNat_ofNat, ha', hb']
  have : a ^^^ b < 2 ^ 32 := Nat.xor_lt_two_pow ha hb
  exact hk _ (by omega) (by omega)
theorem Nt.top_bit {n : Nat} (h : n < 4294967296) : n / 2147483648 = (n.testBit 31).toNat := by
  rw [Nat.testBit_eq_decide_div_mod_eq]
  have e : (2 : Nat) ^ 31 = 2147483648 := by decide
  rw [e]
  have : n / 2147483648 < 2 := by omega
  rcases Nat.lt_or_ge (n / 2147483648) 1 with h | h
  · have : n / 2147483648 = 0 := by omega
    simp [this]
  · have : n / 2147483648 = 1 := by omega
    simp [this]
theorem Nt.not_lt {n : Nat} (h : n < 4294967296) : 4294967295 ^^^ n < 4294967296 := Nat.xor_lt_two_pow (n := 32) (by decide) h
/-- The borrow, as its bits are reckoned. -/
theorem Nt.borrow {x y c d : Nat} (hx : x < 4294967296) (hy : y < 4294967296) (hc : c ≤ 1) (hd : (d : Int) = ((x : Int) - (y : Int) - (c : Int)) % 4294967296) :
    d < 4294967296 ∧ ((4294967295 ^^^ x) &&& y ||| (4294967295 ^^^ (x ^^^ y)) &&& d) / 2147483648 ≤ 1 ∧ d + y + c = x + 4294967296 * (((4294967295 ^^^ x) &&& y ||| (4294967295 ^^^ (x ^^^ y)) &&& d) / 2147483648) := by
  have hdl : d < 4294967296 := by omega
  have hE : (4294967295 ^^^ x) &&& y ||| (4294967295 ^^^ (x ^^^ y)) &&& d < 4294967296 := Nat.or_lt_two_pow (n := 32) (Nat.and_lt_two_pow _ hy) (Nat.and_lt_two_pow _ hdl)
  rw [Nt.top_bit hE]
  have hmax : Nat.testBit 4294967295 31 = true := by decide
  rw [Nat.testBit_or, Nat.testBit_and, Nat.testBit_and, Nat.testBit_xor, Nat.testBit_xor, Nat.testBit_xor, hmax]
  have e : ∀ n : Nat, n.testBit 31 = decide (n / 2147483648 % 2 = 1) := fun n => by
    rw [Nat.testBit_eq_decide_div_mod_eq]
  rw [e x, e y, e d]
  refine ⟨hdl, ?_, ?_⟩
  · cases decide (x / 2147483648 % 2 = 1) <;> cases decide (y / 2147483648 % 2 = 1) <;> cases decide (d / 2147483648 % 2 = 1) <;> decide
  · by_cases h1 : x / 2147483648 % 2 = 1 <;> by_cases h2 : y / 2147483648 % 2 = 1 <;> by_cases h3 : d / 2147483648 % 2 = 1 <;> simp only [h1, h2, h3, decide_true, decide_false] <;> simp <;> omega
set_option maxHeartbeats 4000000 in
set_option maxRecDepth 1000000 in
theorem Nt.Add32_any (x y c : Nat) (w : World) (hx : x < 4294967296) (hy : y < 4294967296) (hc : c ≤ 1) : Calls Tryz.prog 177 #[.int .u32 x, .int .u32 y, .int .u32 c] w fun e w' => e = .returned (.tuple #[.int .u32 ((x + y + c) % 4294967296 : Nat), .int .u32 ((x + y + c) / 4294967296 : Nat)]) ∧ w' = w := by
  have h1 : ((x : Int) + (y : Int)) % 18446744073709551616 = (x : Int) + (y : Int) := by omega
  have h2 : ((x : Int) + (y : Int) + (c : Int)) % 18446744073709551616 = (x : Int) + (y : Int) + (c : Int) := by omega
  go_enter Tryz.func177, Tryz.ntmps177
  go_wp2_with fail
  go_ret2
  refine ⟨?_, rfl⟩
  rw [show (((x + y + c) % 4294967296 : Nat) : Int) = ((x : Int) + (y : Int) + (c : Int)) % 4294967296 by omega, show (((x + y + c) / 4294967296 : Nat) : Int) = ((x : Int) + (y : Int) + (c : Int)) / 4294967296 by omega]
  rfl
set_option maxHeartbeats 4000000 in
set_option maxRecDepth 1000000 in
theorem Nt.Sub32_any (x y c : Nat) (w : World) (hx : x < 4294967296) (hy : y < 4294967296) (hc : c ≤ 1) : Calls Tryz.prog 211 #[.int .u32 x, .int .u32 y, .int .u32 c] w fun e w' => ∃ d c' : Nat, e = .returned (.tuple #[.int .u32 d, .int .u32 c']) ∧ d < 4294967296 ∧ c' ≤ 1 ∧ d + y + c = x + 4294967296 * c' ∧ w' = w := by
  obtain ⟨d, hd⟩ : ∃ d : Nat, (d : Int) = ((x : Int) - (y : Int) - (c : Int)) % 4294967296 := ⟨(((x : Int) - (y : Int) - (c : Int)) % 4294967296).toNat, by omega⟩
  obtain ⟨hdl, hb1, hb2⟩ := Nt.borrow hx hy hc hd
  have hd' := hd.symm
  have b1 := (Nt.bits_u32 4294967295 x (by decide) hx).2.2
  have b2 := (Nt.bits_u32 (4294967295 ^^^ x) y (Nt.not_lt hx) hy).1
  have hxy : x ^^^ y < 4294967296 := Nat.xor_lt_two_pow (n := 32) hx hy
  have b3 := (Nt.bits_u32 x y hx hy).2.2
  have b4 := (Nt.bits_u32 4294967295 (x ^^^ y) (by decide) hxy).2.2
  have b5 := (Nt.bits_u32 (4294967295 ^^^ (x ^^^ y)) d (Nt.not_lt hxy) hdl).1
  have b6 := (Nt.bits_u32 ((4294967295 ^^^ x) &&& y) ((4294967295 ^^^ (x ^^^ y)) &&& d) (Nat.and_lt_two_pow (n := 32) _ hy) (Nat.and_lt_two_pow (n := 32) _ hdl)).2.1
  have hm : IntKind.u32.max = ((4294967295 : Nat) : Int) := by decide
  have HB := Lib.hid (And.intro hb1 hb2)
  clear hb1 hb2 hd
  rw [← hm] at b1 b4
  clear hm
  go_enter Tryz.func211, Tryz.ntmps211
  go_wp2_with fail
  go_ret2
  exact ⟨d, _, rfl, hdl, HB.out.1, HB.out.2, rfl⟩
end Go.Proofs.YtikmebkfdpbidaaGreatDoor
namespace Go.Proofs.YtikmebkfdpbidaaGreatDoor
open Go.RowKit
set_option linter.unusedVariables false
set_option linter.unusedSimpArgs false

/-- A row of n noughts is made. -/
theorem Nt.make (n : Nat) (w : World) (hn : n ≤ 1000000) : (Instr.makeSlice 22 (.int .i64 (n : Int)) (.int .i64 (n : Int))).run Tryz.prog w = .ok (.slice (some ⟨w.heap.size, 0, none⟩) n n) (w.alloc (.cells (Nt.row (List.replicate n 0)) 144)) := by
  obtain ⟨i0, hi, hz0, hz1, hz2⟩ := info_parts Nt.infoWord
  have := run_makeSlice (P := Tryz.prog) w 22 144 i0 (.int .u32 0) Tryz.underlying22 hi hz0 .i64 .i64 n n (by omega) (by omega) (by rw [hz1]; omega) (by rw [hz2]; omega) (by omega)
  rw [this, hz1, show ((n : Int).toNat * 1) = n by omega, Nt.made_zeros]
  rfl
/-- A store into a row that the call has made. -/
theorem Nt.store {w : World} {T B : Nat} {w0 : World} {t : TypeId} {ws : List Nat} (h : w.heap[T]? = some (.cells (Nt.row ws) t (0, 0))) (k x : Nat) (hk : k < ws.length) (hb : Below B w0 w) (hB : B ≤ T) :
    ∃ W, w.setCell ⟨T, k, none⟩ (.int .u32 (x : Int)) = W ∧ w.cell? ⟨T, k, none⟩ = some (.int .u32 (ws.getD k 0 : Nat)) ∧ w.frozen? ⟨T, k, none⟩ = false ∧ W.heap[T]? = some (.cells (Nt.row (ws.set k x)) t (0, 0)) ∧ Below B w0 W ∧ W.heap.size = w.heap.size :=
  ⟨_, rfl, Nt.cell_row h k hk, Nt.frozen_row h k, Nt.set_row h k x, hb.setCell (p := ⟨T, k, none⟩) hB _, by simp⟩

set_option maxHeartbeats 4000000 in
set_option maxRecDepth 1000000 in
theorem Nt.plus_ws (a0 b0 : List Nat) (v v2 : Value) (w : World) (h : Nt.In w v a0) (h2 : Nt.In w v2 b0) (ha : Nt.Wd a0) (hb : Nt.Wd b0) (hl : a0.length ≤ 500000) (hll : b0.length ≤ 500000) : Calls Tryz.prog 168 #[v, v2] w fun e w' => ∃ v', e = .returned v' ∧ Nt.N w' v' (Nt.val a0 + Nt.val b0) ∧ Below w.heap.size w w' := by
  obtain ⟨ad, cap, rfl⟩ := h.slice
  obtain ⟨ad2, cap2, rfl⟩ := h2.slice
  have H0 := Lib.hid h
  have H02 := Lib.hid h2
  have HA0 := Lib.hid ha
  have HB0 := Lib.hid hb
  clear h h2 ha hb
  go_enter Tryz.func168, Tryz.ntmps168
  go_upto_if 13 with (fail)
  go_cut [0, 1] (fun s t wx => wx = w ∧ ∃ (a b : List Nat) (ad ad2 : Option Addr) (cap cap2 : Nat), s = .slice ad a.length cap ∧ t = .slice ad2 b.length cap2 ∧ Nt.In w s a ∧ Nt.In w t b ∧ Nt.Wd a ∧ Nt.Wd b ∧ a.length ≤ 500000 ∧ b.length ≤ a.length ∧ Nt.val a + Nt.val b = Nt.val a0 + Nt.val b0)
  case first =>
    by_cases hlt : a0.length < b0.length
    · have hltI : (a0.length : Int) < (b0.length : Int) := by omega
      go_wp2_with fail
      go_meet
      exact ⟨rfl, b0, a0, _, _, _, _, rfl, rfl, H02.out, H0.out, HB0.out, HA0.out, hll, by omega, Nat.add_comm _ _⟩
    · have hltI : ¬ (a0.length : Int) < (b0.length : Int) := by omega
      go_wp2_with fail
      go_meet
      exact ⟨rfl, a0, b0, _, _, _, _, rfl, rfl, H0.out, H02.out, HA0.out, HB0.out, hl, by omega, rfl⟩
  case rest =>
  clear H0 H02 HA0 HB0 hl hll
  obtain ⟨rfl, a, b, ad, ad2, cap, cap2, rfl, rfl, h, h2, ha, hb, hl, hll, hsum⟩ := hcut
  have H := Lib.hid h
  have H2 := Lib.hid h2
  have HA := Lib.hid ha
  have HB := Lib.hid hb
  have HSUM := Lib.hid hsum
  have hmk := Nt.make (a.length + 1) wc (by omega)
  have hcast : (((a.length + 1 : Nat) : Int)) = (a.length : Int) + 1 := by omega
  rw [hcast] at hmk
  clear h h2 ha hb hsum hcast
  obtain ⟨T, hT⟩ : ∃ T, wc.heap.size = T := ⟨_, rfl⟩
  obtain ⟨w2, hw2⟩ : ∃ z, wc.alloc (.cells (Nt.row (List.replicate (a.length + 1) 0)) 144) = z := ⟨_, rfl⟩
  have q2 : w2.heap[T]? = some (.cells (Nt.row (List.replicate (a.length + 1) 0)) 144 (0, 0)) := by rw [← hw2, ← hT]; exact heap_alloc_new wc _
  have hb2 : Below wc.heap.size wc w2 := hw2 ▸ (Below.refl _ _).alloc (Nat.le_refl _) _
  rw [hT, hw2] at hmk
  have HT := Lib.hid hT
  have HB2 := Lib.hid hb2
  have HQ2 := Lib.hid q2
  clear hT hw2 hb2 q2
  go_wp2_with fail
  go_loopw [6, 22] (fun cv i wr => ∃ (k c : Nat) (ws : List Nat), i = .int .i64 k ∧ cv = .int .u32 c ∧ k ≤ a.length ∧ c ≤ 1 ∧ ws.length = a.length + 1 ∧ Nt.Wd ws ∧ (∀ j, k ≤ j → ws.getD j 0 = 0) ∧ Nt.val (ws.take k) + 4294967296 ^ k * c = Nt.val (a.take k) + Nt.val (b.take k) ∧ wr.heap[T]? = some (.cells (Nt.row ws) 144 (0, 0)) ∧ Below wc.heap.size wc wr) (fun _ i _ => a.length - (intOf i).toNat)
  case atStart => exact ⟨0, 0, List.replicate (a.length + 1) 0, rfl, rfl, Nat.zero_le _, by decide, by simp, Nt.Wd.zeros _, fun j _ => Nt.zeros_getD _ _, by simp [Nt.val], HQ2.out, HB2.out⟩
  case round =>
    obtain ⟨k, c, ws, rfl, rfl, hk, hc1, hwl, hwd, hz, hval, hq, hbw⟩ := hrel
    obtain ⟨wo, hwo⟩ : ∃ z, z = wr := ⟨_, rfl⟩
    subst hwo
    have HZ := Lib.hid hz
    have HWD := Lib.hid hwd
    have HV := Lib.hid hval
    have HQ := Lib.hid hq
    have HBW := Lib.hid hbw
    have HWL := Lib.hid hwl
    clear hz hwd hval hq hbw hwl
    by_cases hlt : k < a.length
    · obtain ⟨b1, o1, rfl, _, hcap1, hbl1, hcell1⟩ := (H.out.below HBW.out (Nat.le_refl _)).at (by omega)
      have c1 := hcell1 k hlt
      have hxb := HA.out.getD k
      have hyb := HB.out.getD k
      have hz0 : ws.getD k 0 = 0 := HZ.out k (Nat.le_refl _)
      have hstep := Nt.plus_step (a := a) (b := b) (ws := ws) (i := k) (c := c) HV.out (by have := HWL.out; omega)
      obtain ⟨W, hW, e1, e2, hQ9, hB9, hS9⟩ := Nt.store HQ.out k ((a.getD k 0 + b.getD k 0 + c) % 4294967296) (by have := HWL.out; omega) HBW.out (by have := HT.out; omega)
      have HSTEP := Lib.hid hstep
      have HQ9 := Lib.hid hQ9
      have HB9 := Lib.hid hB9
      have hyb2 : k < b.length → ∃ b2 o2, ad2 = some ⟨b2, o2, none⟩ ∧ wo.cell? ⟨b2, o2 + k, none⟩ = some (.int .u32 (b.getD k 0 : Nat)) := fun h => by
        obtain ⟨b2, o2, e, _, _, _, hcell2⟩ := (H2.out.below HBW.out (Nat.le_refl _)).at (by omega)
        exact ⟨b2, o2, e, hcell2 k h⟩
      have hyb3 : ¬ k < b.length → b.getD k 0 = 0 := fun h => Nt.getD_ge b k (by omega)
      have HY2 := Lib.hid hyb2
      have HY3 := Lib.hid hyb3
      clear hcell1 hstep hQ9 hB9 hyb2 hyb3
      have HX := Lib.hid (And.intro hxb hyb)
      clear hxb hyb hz0
      generalize a.getD k 0 = x at *
      generalize b.getD k 0 = y at *
      have KA := fun w => Nt.Add32_any x y c w HX.out.1 HX.out.2 hc1
      have hc2 : (x + y + c) / 4294967296 ≤ 1 := by have := HX.out; omega
      have HC2 := Lib.hid hc2
      clear hc2
      have hks : ws.length = a.length + 1 := HWL.out
      have hkT : (k : Int) < (a.length : Int) + 1 := by omega
      obtain ⟨s, hs⟩ : ∃ s, (x + y + c) % 4294967296 = s := ⟨_, rfl⟩
      have hsl : s < 4294967296 := by omega
      rw [hs] at hW KA HQ9 HSTEP
      have HSL := Lib.hid hsl
      clear hs hsl hks
      have HNX : Hid (∀ j, k + 1 ≤ j → (ws.set k s).getD j 0 = 0) := Lib.hid (fun j hj => by rw [Nt.getD_set_ne ws k j s (by omega)]; exact HZ.out j (by omega))
      by_cases hlt2 : k < b.length
      · obtain ⟨b2, o2, rfl, c2⟩ := HY2.out hlt2
        have hlt2I : (k : Int) < (b.length : Int) := by omega
        go_wp2_with fail
        refine (KA _).mono ?_
        rintro z wz ⟨rfl, hwz⟩
        subst hwz
        go_wp2_with fail
        go_roundw
        case rel => exact ⟨k + 1, _, _, by first | rfl | go_num | (simp; try omega), rfl, by omega, HC2.out, by rw [List.length_set]; exact HWL.out, HWD.out.set k s HSL.out, HNX.out, HSTEP.out, HQ9.out, HB9.out⟩
        case measure => simp [intOf]; omega
      · obtain rfl := HY3.out hlt2
        have hlt2I : ¬ (k : Int) < (b.length : Int) := by omega
        go_wp2_with fail
        refine (KA _).mono ?_
        rintro z wz ⟨rfl, hwz⟩
        subst hwz
        go_wp2_with fail
        go_roundw
        case rel => exact ⟨k + 1, _, _, by first | rfl | go_num | (simp; try omega), rfl, by omega, HC2.out, by rw [List.length_set]; exact HWL.out, HWD.out.set k s HSL.out, HNX.out, HSTEP.out, HQ9.out, HB9.out⟩
        case measure => simp [intOf]; omega
    · obtain rfl : k = a.length := by omega
      have hlenw := HWL.out
      obtain ⟨W, hW, e1, e2, hQ9, hB9, hS9⟩ := Nt.store HQ.out a.length c (by omega) HBW.out (by have := HT.out; omega)
      have hval : Nt.val (ws.set a.length c) = Nt.val a0 + Nt.val b0 := by
        have h1 := Nt.val_set_take ws a.length c (by omega)
        rw [show (ws.set a.length c).take (a.length + 1) = ws.set a.length c by rw [List.take_of_length_le]; rw [List.length_set]; omega] at h1
        have h2 := HV.out
        rw [List.take_length, List.take_of_length_le hll] at h2
        rw [h1, h2, HSUM.out]
      have hin : Nt.In W (.slice (some ⟨T, 0, none⟩) (a.length + 1) (a.length + 1)) (ws.set a.length c) := by
        have := Nt.In.of_row hQ9
        rw [List.length_set, hlenw] at this
        exact this
      have KN := Nt.norm_any (ws.set a.length c) _ W hin (HWD.out.set _ _ (by omega)) (by rw [List.length_set]; omega)
      rw [hval] at KN
      have HB9 := Lib.hid hB9
      have hnlt : decide ((a.length : Int) < (a.length : Int)) = false := decide_eq_false (by omega)
      have hkT : (a.length : Int) < (a.length : Int) + 1 := by omega
      clear hval hin hQ9 hB9 hlenw
      go_wp2_with fail
      refine KN.mono ?_
      rintro z w8 ⟨v8, rfl, hn8, hb8⟩
      have HN8 := Lib.hid hn8
      have HB8 := Lib.hid (HB9.out.trans (hb8.mono HB9.out.size))
      clear hn8 hb8
      go_wp2_with fail
      go_ret
      exact ⟨_, rfl, HN8.out, HB8.out⟩
end Go.Proofs.YtikmebkfdpbidaaGreatDoor
namespace Go.Proofs.YtikmebkfdpbidaaGreatDoor
set_option linter.unusedVariables false

/-- While the guess is refused it is too great. -/
theorem Nt.guess_dec {U D v1 v2 lo dlo t rest u2 P : Nat} (hD : D = (v1 * 4294967296 + v2) * P + dlo) (hU : U = ((t * v1 + rest) * 4294967296 + u2) * P + lo) (hlo : lo < P) (h : rest * 4294967296 + u2 < t * v2) : U < t * D := by
  have h1 : (t * v1 + rest) * 4294967296 + u2 + 1 ≤ t * (v1 * 4294967296 + v2) := by
    rw [Nat.mul_add, Nat.add_mul, ← Nat.mul_assoc]
    omega
  have h2 : ((t * v1 + rest) * 4294967296 + u2 + 1) * P ≤ t * (v1 * 4294967296 + v2) * P := Nat.mul_le_mul_right _ h1
  have h3 : t * D = t * (v1 * 4294967296 + v2) * P + t * dlo := by rw [hD, Nat.mul_add, Nat.mul_assoc]
  rw [Nat.add_mul, Nat.one_mul] at h2
  have h4 := Nat.zero_le (t * dlo)
  omega
/-- Where it is not refused it is too great by one at most. -/
theorem Nt.guess_ok {U D v1 v2 lo dlo t rest u2 P : Nat} (hD : D = (v1 * 4294967296 + v2) * P + dlo) (hdlo : dlo < P) (hv1 : 0 < v1) (hU : U = ((t * v1 + rest) * 4294967296 + u2) * P + lo) (ht : t ≤ 4294967295) (h : t * v2 ≤ rest * 4294967296 + u2) : t * D < U + D := by
  have h1 : t * (v1 * 4294967296 + v2) ≤ (t * v1 + rest) * 4294967296 + u2 := by
    rw [Nat.mul_add, Nat.add_mul, ← Nat.mul_assoc]
    omega
  have h2 := Nat.mul_le_mul_right P h1
  have h3 : t * D = t * (v1 * 4294967296 + v2) * P + t * dlo := by rw [hD, Nat.mul_add, Nat.mul_assoc]
  have h4 : t * dlo ≤ 4294967295 * P := Nat.mul_le_mul ht (by omega)
  have h5 : 4294967296 * P ≤ (v1 * 4294967296 + v2) * P := Nat.mul_le_mul_right _ (by omega)
  have hP : 0 < P := by omega
  omega
/-- The guess stays one word where the rest is more than one word. -/
theorem Nt.guess_word {v1 t rest u0 u1 : Nat} (ht : t * v1 + rest = u0 * 4294967296 + u1) (h0 : u0 ≤ v1) (h1 : u1 < 4294967296) (hr : 4294967296 ≤ rest) : t ≤ 4294967295 := by
  rcases Nat.lt_or_ge t 4294967296 with h | h
  · omega
  · have := Nat.mul_le_mul_right v1 h
    have := Nat.mul_le_mul_right 4294967296 h0
    omega
/-- The first guess. -/
theorem Nt.guess_first {v1 u0 u1 : Nat} (hv1 : 2147483648 ≤ v1) (h0 : u0 ≤ v1) (h1 : u1 < 4294967296) : (u0 * 4294967296 + u1) / v1 ≤ 4294967297 := by
  have h : u0 * 4294967296 + u1 < 4294967298 * v1 := by omega
  have := (Nat.div_lt_iff_lt_mul (by omega : 0 < v1)).2 h
  omega
/-- The first guess is not too small. -/
theorem Nt.guess_start {U D v1 r1 u2 P P2 dlo lo q : Nat} (hD : D = v1 * P2 + dlo) (hU : U = r1 * P2 + lo) (hlo : lo < P2) (hq : q * D ≤ U) (hv1 : 0 < v1) : q ≤ r1 / v1 := by
  rw [Nat.le_div_iff_mul_le hv1]
  rcases Nat.lt_or_ge r1 (q * v1) with h | h
  · exfalso
    have h1 : (r1 + 1) * P2 ≤ q * v1 * P2 := Nat.mul_le_mul_right _ h
    have h2 : q * D = q * v1 * P2 + q * dlo := by rw [hD, Nat.mul_add, Nat.mul_assoc]
    have := Nat.zero_le (q * dlo)
    rw [Nat.add_mul, Nat.one_mul] at h1
    omega
  · exact h
/-- One word of the difference of a row and t times another: 'c' is carried, 'o' is borrowed. -/
theorem Nt.sub_word {u d t c o : Nat} (hu : u < 4294967296) (hd : d < 4294967296) (ht : t < 4294967296) (hc : c < 4294967296) (ho : o ≤ 1) :
    c + t * d < 18446744073709551616 ∧ (c + t * d) / 4294967296 < 4294967296 ∧
    (∃ x o' : Nat, o' ≤ 1 ∧ x < 4294967296 ∧ ((u : Int) - ((c + t * d) % 4294967296 : Nat) - (o : Int)) % 18446744073709551616 / 9223372036854775808 = (o' : Int) ∧ ((u : Int) - ((c + t * d) % 4294967296 : Nat) - (o : Int)) % 18446744073709551616 % 4294967296 = (x : Int) ∧ x + (c + t * d) % 4294967296 + o = u + 4294967296 * o') := by
  have h : t * d ≤ 4294967295 * 4294967295 := Nat.mul_le_mul (by omega) (by omega)
  generalize t * d = p at *
  refine ⟨by omega, by omega, ?_⟩
  by_cases hb : (c + p) % 4294967296 + o ≤ u
  · exact ⟨u - (c + p) % 4294967296 - o, 0, by omega, by omega, by omega, by omega, by omega⟩
  · exact ⟨u + 4294967296 - (c + p) % 4294967296 - o, 1, by omega, by omega, by omega, by omega, by omega⟩
theorem Nt.val_seg (ws : List Nat) (j k : Nat) : Nt.val ((ws.drop j).take (k + 1)) = Nt.val ((ws.drop j).take k) + 4294967296 ^ k * ws.getD (j + k) 0 := by
  rw [Nt.val_take_step, List.getD_eq_getElem?_getD, List.getElem?_drop, ← List.getD_eq_getElem?_getD]
theorem Nt.seg_set (ws : List Nat) (j k x : Nat) : (((ws.set (j + k) x).drop j).take k) = ((ws.drop j).take k) := by
  rw [List.drop_set, if_neg (by omega), show j + k - j = k by omega, Nt.set_take _ _ _ _ (Nat.le_refl _)]
theorem Nt.val_seg_set (ws : List Nat) (j k x : Nat) (h : j + k < ws.length) : Nt.val (((ws.set (j + k) x).drop j).take (k + 1)) = Nt.val ((ws.drop j).take k) + 4294967296 ^ k * x := by
  rw [Nt.val_seg, Nt.seg_set, Nt.getD_set_self _ _ _ h]
/-- A row, in three pieces. -/
theorem Nt.val_split (ws : List Nat) (j n : Nat) (h : j + n ≤ ws.length) : Nt.val ws = Nt.val (ws.take j) + 4294967296 ^ j * (Nt.val ((ws.drop j).take n) + 4294967296 ^ n * Nt.val (ws.drop (j + n))) := by
  conv => lhs; rw [← List.take_append_drop j ws, ← List.take_append_drop n (ws.drop j)]
  rw [Nt.val_append, Nt.val_append, List.drop_drop, List.length_take, List.length_take, List.length_drop, Nat.min_eq_left (by omega), Nat.min_eq_left (by omega)]
/-- One step of the difference. -/
theorem Nt.sub_step {u0 us d : List Nat} {j k t c o x o' : Nat} (h : Nt.val ((u0.drop j).take k) + 4294967296 ^ k * (c + o) = Nt.val ((us.drop j).take k) + t * Nt.val (d.take k)) (hx : x + (c + t * d.getD k 0) % 4294967296 + o = u0.getD (j + k) 0 + 4294967296 * o') (hk : j + k < us.length) :
    Nt.val ((u0.drop j).take (k + 1)) + 4294967296 ^ (k + 1) * ((c + t * d.getD k 0) / 4294967296 + o') = Nt.val (((us.set (j + k) x).drop j).take (k + 1)) + t * Nt.val (d.take (k + 1)) := by
  rw [Nt.val_seg_set _ _ _ _ hk, Nt.val_seg, Nt.val_take_step d, Nat.pow_succ]
  have e := Nat.mod_add_div (c + t * d.getD k 0) 4294967296
  generalize u0.getD (j + k) 0 = uu at *
  generalize 4294967296 ^ k = P at *
  have e1 : t * (Nt.val (d.take k) + P * d.getD k 0) = t * Nt.val (d.take k) + P * (t * d.getD k 0) := by
    rw [Nat.mul_add, Nat.mul_left_comm]
  rw [e1]
  generalize t * d.getD k 0 = p at *
  generalize (c + p) % 4294967296 = m at *
  generalize (c + p) / 4294967296 = q at *
  have e2 : P * x + P * m + P * o = P * uu + P * 4294967296 * o' := by
    rw [Nat.mul_assoc, ← Nat.mul_add, ← Nat.mul_add, ← Nat.mul_add, hx]
  have e3 : P * m + P * 4294967296 * q = P * c + P * p := by
    rw [Nat.mul_assoc, ← Nat.mul_add, e, Nat.mul_add]
  have e4 : P * 4294967296 * (q + o') = P * 4294967296 * q + P * 4294967296 * o' := Nat.mul_add _ _ _
  have e5 : P * (c + o) = P * c + P * o := Nat.mul_add _ _ _
  omega
/-- One step of adding back. -/
theorem Nt.back_step {u0 us d : List Nat} {j k c : Nat} (h : Nt.val ((us.drop j).take k) + 4294967296 ^ k * c = Nt.val ((u0.drop j).take k) + Nt.val (d.take k)) (hk : j + k < us.length) :
    Nt.val (((us.set (j + k) ((u0.getD (j + k) 0 + d.getD k 0 + c) % 4294967296)).drop j).take (k + 1)) + 4294967296 ^ (k + 1) * ((u0.getD (j + k) 0 + d.getD k 0 + c) / 4294967296) = Nt.val ((u0.drop j).take (k + 1)) + Nt.val (d.take (k + 1)) := by
  rw [Nt.val_seg_set _ _ _ _ hk, Nt.val_seg, Nt.val_take_step d, Nat.pow_succ]
  have e := Nat.mod_add_div (u0.getD (j + k) 0 + d.getD k 0 + c) 4294967296
  generalize u0.getD (j + k) 0 = x at *
  generalize d.getD k 0 = y at *
  generalize (x + y + c) % 4294967296 = m at *
  generalize (x + y + c) / 4294967296 = q at *
  generalize 4294967296 ^ k = P at *
  have e2 : P * m + P * 4294967296 * q = P * x + P * y + P * c := by
    rw [Nat.mul_assoc, ← Nat.mul_add, e, Nat.mul_add, Nat.mul_add]
  omega
/-- A shift upwards, one word. -/
theorem Nt.up_step {a ws : List Nat} {i s c : Nat} (hs : s < 32) (hx : a.getD i 0 < 4294967296) (h : Nt.val (ws.take i) + 4294967296 ^ i * c = Nt.val (a.take i) * 2 ^ s) (hc : c < 2 ^ s) (hi : i < ws.length) :
    c + a.getD i 0 * 2 ^ s % 4294967296 < 4294967296 ∧ a.getD i 0 * 2 ^ s / 4294967296 < 2 ^ s ∧
    Nt.val ((ws.set i (c + a.getD i 0 * 2 ^ s % 4294967296)).take (i + 1)) + 4294967296 ^ (i + 1) * (a.getD i 0 * 2 ^ s / 4294967296) = Nt.val (a.take (i + 1)) * 2 ^ s := by
  rw [Nt.val_set_take _ _ _ hi, Nt.val_take_step a]
  generalize a.getD i 0 = x at *
  have hd : 2 ^ s * 2 ^ (32 - s) = 4294967296 := by rw [← Nat.pow_add, show s + (32 - s) = 32 by omega]
  have hp := Nat.two_pow_pos s
  have hm : x * 2 ^ s % 4294967296 = (x % 2 ^ (32 - s)) * 2 ^ s := by
    rw [← hd, Nat.mul_comm x, Nat.mul_mod_mul_left, Nat.mul_comm]
  have h1 : x % 2 ^ (32 - s) + 1 ≤ 2 ^ (32 - s) := Nat.mod_lt _ (Nat.two_pow_pos _)
  have h2 : (x % 2 ^ (32 - s) + 1) * 2 ^ s ≤ 2 ^ (32 - s) * 2 ^ s := Nat.mul_le_mul_right _ h1
  rw [Nat.add_mul, Nat.one_mul, Nat.mul_comm (2 ^ (32 - s)), hd] at h2
  refine ⟨by omega, ?_, ?_⟩
  · rw [Nat.div_lt_iff_lt_mul (by decide), Nat.mul_comm]
    exact (Nat.mul_lt_mul_left hp).2 hx
  · have e := Nat.mod_add_div (x * 2 ^ s) 4294967296
    rw [Nat.add_mul, Nat.pow_succ, Nat.mul_assoc (4294967296 ^ i) x]
    generalize x * 2 ^ s = y at *
    generalize y % 4294967296 = m at *
    generalize y / 4294967296 = q at *
    generalize 4294967296 ^ i = P at *
    have e2 : P * m + P * 4294967296 * q = P * y := by rw [Nat.mul_assoc, ← Nat.mul_add, e]
    rw [Nat.mul_add]
    omega
end Go.Proofs.YtikmebkfdpbidaaGreatDoor
namespace Go.Proofs.YtikmebkfdpbidaaGreatDoor
set_option linter.unusedVariables false

theorem Nt.val_seg_lt {u : List Nat} (hu : Nt.Wd u) (j n : Nat) : Nt.val ((u.drop j).take n) < 4294967296 ^ n := by
  have hw : Nt.Wd ((u.drop j).take n) := fun x hx => hu x (List.mem_of_mem_drop (List.mem_of_mem_take hx))
  have h := Nt.val_lt _ hw
  exact Nat.lt_of_lt_of_le h (Nat.pow_le_pow_right (by decide) (by rw [List.length_take]; omega))
/-- What is left lies in n + 1 words from j on. -/
theorem Nt.round_seg {u : List Nat} {j n D : Nat} (hu : Nt.Wd u) (hj : j + n < u.length) (hU : Nt.val u < D * 4294967296 ^ (j + 1)) (hD : D < 4294967296 ^ n) :
    Nt.val u = Nt.val (u.take j) + 4294967296 ^ j * Nt.val ((u.drop j).take (n + 1)) ∧ Nt.val ((u.drop j).take (n + 1)) < D * 4294967296 ∧ Nt.val (u.drop (j + (n + 1))) = 0 := by
  have hs := Nt.val_split u j (n + 1) (by omega)
  have hz : Nt.val (u.drop (j + (n + 1))) = 0 := by
    rcases Nat.eq_zero_or_pos (Nt.val (u.drop (j + (n + 1)))) with h | h
    · exact h
    · exfalso
      have h1 : D * 4294967296 ^ (j + 1) ≤ 4294967296 ^ n * 4294967296 ^ (j + 1) := Nat.mul_le_mul_right _ (by omega)
      rw [← Nat.pow_add] at h1
      have h2 : 4294967296 ^ j * (4294967296 ^ (n + 1) * 1) ≤ 4294967296 ^ j * (Nt.val ((u.drop j).take (n + 1)) + 4294967296 ^ (n + 1) * Nt.val (u.drop (j + (n + 1)))) :=
        Nat.mul_le_mul_left _ (Nat.le_trans (Nat.mul_le_mul_left _ h) (Nat.le_add_left _ _))
      rw [Nat.mul_one, ← Nat.pow_add, show j + (n + 1) = n + (j + 1) by omega] at h2
      rw [show n + (j + 1) = j + (n + 1) by omega] at h2 h1
      omega
  rw [hz, Nat.mul_zero, Nat.add_zero] at hs
  refine ⟨hs, ?_, hz⟩
  have hp : 0 < 4294967296 ^ j := Nat.pow_pos (by decide)
  have h3 : 4294967296 ^ j * Nt.val ((u.drop j).take (n + 1)) < 4294967296 ^ j * (D * 4294967296) := by
    have e : D * 4294967296 ^ (j + 1) = 4294967296 ^ j * (D * 4294967296) := by
      rw [Nat.pow_succ, Nat.mul_left_comm]
    omega
  exact Nat.lt_of_mul_lt_mul_left h3
/-- The three words that the guess sees. -/
theorem Nt.round_top {u d : List Nat} {j m : Nat} (hu : Nt.Wd u) (hd : Nt.Wd d) (hdl : d.length = m + 2) (hS : Nt.val ((u.drop j).take (m + 3)) < Nt.val d * 4294967296) :
    Nt.val d = (d.getD (m + 1) 0 * 4294967296 + d.getD m 0) * 4294967296 ^ m + Nt.val (d.take m) ∧ Nt.val (d.take m) < 4294967296 ^ m ∧
    Nt.val ((u.drop j).take (m + 3)) = ((u.getD (j + (m + 2)) 0 * 4294967296 + u.getD (j + (m + 1)) 0) * 4294967296 + u.getD (j + m) 0) * 4294967296 ^ m + Nt.val ((u.drop j).take m) ∧ Nt.val ((u.drop j).take m) < 4294967296 ^ m ∧
    u.getD (j + (m + 2)) 0 ≤ d.getD (m + 1) 0 := by
  have e1 : Nt.val d = (d.getD (m + 1) 0 * 4294967296 + d.getD m 0) * 4294967296 ^ m + Nt.val (d.take m) := by
    conv => lhs; rw [← List.take_length (l := d), hdl, Nt.val_take_step, Nt.val_take_step, Nat.pow_succ]
    rw [Nat.add_mul]
    have : d.getD (m + 1) 0 * 4294967296 * 4294967296 ^ m = 4294967296 ^ m * 4294967296 * d.getD (m + 1) 0 := by
      rw [Nat.mul_comm, Nat.mul_comm (d.getD (m + 1) 0), Nat.mul_assoc]
    rw [this, Nat.mul_comm (d.getD m 0)]
    omega
  have l1 : Nt.val (d.take m) < 4294967296 ^ m := by
    have := Nt.val_lt _ (hd.take m)
    exact Nat.lt_of_lt_of_le this (Nat.pow_le_pow_right (by decide) (by rw [List.length_take]; omega))
  have l2 := Nt.val_seg_lt hu j m
  have l3 := Nt.val_seg_lt hu j (m + 2)
  have e2 : Nt.val ((u.drop j).take (m + 3)) = ((u.getD (j + (m + 2)) 0 * 4294967296 + u.getD (j + (m + 1)) 0) * 4294967296 + u.getD (j + m) 0) * 4294967296 ^ m + Nt.val ((u.drop j).take m) := by
    rw [Nt.val_seg, Nt.val_seg, Nt.val_seg, Nat.pow_succ (m := m + 1), Nat.pow_succ (m := m)]
    generalize u.getD (j + (m + 2)) 0 = a
    generalize u.getD (j + (m + 1)) 0 = b
    generalize u.getD (j + m) 0 = c
    generalize 4294967296 ^ m = P
    rw [Nat.add_mul, Nat.add_mul, Nat.add_mul]
    have h1 : P * 4294967296 * 4294967296 * a = a * 4294967296 * 4294967296 * P := by
      rw [Nat.mul_comm, Nat.mul_comm P 4294967296, Nat.mul_assoc 4294967296 P, Nat.mul_comm P 4294967296, ← Nat.mul_assoc, ← Nat.mul_assoc]
    have h2 : P * 4294967296 * b = b * 4294967296 * P := by
      rw [Nat.mul_comm, Nat.mul_comm P, ← Nat.mul_assoc]
    rw [h1, h2, Nat.mul_comm P c]
    omega
  refine ⟨e1, l1, e2, l2, ?_⟩
  rcases Nat.lt_or_ge (d.getD (m + 1) 0) (u.getD (j + (m + 2)) 0) with h | h
  · exfalso
    have s1 : Nt.val ((u.drop j).take (m + 3)) = Nt.val ((u.drop j).take (m + 2)) + 4294967296 ^ (m + 2) * u.getD (j + (m + 2)) 0 := Nt.val_seg u j (m + 2)
    have s2 : Nt.val d = Nt.val (d.take (m + 1)) + 4294967296 ^ (m + 1) * d.getD (m + 1) 0 := by
      conv => lhs; rw [← List.take_length (l := d), hdl, Nt.val_take_step]
    have l4 : Nt.val (d.take (m + 1)) < 4294967296 ^ (m + 1) := by
      have := Nt.val_lt _ (hd.take (m + 1))
      exact Nat.lt_of_lt_of_le this (Nat.pow_le_pow_right (by decide) (by rw [List.length_take]; omega))
    have h5 : 4294967296 ^ (m + 2) * (d.getD (m + 1) 0 + 1) ≤ 4294967296 ^ (m + 2) * u.getD (j + (m + 2)) 0 := Nat.mul_le_mul_left _ h
    rw [show m + 2 = (m + 1) + 1 from rfl, Nat.pow_succ] at h5 s1
    rw [Nat.mul_assoc, Nat.mul_assoc] at h5
    rw [Nat.mul_assoc] at s1
    generalize 4294967296 ^ (m + 1) = P at *
    generalize d.getD (m + 1) 0 = y at *
    generalize u.getD (j + (m + 1 + 1)) 0 = x at *
    have h6 : P * (4294967296 * (y + 1)) = P * y * 4294967296 + P * 4294967296 := by
      rw [show 4294967296 * (y + 1) = y * 4294967296 + 4294967296 by omega, Nat.mul_add, ← Nat.mul_assoc]
    omega
  · exact h
/-- The words behind the last step, where nothing is to be added back. -/
theorem Nt.round_fits {u us d : List Nat} {j n t c o : Nat} (h : Nt.val ((u.drop j).take n) + 4294967296 ^ n * (c + o) = Nt.val ((us.drop j).take n) + t * Nt.val (d.take n)) (hd : d.length = n) (hl : j + n < us.length) (hco : c + o ≤ u.getD (j + n) 0) :
    Nt.val (((us.set (j + n) (u.getD (j + n) 0 - c - o)).drop j).take (n + 1)) + t * Nt.val d = Nt.val ((u.drop j).take (n + 1)) := by
  rw [Nt.val_seg_set _ _ _ _ hl, Nt.val_seg]
  rw [List.take_of_length_le (l := d) (by omega)] at h
  generalize u.getD (j + n) 0 = x at *
  have : 4294967296 ^ n * x = 4294967296 ^ n * (x - c - o) + 4294967296 ^ n * (c + o) := by
    rw [← Nat.mul_add]; congr 1; omega
  omega
/-- Where one is to be added back. -/
theorem Nt.round_back {u us ub d : List Nat} {j n t c o cc : Nat} (hus : Nt.Wd us) (hub : Nt.Wd ub) (h : Nt.val ((u.drop j).take n) + 4294967296 ^ n * (c + o) = Nt.val ((us.drop j).take n) + t * Nt.val (d.take n)) (hd : d.length = n) (hl : j + n < ub.length) (hco : ¬ c + o ≤ u.getD (j + n) 0)
    (hb : Nt.val ((ub.drop j).take n) + 4294967296 ^ n * cc = Nt.val ((us.drop j).take n) + Nt.val (d.take n)) (hcc : cc ≤ 1) (hg : t * Nt.val d < Nt.val ((u.drop j).take (n + 1)) + Nt.val d) (hdl : Nt.val d < 4294967296 ^ n) (hc : c < 4294967296) (ho : o ≤ 1) :
    cc = 1 ∧ u.getD (j + n) 0 + 1 = c + o ∧ 1 ≤ t ∧ Nt.val ((u.drop j).take (n + 1)) < t * Nt.val d ∧ Nt.val (((ub.set (j + n) 0).drop j).take (n + 1)) + (t - 1) * Nt.val d = Nt.val ((u.drop j).take (n + 1)) := by
  rw [Nt.val_seg_set _ _ _ _ hl, Nt.val_seg, Nat.mul_zero, Nat.add_zero]
  rw [Nt.val_seg] at hg
  rw [List.take_of_length_le (l := d) (by omega)] at h hb
  have l1 := Nt.val_seg_lt hus j n
  have l2 := Nt.val_seg_lt hub j n
  generalize u.getD (j + n) 0 = x at *
  generalize Nt.val ((u.drop j).take n) = A at *
  generalize Nt.val ((us.drop j).take n) = S at *
  generalize Nt.val ((ub.drop j).take n) = R at *
  generalize Nt.val d = D at *
  generalize 4294967296 ^ n = P at *
  have e : P * (c + o) = P * x + P * (c + o - x) := by rw [← Nat.mul_add]; congr 1; omega
  have hx : x + 1 = c + o := by
    rcases Nat.lt_or_ge (c + o - x) 2 with h2 | h2
    · omega
    · exfalso
      have := Nat.mul_le_mul_left P h2
      omega
  rw [show c + o - x = 1 by omega, Nat.mul_one] at e
  have ht : 1 ≤ t := by
    rcases Nat.eq_zero_or_pos t with h0 | h0
    · subst h0; simp at h; omega
    · exact h0
  have et : t * D = (t - 1) * D + D := by rw [← Nat.succ_mul]; congr 1; omega
  have hc1 : cc = 1 := by
    rcases Nat.eq_zero_or_pos cc with h0 | h0
    · subst h0; simp at hb; omega
    · omega
  subst hc1
  exact ⟨rfl, hx, ht, by omega, by omega⟩
/-- What is left behind a round. -/
theorem Nt.round_end {u un d : List Nat} {j n t A Q : Nat} (hA : A = Nt.val d * Q + Nt.val u) (hu : Nt.Wd u) (hn : j + n < u.length) (hl : un.length = u.length) (h1 : un.take j = u.take j) (h2 : un.drop (j + (n + 1)) = u.drop (j + (n + 1))) (hU : Nt.val u < Nt.val d * 4294967296 ^ (j + 1)) (hD : Nt.val d < 4294967296 ^ n)
    (he : Nt.val ((un.drop j).take (n + 1)) + t * Nt.val d = Nt.val ((u.drop j).take (n + 1))) (hs : Nt.val ((un.drop j).take (n + 1)) < Nt.val d) :
    A = Nt.val d * (Q + 4294967296 ^ j * t) + Nt.val un ∧ Nt.val un < Nt.val d * 4294967296 ^ j := by
  obtain ⟨s1, s2, s3⟩ := Nt.round_seg hu hn hU hD
  have s4 := Nt.val_split un j (n + 1) (by omega)
  rw [h1, h2, s3, Nat.mul_zero, Nat.add_zero] at s4
  have l1 := Nt.val_lt _ (hu.take j)
  have l2 : 4294967296 ^ (u.take j).length ≤ 4294967296 ^ j := Nat.pow_le_pow_right (by decide) (by rw [List.length_take]; omega)
  generalize Nt.val (u.take j) = T at *
  generalize Nt.val ((un.drop j).take (n + 1)) = S at *
  generalize Nt.val ((u.drop j).take (n + 1)) = R at *
  generalize Nt.val d = D at *
  generalize 4294967296 ^ j = P at *
  refine ⟨?_, ?_⟩
  · rw [hA, s1, s4, ← he, Nat.mul_add, Nat.mul_add, Nat.mul_left_comm D P t, Nat.mul_comm t D]
    omega
  · have : P * (S + 1) ≤ P * D := Nat.mul_le_mul_left _ hs
    rw [Nat.mul_add, Nat.mul_one] at this
    rw [Nat.mul_comm D P]
    omega
/-- At the end. -/
theorem Nt.round_last {a b s D Q U : Nat} (hD : D = b * 2 ^ s) (hb : 0 < b) (hA : a * 2 ^ s = D * Q + U) (hU : U < D * 4294967296 ^ 0) : Q = a / b ∧ U / 2 ^ s = a % b := by
  rw [Nat.pow_zero, Nat.mul_one] at hU
  have hp := Nat.two_pow_pos s
  have hD0 : 0 < D := hD ▸ Nat.mul_pos hb hp
  have hq : Q = a * 2 ^ s / D := by rw [hA, Nat.mul_add_div hD0, Nat.div_eq_of_lt hU, Nat.add_zero]
  have hr : U = a * 2 ^ s % D := by rw [hA, Nat.mul_add_mod, Nat.mod_eq_of_lt hU]
  rw [hD, Nat.mul_div_mul_right _ _ hp] at hq
  rw [hD, Nat.mul_mod_mul_right] at hr
  exact ⟨hq, by rw [hr, Nat.mul_div_cancel _ hp]⟩
/-- The guess, said of the whole numbers. -/
theorem Nt.guess_up {U D v1 v2 lo dlo t rest u01 u2 P : Nat} (hD : D = (v1 * 4294967296 + v2) * P + dlo) (hdlo : dlo < P) (hU : U = (u01 * 4294967296 + u2) * P + lo) (he : t * v1 + rest = u01) (hv1 : 0 < v1) (ht : t ≤ 4294967295) (h : t * v2 ≤ rest * 4294967296 + u2) : t * D < U + D := by
  subst he
  exact Nt.guess_ok hD hdlo hv1 hU ht h
theorem Nt.guess_rest {S t D U : Nat} (h : S + t * D = U) (hg : U / D ≤ t) (hD : 0 < D) : S < D := by
  have h1 := Nat.lt_div_mul_add hD (a := U)
  have h2 := Nat.mul_le_mul_right D hg
  omega
theorem Nt.set_low {qs : List Nat} {j t : Nat} (h : ∀ i, i < j + 1 → qs.getD i 0 = 0) : ∀ i, i < j → (qs.set j t).getD i 0 = 0 := fun i hi => by
  rw [Nt.getD_set_ne _ _ _ _ (by omega)]
  exact h i (by omega)
theorem Nt.set_quot {qs : List Nat} {j t A D u : Nat} (hA : A = D * (Nt.val qs + 4294967296 ^ j * t) + u) (h : ∀ i, i < j + 1 → qs.getD i 0 = 0) (hj : j < qs.length) : A = D * Nt.val (qs.set j t) + u := by
  have := Nt.val_set qs j t hj
  rw [h j (by omega), Nat.mul_zero, Nat.add_zero] at this
  rw [this]
  exact hA
theorem Nt.val_take_of {us : List Nat} {n : Nat} (hw : Nt.Wd us) (hn : n ≤ us.length) (h : Nt.val us < 4294967296 ^ n) : Nt.val (us.take n) = Nt.val us := by
  have e := Nt.val_append (us.take n) (us.drop n)
  rw [List.take_append_drop, List.length_take, Nat.min_eq_left hn] at e
  rcases Nat.eq_zero_or_pos (Nt.val (us.drop n)) with h0 | h0
  · rw [h0, Nat.mul_zero] at e; omega
  · have := Nat.mul_le_mul_left (4294967296 ^ n) h0
    omega
theorem Nt.guess_down {U D v1 v2 lo dlo t rest u01 u2 P : Nat} (hD : D = (v1 * 4294967296 + v2) * P + dlo) (hU : U = (u01 * 4294967296 + u2) * P + lo) (hlo : lo < P) (he : t * v1 + rest = u01) (h : rest * 4294967296 + u2 < t * v2) : U / D < t := by
  subst he
  have := Nt.guess_dec (t := t) (rest := rest) hD hU hlo h
  exact Nat.div_lt_of_lt_mul (by rw [Nat.mul_comm]; exact this)
theorem Nt.guess_big {U D v1 v2 lo dlo u01 u2 P q : Nat} (hD : D = (v1 * 4294967296 + v2) * P + dlo) (hdlo : dlo < P) (hU : U = (u01 * 4294967296 + u2) * P + lo) (hlo : lo < P) (hv1 : 0 < v1) (hu2 : u2 < 4294967296) (hq : q * D ≤ U) : q ≤ u01 / v1 := by
  refine Nt.guess_start (P2 := 4294967296 * P) (dlo := v2 * P + dlo) (lo := u2 * P + lo) (r1 := u01) (u2 := 0) (P := 0) ?_ ?_ ?_ hq hv1
  · rw [hD, Nat.add_mul, Nat.mul_assoc]; omega
  · rw [hU, Nat.add_mul, Nat.mul_assoc]; omega
  · have := Nat.mul_le_mul_right P (Nat.le_of_lt_succ hu2 : u2 ≤ 4294967295)
    omega
theorem Nt.take_set_ge (ws : List Nat) (j k x : Nat) : (ws.set (j + k) x).take j = ws.take j := Nt.set_take _ _ _ _ (by omega)
theorem Nt.drop_set_lt (ws : List Nat) (i k x : Nat) (h : i < k) : (ws.set i x).drop k = ws.drop k := by
  rw [List.drop_set, if_pos h]
theorem Nt.drop_getD {us u : List Nat} {j i : Nat} (h : us.drop j = u.drop j) (hi : j ≤ i) : us.getD i 0 = u.getD i 0 := by
  have e : ∀ l : List Nat, l.getD i 0 = (l.drop j).getD (i - j) 0 := fun l => by
    rw [List.getD_eq_getElem?_getD, List.getD_eq_getElem?_getD, List.getElem?_drop, show j + (i - j) = i by omega]
  rw [e us, e u, h]
theorem Nt.drop_more {us u : List Nat} {j k : Nat} (h : us.drop j = u.drop j) (hk : j ≤ k) : us.drop k = u.drop k := by
  have e : ∀ l : List Nat, l.drop k = (l.drop j).drop (k - j) := fun l => by rw [List.drop_drop]; congr 1; omega
  rw [e us, e u, h]
/-- Down: a shift downwards, from the words of the row. -/
theorem Nt.down_word (x y s : Nat) (hs : s < 32) (hx : x < 4294967296) (hy : y < 4294967296) : (x + 4294967296 * y) / 2 ^ s % 4294967296 = x / 2 ^ s + y % 2 ^ s * 2 ^ (32 - s) := by
  have hd : 2 ^ s * 2 ^ (32 - s) = 4294967296 := by rw [← Nat.pow_add, show s + (32 - s) = 32 by omega]
  have hp := Nat.two_pow_pos s
  have hp2 := Nat.two_pow_pos (32 - s)
  have e1 : (x + 4294967296 * y) / 2 ^ s = x / 2 ^ s + y * 2 ^ (32 - s) := by
    rw [← hd, show x + 2 ^ s * 2 ^ (32 - s) * y = x + 2 ^ s * (y * 2 ^ (32 - s)) by rw [Nat.mul_assoc, Nat.mul_comm (2 ^ (32 - s)) y], Nat.add_mul_div_left _ _ hp]
  have l1 : x / 2 ^ s < 2 ^ (32 - s) := by
    rw [Nat.div_lt_iff_lt_mul hp, Nat.mul_comm, hd]; exact hx
  have e2 : y * 2 ^ (32 - s) % 4294967296 = y % 2 ^ s * 2 ^ (32 - s) := by
    rw [← hd, Nat.mul_mod_mul_right]
  have l2 : y % 2 ^ s * 2 ^ (32 - s) + 2 ^ (32 - s) ≤ 4294967296 := by
    have h1 : (y % 2 ^ s + 1) * 2 ^ (32 - s) ≤ 2 ^ s * 2 ^ (32 - s) := Nat.mul_le_mul_right _ (Nat.mod_lt _ hp)
    rw [Nat.add_mul, Nat.one_mul, hd] at h1
    exact h1
  rw [e1, Nat.add_mod, e2, Nat.mod_eq_of_lt (by omega : x / 2 ^ s < 4294967296), Nat.mod_eq_of_lt (by omega)]
/-- The words of a row that is shifted downwards are those of the number. -/
theorem Nt.down_val : ∀ (ws : List Nat) (s : Nat), s < 32 → Nt.Wd ws → ∀ os : List Nat, os.length = ws.length → (∀ i, i < ws.length → os.getD i 0 = ws.getD i 0 / 2 ^ s + ws.getD (i + 1) 0 % 2 ^ s * 2 ^ (32 - s)) → Nt.val os = Nt.val ws / 2 ^ s
  | [], s, hs, _, os, hl, _ => by
    obtain rfl : os = [] := List.eq_nil_of_length_eq_zero hl
    simp [Nt.val]
  | x :: xs, s, hs, hw, os, hl, h => by
    obtain ⟨o, rest, rfl⟩ : ∃ o rest, os = o :: rest := by cases os with | nil => simp at hl | cons o r => exact ⟨o, r, rfl⟩
    have ih := Nt.down_val xs s hs hw.tail rest (by simpa using hl) (fun i hi => by simpa using h (i + 1) (by simpa using hi))
    have h0 := h 0 (by simp)
    simp only [List.getD_cons_zero, Nat.zero_add, List.getD_cons_succ] at h0
    rw [Nt.val, Nt.val, ih, h0]
    have hd : 2 ^ s * 2 ^ (32 - s) = 4294967296 := by rw [← Nat.pow_add, show s + (32 - s) = 32 by omega]
    have hp := Nat.two_pow_pos s
    have e0 : xs.getD 0 0 % 2 ^ s = Nt.val xs % 2 ^ s := by
      cases xs with
      | nil => simp [Nt.val]
      | cons y ys =>
        rw [List.getD_cons_zero, Nt.val, ← hd, Nat.mul_assoc, Nat.add_mul_mod_self_left]
    rw [e0]
    generalize Nt.val xs = V
    have e1 : (x + 4294967296 * V) / 2 ^ s = x / 2 ^ s + V * 2 ^ (32 - s) := by
      rw [← hd, show x + 2 ^ s * 2 ^ (32 - s) * V = x + 2 ^ s * (V * 2 ^ (32 - s)) by rw [Nat.mul_assoc, Nat.mul_comm (2 ^ (32 - s)) V], Nat.add_mul_div_left _ _ hp]
    rw [e1]
    have e2 := Nat.mod_add_div V (2 ^ s)
    have e3 : V * 2 ^ (32 - s) = V % 2 ^ s * 2 ^ (32 - s) + 4294967296 * (V / 2 ^ s) := by
      conv => lhs; rw [← e2]
      rw [Nat.add_mul, Nat.mul_right_comm, hd]
    omega
end Go.Proofs.YtikmebkfdpbidaaGreatDoor
namespace Go.Proofs.YtikmebkfdpbidaaGreatDoor
open Go.RowKit
set_option linter.unusedVariables false
set_option linter.unusedSimpArgs false

theorem Nt.or_low {c m s : Nat} (hs : s < 32) (hc : c < 2 ^ s) (hm : 2 ^ s ∣ m) (h : c + m < 4294967296) : bits .or .u32 (c : Int) (m : Int) = ((c + m : Nat) : Int) := by
  have hk : ∀ n : Int, 0 ≤ n → n < 2 ^ 32 → IntKind.u32.wrap n = n := fun n h0 h1 => by rw [IntKind.wrap_u32]; omega
  rw [(bits_nat .u32 32 (by decide) hk c m (by omega) (by omega)).2]
  obtain ⟨q, rfl⟩ := hm
  rw [Nat.or_comm, Nat.mul_comm, ← Nat.shiftLeft_eq, ← Nat.shiftLeft_add_eq_or_of_lt hc, Nat.add_comm]
set_option maxHeartbeats 4000000 in
set_option maxRecDepth 1000000 in
theorem Nt.Up_own (a : List Nat) (s : Nat) (v : Value) (w : World) (h : Nt.In w v a) (ha : Nt.Wd a) (hl : a.length ≤ 500000) (hs : s < 32) : Calls Tryz.prog 176 #[v, .int .i64 s] w fun e w' => ∃ v', e = .returned v' ∧ w'.ownsRow w.heap.size 144 1 v' (Nt.dig (Nt.val a * 2 ^ s)).length (Nt.vs (Nt.dig (Nt.val a * 2 ^ s))) ∧ Below w.heap.size w w' := by
  obtain ⟨ad, cap, rfl⟩ := h.slice
  have H := Lib.hid h
  have HA := Lib.hid ha
  clear h ha
  by_cases h0 : a.length = 0
  · obtain rfl : a = [] := List.eq_nil_of_length_eq_zero h0
    go_enter Tryz.func176, Tryz.ntmps176
    go_wp2_with fail
    go_ret
    exact ⟨_, rfl, by rw [show Nt.val [] = 0 from rfl, Nat.zero_mul, Nt.dig_zero]; exact ⟨rfl, .inl ⟨rfl, rfl⟩⟩, Below.refl _ _⟩
  · have h0I : ((a.length : Int) == 0) = false := by simp; intro e; apply h0; rw [e]; rfl
    have hmk := Nt.make (a.length + 1) w (by omega)
    have hcast : (((a.length + 1 : Nat) : Int)) = (a.length : Int) + 1 := by omega
    rw [hcast] at hmk
    clear hcast
    obtain ⟨T, hT⟩ : ∃ T, w.heap.size = T := ⟨_, rfl⟩
    obtain ⟨w2, hw2⟩ : ∃ z, w.alloc (.cells (Nt.row (List.replicate (a.length + 1) 0)) 144) = z := ⟨_, rfl⟩
    have q2 : w2.heap[T]? = some (.cells (Nt.row (List.replicate (a.length + 1) 0)) 144 (0, 0)) := by rw [← hw2, ← hT]; exact heap_alloc_new w _
    have hb2 : Below w.heap.size w w2 := hw2 ▸ (Below.refl _ _).alloc (Nat.le_refl _) _
    rw [hT, hw2] at hmk
    have HT := Lib.hid hT
    have HB2 := Lib.hid hb2
    have HQ2 := Lib.hid q2
    have hsI : (s : Int) < 32 := by omega
    have hs0 : (0 : Int) ≤ (s : Int) := by omega
    have hdv : (s : Int) / 32 = 0 := by omega
    have hrm : (s : Int) % 32 = (s : Int) := by omega
    have hsn : (s : Int).toNat = s := by omega
    clear hT hw2 hb2 q2
    go_enter Tryz.func176, Tryz.ntmps176
    go_wp2_with fail
    go_loopw [21] (fun i wr => ∃ (k c : Nat) (ws : List Nat), i = .int .i64 k ∧ k ≤ a.length ∧ c < 2 ^ s ∧ ws.length = a.length + 1 ∧ Nt.Wd ws ∧ ws.getD k 0 = c ∧ (∀ j, k < j → ws.getD j 0 = 0) ∧ Nt.val (ws.take k) + 4294967296 ^ k * c = Nt.val (a.take k) * 2 ^ s ∧ wr.heap[T]? = some (.cells (Nt.row ws) 144 (0, 0)) ∧ Below w.heap.size w wr) (fun i _ => a.length - (intOf i).toNat)
    case atStart => exact ⟨0, 0, List.replicate (a.length + 1) 0, rfl, Nat.zero_le _, Nat.two_pow_pos s, by simp, Nt.Wd.zeros _, Nt.zeros_getD _ _, fun j _ => Nt.zeros_getD _ _, by simp [Nt.val], HQ2.out, HB2.out⟩
    case round =>
      obtain ⟨k, c, ws, rfl, hk, hc, hwl, hwd, hgc, hz, hval, hq, hbw⟩ := hrel
      obtain ⟨wo, hwo⟩ : ∃ z, z = wr := ⟨_, rfl⟩
      subst hwo
      have HZ := Lib.hid hz
      have HWD := Lib.hid hwd
      have HV := Lib.hid hval
      have HQ := Lib.hid hq
      have HBW := Lib.hid hbw
      have HWL := Lib.hid hwl
      have HGC := Lib.hid hgc
      clear hz hwd hval hq hbw hwl hgc
      by_cases hlt : k < a.length
      · obtain ⟨b1, o1, rfl, _, hcap1, hbl1, hcell1⟩ := (H.out.below HBW.out (Nat.le_refl _)).at (by omega)
        have c1 := hcell1 k hlt
        have hxb := HA.out.getD k
        have hstep := Nt.up_step hs hxb HV.out hc (by have := HWL.out; omega)
        clear hcell1
        have c2 := Nt.cell_row HQ.out k (by have := HWL.out; omega)
        rw [HGC.out] at c2
        generalize a.getD k 0 = x at *
        have hy64 : x * 2 ^ s < 18446744073709551616 := by
          have h1 : 2 ^ s ≤ 2 ^ 31 := Nat.pow_le_pow_right (by decide) (by omega)
          have h2 : x * 2 ^ s ≤ 4294967295 * 2 ^ 31 := Nat.mul_le_mul (by omega) h1
          omega
        have hdvd : 2 ^ s ∣ x * 2 ^ s % 4294967296 := by
          have : (4294967296 : Nat) = 2 ^ s * 2 ^ (32 - s) := by rw [← Nat.pow_add, show s + (32 - s) = 32 by omega]
          rw [this, Nat.mul_comm x, Nat.mul_mod_mul_left]
          exact Nat.dvd_mul_right _ _
        have hor := Nt.or_low hs hc hdvd hstep.1
        have g1 : IntKind.u64.wrap ((x : Int) * 2 ^ s) = ((x * 2 ^ s : Nat) : Int) := by
          rw [IntKind.wrap_u64, show ((2 : Int) ^ s) = ((2 ^ s : Nat) : Int) from (Int.natCast_pow 2 s).symm, ← Int.natCast_mul]; omega
        obtain ⟨y, hy⟩ : ∃ y, x * 2 ^ s = y := ⟨_, rfl⟩
        rw [hy] at hstep hy64 hdvd hor g1
        obtain ⟨m, hm⟩ : ∃ m, y % 4294967296 = m := ⟨_, rfl⟩
        obtain ⟨q, hq⟩ : ∃ q, y / 4294967296 = q := ⟨_, rfl⟩
        obtain ⟨lo, hlo⟩ : ∃ lo, c + m = lo := ⟨_, rfl⟩
        rw [hm, hq, hlo] at hstep
        rw [hm, hlo] at hor
        have hmI : (y : Int) % 4294967296 = (m : Int) := by rw [← hm]; rfl
        have hqI : (y : Int) / 4294967296 % 4294967296 = (q : Int) := by rw [← hq]; omega
        obtain ⟨hs1, hs2, hs3⟩ := hstep
        have hq32 : q < 4294967296 := by omega
        obtain ⟨W, hW, e1, e2, hQ9, hB9, hS9⟩ := Nt.store HQ.out k lo (by have := HWL.out; omega) HBW.out (by have := HT.out; omega)
        obtain ⟨W2, hW2, e3, e4, hQ8, hB8, hS8⟩ := Nt.store hQ9 (k + 1) q (by rw [List.length_set]; have := HWL.out; omega) hB9 (by have := HT.out; omega)
        have HNX : Hid (∀ t, k + 1 < t → ((ws.set k lo).set (k + 1) q).getD t 0 = 0) := Lib.hid (fun t ht => by rw [Nt.getD_set_ne _ (k + 1) t q (by omega), Nt.getD_set_ne _ k t lo (by omega)]; exact HZ.out t (by omega))
        have HG2 : Hid (((ws.set k lo).set (k + 1) q).getD (k + 1) 0 = q) := Lib.hid (Nt.getD_set_self _ _ _ (by rw [List.length_set]; have := HWL.out; omega))
        have HR := Lib.hid (And.intro hs1 (And.intro hs2 (And.intro hs3 (And.intro hQ8 (And.intro hB8 hq32)))))
        have hkI : (k : Int) + 1 < (a.length : Int) + 1 := by omega
        have hkI2 : (k : Int) < (a.length : Int) + 1 := by omega
        have HTK : Hid (((ws.set k lo).set (k + 1) q).take (k + 1) = (ws.set k lo).take (k + 1)) := Lib.hid (Nt.set_take _ _ _ _ (Nat.le_refl _))
        clear hy hm hq hlo hs1 hs2 hs3 hQ9 hB9 hS9 hQ8 hB8 hS8 hdvd hy64 hq32
        go_wp2_with fail
        go_roundw
        case rel => exact ⟨k + 1, q, _, by first | rfl | go_num | (simp; try omega), by omega, HR.out.2.1, by rw [List.length_set, List.length_set]; exact HWL.out, (HWD.out.set _ _ HR.out.1).set _ _ HR.out.2.2.2.2.2, HG2.out, HNX.out, by rw [HTK.out]; exact HR.out.2.2.1, HR.out.2.2.2.1, HR.out.2.2.2.2.1⟩
        case measure => simp [intOf]; omega
      · obtain rfl : k = a.length := by omega
        have hval : Nt.val ws = Nt.val a * 2 ^ s := by
          have h1 := HV.out
          rw [List.take_length, ← HGC.out, ← Nt.val_take_succ ws a.length (by have := HWL.out; omega), List.take_of_length_le (by have := HWL.out; omega)] at h1
          exact h1
        have hin : wo.ownsRow w.heap.size 144 1 (.slice (some ⟨T, 0, none⟩) (a.length + 1) (a.length + 1)) ws.length (Nt.vs ws) := by
          have hl := HWL.out
          refine ⟨by simp [Nt.vs], .inr ⟨T, a.length + 1, Nt.row ws, by rw [hl], Nat.le_of_eq HT.out, HQ.out, by omega, by unfold maxLen; omega, by rw [Nt.row_size]; omega, ?_⟩⟩
          have e : (Nt.row ws).toList = Nt.vs ws := by simp [Nt.row, Nt.vs]
          rw [e, List.take_of_length_le (by simp [Nt.vs])]
        have KN := Nt.norm_own ws _ wo hin HWD.out (by have := HWL.out; omega)
        rw [hval] at KN
        have hnlt : decide ((a.length : Int) < (a.length : Int)) = false := decide_eq_false (by omega)
        clear hval hin
        go_wp2_with fail
        refine KN.mono ?_
        rintro z w8 ⟨v8, rfl, hn8, hb8⟩
        have HN8 := Lib.hid hn8
        have HB8 := Lib.hid (HBW.out.trans (hb8.mono HBW.out.size))
        clear hn8 hb8
        go_wp2_with fail
        go_ret
        exact ⟨_, rfl, HN8.out, HB8.out⟩
theorem Nt.Up_ws (a : List Nat) (s : Nat) (v : Value) (w : World) (h : Nt.In w v a) (ha : Nt.Wd a) (hl : a.length ≤ 500000) (hs : s < 32) : Calls Tryz.prog 176 #[v, .int .i64 s] w fun e w' => ∃ v', e = .returned v' ∧ Nt.N w' v' (Nt.val a * 2 ^ s) ∧ Below w.heap.size w w' :=
  (Nt.Up_own a s v w h ha hl hs).mono fun _ _ ⟨v', he, ho, hb⟩ => ⟨v', he, Nt.In.of_own ho, hb⟩
end Go.Proofs.YtikmebkfdpbidaaGreatDoor
namespace Go.Proofs.YtikmebkfdpbidaaGreatDoor
open Go.RowKit
set_option linter.unusedVariables false
set_option linter.unusedSimpArgs false

/-- Block T begins with the words ws, and can be written. -/
def Nt.Row (w : World) (T : Nat) (ws : List Nat) : Prop := ∃ cur t, w.heap[T]? = some (.cells cur t (0, 0)) ∧ ∀ k, k < ws.length → cur[k]? = some (.int .u32 (ws.getD k 0 : Nat))
theorem Nt.Row.of_row {w : World} {T : Nat} {t : TypeId} {ws : List Nat} (h : w.heap[T]? = some (.cells (Nt.row ws) t (0, 0))) : Nt.Row w T ws := ⟨_, t, h, fun k hk => Nt.row_at ws k hk⟩
theorem Nt.Row.lt {w : World} {T : Nat} {ws : List Nat} (h : Nt.Row w T ws) : T < w.heap.size := by
  obtain ⟨cur, t, h1, _⟩ := h
  exact (Array.getElem?_eq_some_iff.1 h1).1
theorem Nt.Row.cell {w : World} {T : Nat} {ws : List Nat} (h : Nt.Row w T ws) (k : Nat) (hk : k < ws.length) : w.cell? ⟨T, k, none⟩ = some (.int .u32 (ws.getD k 0 : Nat)) := by
  obtain ⟨cur, t, h1, h2⟩ := h
  have e : w.cell? ⟨T, k, none⟩ = cur[k]? := by simp [World.cell?, h1]
  rw [e, h2 k hk]
theorem Nt.Row.frozen {w : World} {T : Nat} {ws : List Nat} (h : Nt.Row w T ws) (k : Nat) : w.frozen? ⟨T, k, none⟩ = false := by
  obtain ⟨cur, t, h1, h2⟩ := h
  simp [World.frozen?, h1]
theorem Nt.Row.set {w : World} {T : Nat} {ws : List Nat} (h : Nt.Row w T ws) (k x : Nat) (hk : k < ws.length) : Nt.Row (w.setCell ⟨T, k, none⟩ (.int .u32 (x : Int))) T (ws.set k x) := by
  obtain ⟨cur, t, h1, h2⟩ := h
  obtain ⟨hlt, hk1⟩ := Array.getElem?_eq_some_iff.1 h1
  have hks : k < cur.size := (Array.getElem?_eq_some_iff.1 (h2 k hk)).1
  refine ⟨cur.set! k (.int .u32 (x : Int)), t, ?_, fun j hj => ?_⟩
  · show (w.heap.modify T _)[T]? = _
    rw [Array.getElem?_eq_getElem (by rw [Array.size_modify]; exact hlt), Array.getElem_modify_self, hk1]
    rfl
  · rw [List.length_set] at hj
    rw [Array.set!_eq_setIfInBounds, Array.getElem?_setIfInBounds]
    by_cases e : k = j
    · subst e
      rw [if_pos rfl, if_pos hks, Nt.getD_set_self _ _ _ hk]
    · rw [if_neg e, h2 j hj, Nt.getD_set_ne _ _ _ _ e]
theorem Nt.Row.below {w w' : World} {T B : Nat} {ws : List Nat} (h : Nt.Row w T ws) (hb : Below B w w') (hB : T < B) : Nt.Row w' T ws := by
  obtain ⟨cur, t, h1, h2⟩ := h
  exact ⟨cur, t, (hb.block T hB).trans h1, h2⟩
theorem Nt.Row.in {w : World} {T cap : Nat} {ws : List Nat} (h : Nt.Row w T ws) (hc : ws.length ≤ cap) : Nt.In w (.slice (some ⟨T, 0, none⟩) ws.length cap) ws := by
  rcases Nat.eq_zero_or_pos ws.length with h0 | h0
  · have : ws = [] := List.eq_nil_of_length_eq_zero h0
    subst this
    exact .inr (.inl ⟨_, cap, rfl, rfl⟩)
  · refine .inr (.inr ⟨h0, T, 0, cap, rfl, hc, h.lt, fun j hj => ?_⟩)
    rw [Nat.zero_add]
    exact h.cell j hj
theorem Nt.Row.cut {w : World} {T : Nat} {ws : List Nat} (h : Nt.Row w T ws) (n : Nat) : Nt.Row w T (ws.take n) := by
  obtain ⟨cur, t, h1, h2⟩ := h
  refine ⟨cur, t, h1, fun k hk => ?_⟩
  rw [List.length_take] at hk
  rw [h2 k (by omega), List.getD_eq_getElem?_getD, List.getD_eq_getElem?_getD, List.getElem?_take, if_pos (by omega)]
theorem Nt.own_row {w : World} {B : Nat} {t : TypeId} {v : Value} {ws : List Nat} (h : w.ownsRow B t 1 v ws.length (ws.map fun (x : Nat) => Value.int .u32 (x : Int))) (h0 : 0 < ws.length) :
    ∃ T cap, v = .slice (some ⟨T, 0, none⟩) ws.length cap ∧ B ≤ T ∧ ws.length ≤ cap ∧ cap ≤ maxLen ∧ Nt.Row w T ws := by
  rcases h.2 with ⟨_, h1⟩ | ⟨g, cap, cur, rfl, hB, hg, hn, hm, hs, ht⟩
  · omega
  · refine ⟨g, cap, rfl, hB, hn, hm, cur, t, hg, fun k hk => ?_⟩
    have e : (cur.toList.take (ws.length * 1))[k]? = some (.int .u32 (ws.getD k 0 : Nat)) := by
      rw [ht, List.getElem?_map, List.getElem?_eq_getElem hk, List.getD_eq_getElem?_getD, List.getElem?_eq_getElem hk]
      rfl
    rw [List.getElem?_take, if_pos (by omega)] at e
    rw [← Array.getElem?_toList]
    exact e
/-- A store into a row. -/
theorem Nt.Row.put {w : World} {T B : Nat} {w0 : World} {ws : List Nat} (h : Nt.Row w T ws) (k x : Nat) (hk : k < ws.length) (hb : Below B w0 w) (hB : B ≤ T) :
    ∃ W, w.setCell ⟨T, k, none⟩ (.int .u32 (x : Int)) = W ∧ w.cell? ⟨T, k, none⟩ = some (.int .u32 (ws.getD k 0 : Nat)) ∧ w.frozen? ⟨T, k, none⟩ = false ∧ Nt.Row W T (ws.set k x) ∧ Below B w0 W ∧ W.heap.size = w.heap.size ∧ (∀ q, q ≠ T → W.heap[q]? = w.heap[q]?) :=
  ⟨_, rfl, h.cell k hk, h.frozen k, h.set k x hk, hb.setCell (p := ⟨T, k, none⟩) hB _, by simp, fun q hq => Below.heap_setCell _ _ _ _ hq⟩
theorem Nt.In.othr2 {w w' : World} {v : Value} {ws : List Nat} {T : Nat} (h : Nt.In w v ws) (hT : ∀ b off l cap, v = .slice (some ⟨b, off, none⟩) l cap → b ≠ T) (hz : w.heap.size ≤ w'.heap.size) (hq : ∀ q, q ≠ T → q < w.heap.size → w'.heap[q]? = w.heap[q]?) : Nt.In w' v ws := by
  rcases h with h | h | ⟨h0, b, off, cap, hv, hc, hl, hcell⟩
  · exact .inl h
  · exact .inr (.inl h)
  · exact .inr (.inr ⟨h0, b, off, cap, hv, hc, by omega, fun j hj => (World.cell?_of_block (w := w) (hq b (hT b off _ _ hv) hl)).trans (hcell j hj)⟩)

theorem Nt.In.low {w w' : World} {v : Value} {ws : List Nat} {B : Nat} (h : Nt.In w v ws) (hB : ∀ b off l cap, v = .slice (some ⟨b, off, none⟩) l cap → b < B) (hb : Below B w w') : Nt.In w' v ws := by
  rcases h with h | h | ⟨h0, b, off, cap, hv, hc, hl, hcell⟩
  · exact .inl h
  · exact .inr (.inl h)
  · exact .inr (.inr ⟨h0, b, off, cap, hv, hc, Nat.lt_of_lt_of_le hl hb.size, fun j hj => (hb.cell (p := ⟨b, off + j, none⟩) (hB b off _ _ hv)).trans (hcell j hj)⟩)
theorem Nt.or_high {x y : Nat} (hx : x < 4294967296) (hy : y < 4294967296) : bits .or .u64 (x : Int) ((y : Int) * 4294967296) = ((x + 4294967296 * y : Nat) : Int) := by
  have hk : ∀ n : Int, 0 ≤ n → n < 2 ^ 64 → IntKind.u64.wrap n = n := fun n h0 h1 => by rw [IntKind.wrap_u64]; omega
  have h := (bits_nat .u64 64 (by decide) hk x (y * 4294967296) (by omega) (by omega)).2
  have e : x ||| y * 4294967296 = x + 4294967296 * y := by
    have h1 := Nat.shiftLeft_add_eq_or_of_lt (show x < 2 ^ 32 from hx) y
    rw [Nat.shiftLeft_eq] at h1
    rw [Nat.or_comm, ← h1]
    omega
  rw [e] at h
  rw [← h]
  rfl
set_option maxHeartbeats 4000000 in
set_option maxRecDepth 1000000 in
theorem Nt.Down_ws (a : List Nat) (s : Nat) (v : Value) (w : World) (h : Nt.In w v a) (ha : Nt.Wd a) (hl : a.length ≤ 500000) (hs : s < 32) : Calls Tryz.prog 178 #[v, .int .i64 s] w fun e w' => ∃ v', e = .returned v' ∧ Nt.N w' v' (Nt.val a / 2 ^ s) ∧ Below w.heap.size w w' := by
  obtain ⟨ad, cap, rfl⟩ := h.slice
  have hcap := h.cap.2
  have H := Lib.hid h
  have HA := Lib.hid ha
  have hsI : (s : Int) < 32 := by omega
  have hs0 : (0 : Int) ≤ (s : Int) := by omega
  have hdv : (s : Int) / 32 = 0 := by omega
  have hrm : (s : Int) % 32 = (s : Int) := by omega
  have hsn : (s : Int).toNat = s := by omega
  clear h ha
  by_cases h0 : a.length = 0
  · obtain rfl : a = [] := List.eq_nil_of_length_eq_zero h0
    go_enter Tryz.func178, Tryz.ntmps178
    go_wp2_with fail
    go_ret
    exact ⟨_, rfl, by rw [show Nt.val [] = 0 from rfl, Nat.zero_div]; exact Nt.N.zero _, Below.refl _ _⟩
  · have h0I : ¬ ((a.length : Int) ≤ 0) := by omega
    obtain ⟨b1, o1, rfl, _, hcap1, hbl1, hcell1⟩ := H.out.at (by omega)
    have KC := fun w h => Nt.Clone_own a (.slice (some ⟨b1, o1, none⟩) a.length cap) w h (by omega)
    clear hcell1
    go_enter Tryz.func178, Tryz.ntmps178
    go_wp2_with fail
    refine (KC _ H.out).mono ?_
    rintro x w1 ⟨v1, rfl, hown, hb1⟩
    obtain ⟨T, cap2, rfl, hTB, hc2, hc2m, hrow⟩ := Nt.own_row hown (by omega)
    have HT := Lib.hid hTB
    have HB1 := Lib.hid hb1
    have HR1 := Lib.hid hrow
    clear hown hb1 hrow hTB
    go_wp2_with fail
    go_loopw [20] (fun i wr => ∃ (k : Nat) (ws : List Nat), i = .int .i64 k ∧ k ≤ a.length ∧ ws.length = a.length ∧ Nt.Wd ws ∧ (∀ j, j < k → ws.getD j 0 = a.getD j 0 / 2 ^ s + a.getD (j + 1) 0 % 2 ^ s * 2 ^ (32 - s)) ∧ (∀ j, k ≤ j → ws.getD j 0 = a.getD j 0) ∧ Nt.Row wr T ws ∧ Below w.heap.size w wr) (fun i _ => a.length - (intOf i).toNat)
    case atStart => exact ⟨0, a, rfl, Nat.zero_le _, rfl, HA.out, fun j hj => absurd hj (Nat.not_lt_zero _), fun _ _ => rfl, HR1.out, HB1.out⟩
    case round =>
      obtain ⟨k, ws, rfl, hk, hwl, hwd, hlow, hhi, hq, hbw⟩ := hrel
      obtain ⟨wo, hwo⟩ : ∃ z, z = wr := ⟨_, rfl⟩
      subst hwo
      have HLO := Lib.hid hlow
      have HHI := Lib.hid hhi
      have HWD := Lib.hid hwd
      have HQ := Lib.hid hq
      have HBW := Lib.hid hbw
      have HWL := Lib.hid hwl
      clear hlow hhi hwd hq hbw hwl
      by_cases hlt : k < a.length
      · have c1 := HQ.out.cell k (by have := HWL.out; omega)
        rw [HHI.out k (Nat.le_refl _)] at c1
        have hxb := HA.out.getD k
        have hyb := HA.out.getD (k + 1)
        have c2 := fun h => HQ.out.cell (k + 1) h
        rw [HHI.out (k + 1) (by omega)] at c2
        have hdw := Nt.down_word (a.getD k 0) (a.getD (k + 1) 0) s hs hxb hyb
        have hnx : ∀ z, z = a.getD k 0 / 2 ^ s + a.getD (k + 1) 0 % 2 ^ s * 2 ^ (32 - s) → (∀ j, j < k + 1 → (ws.set k z).getD j 0 = a.getD j 0 / 2 ^ s + a.getD (j + 1) 0 % 2 ^ s * 2 ^ (32 - s)) ∧ (∀ j, k + 1 ≤ j → (ws.set k z).getD j 0 = a.getD j 0) := fun z hz => by
          refine ⟨fun j hj => ?_, fun j hj => ?_⟩
          · by_cases e : j = k
            · subst e
              rw [Nt.getD_set_self _ _ _ (by have := HWL.out; omega), hz]
            · rw [Nt.getD_set_ne _ _ _ _ (fun h => e h.symm)]
              exact HLO.out j (by omega)
          · rw [Nt.getD_set_ne _ _ _ _ (by omega)]
            exact HHI.out j (by omega)
        have HNX := Lib.hid hnx
        have hz0 : ¬ k + 1 < a.length → a.getD (k + 1) 0 = 0 := fun h => Nt.getD_ge a (k + 1) (by omega)
        clear hnx
        generalize a.getD k 0 = x at *
        generalize a.getD (k + 1) 0 = y at *
        have hor := Nt.or_high hxb hyb
        obtain ⟨N, hN⟩ : ∃ N, x + 4294967296 * y = N := ⟨_, rfl⟩
        rw [hN] at hor hdw
        obtain ⟨z, hz⟩ : ∃ z, x / 2 ^ s + y % 2 ^ s * 2 ^ (32 - s) = z := ⟨_, rfl⟩
        rw [hz] at hdw
        have hzI : (N : Int) / 2 ^ s % 4294967296 = (z : Int) := by
          rw [← hdw, show ((2 : Int) ^ s) = ((2 ^ s : Nat) : Int) from (Int.natCast_pow 2 s).symm]; rfl
        have hzl : z < 4294967296 := by rw [← hdw]; omega
        have hysh : ((y : Int) * 4294967296) % 18446744073709551616 = (y : Int) * 4294967296 := by omega
        obtain ⟨W, hW, e1, e2, hQ9, hB9, hS9, _⟩ := HQ.out.put k z (by have := HWL.out; omega) HBW.out HT.out
        have HR := Lib.hid (And.intro hzl (And.intro hQ9 (And.intro hB9 (HNX.out z hz.symm))))
        have hkI : (k : Int) < (a.length : Int) := by omega
        have c2' := c2
        have HC2 := Lib.hid c2'
        have hz0' := Lib.hid hz0
        clear c2 c2' hz0 hdw hz hzl hQ9 hB9 hS9
        by_cases hlt2 : k + 1 < a.length
        · have c2 := HC2.out (by have := HWL.out; omega)
          have hkI2 : (k : Int) + 1 < (a.length : Int) := by omega
          clear hN
          go_wp2_with fail
          go_roundw
          case rel => exact ⟨k + 1, _, by first | rfl | go_num | (simp; try omega), by omega, by rw [List.length_set]; exact HWL.out, HWD.out.set _ _ HR.out.1, HR.out.2.2.2.1, HR.out.2.2.2.2, HR.out.2.1, HR.out.2.2.1⟩
          case measure => simp [intOf]; omega
        · have hy0 := hz0'.out hlt2
          have hNx : N = x := by rw [← hN, hy0]; omega
          rw [hNx] at hzI
          have hkI2 : ¬ (k : Int) + 1 < (a.length : Int) := by omega
          clear hN hNx hy0 hor hysh
          go_wp2_with fail
          go_roundw
          case rel => exact ⟨k + 1, _, by first | rfl | go_num | (simp; try omega), by omega, by rw [List.length_set]; exact HWL.out, HWD.out.set _ _ HR.out.1, HR.out.2.2.2.1, HR.out.2.2.2.2, HR.out.2.1, HR.out.2.2.1⟩
          case measure => simp [intOf]; omega
      · obtain rfl : k = a.length := by omega
        have hval := Nt.down_val a s hs HA.out ws HWL.out (fun i hi => HLO.out i hi)
        have hin := HQ.out.in (cap := cap2) (by have := HWL.out; omega)
        rw [HWL.out] at hin
        have KN := Nt.norm_any ws _ wo hin HWD.out (by have := HWL.out; omega)
        rw [hval] at KN
        have hnlt : decide ((a.length : Int) < (a.length : Int)) = false := decide_eq_false (by omega)
        clear hval hin
        go_wp2_with fail
        refine KN.mono ?_
        rintro z w8 ⟨v8, rfl, hn8, hb8⟩
        have HN8 := Lib.hid hn8
        have HB8 := Lib.hid (HBW.out.trans (hb8.mono HBW.out.size))
        clear hn8 hb8
        go_wp2_with fail
        go_ret
        exact ⟨_, rfl, HN8.out, HB8.out⟩
end Go.Proofs.YtikmebkfdpbidaaGreatDoor
namespace Go.Proofs.YtikmebkfdpbidaaGreatDoor
open Go.RowKit
set_option linter.unusedVariables false
set_option linter.unusedSimpArgs false

theorem Nt.join64 (r a : Nat) (hr : r < 4294967296) (ha : a < 4294967296) : bits .or .u64 ((r : Int) * 4294967296) (a : Int) = ((4294967296 * r + a : Nat) : Int) := by
  have h := bits_join .u64 64 (by decide) (fun n h0 h1 => by rw [IntKind.wrap_u64]; omega) 32 ((r : Int) * 4294967296) (a : Int) (by omega) (by omega) (by omega) (by omega) (by omega) (by omega)
  rw [h]
  omega
set_option maxHeartbeats 4000000 in
set_option maxRecDepth 1000000 in
theorem Nt.short_ws (a : List Nat) (d : Nat) (v : Value) (w : World) (h : Nt.In w v a) (ha : Nt.Wd a) (hl : a.length ≤ 500000) (hd0 : 0 < d) (hd : d < 4294967296) : Calls Tryz.prog 174 #[v, .int .u32 d] w fun e w' => ∃ v', e = .returned (.tuple #[v', .int .u32 (Nt.val a % d : Nat)]) ∧ Nt.N w' v' (Nt.val a / d) ∧ Below w.heap.size w w' := by
  obtain ⟨ad, cap, rfl⟩ := h.slice
  have H := Lib.hid h
  have HA := Lib.hid ha
  have hmk := Nt.make a.length w (by omega)
  clear h ha
  obtain ⟨T, hT⟩ : ∃ T, w.heap.size = T := ⟨_, rfl⟩
  obtain ⟨w2, hw2⟩ : ∃ z, w.alloc (.cells (Nt.row (List.replicate a.length 0)) 144) = z := ⟨_, rfl⟩
  have q2 : w2.heap[T]? = some (.cells (Nt.row (List.replicate a.length 0)) 144 (0, 0)) := by rw [← hw2, ← hT]; exact heap_alloc_new w _
  have hb2 : Below w.heap.size w w2 := hw2 ▸ (Below.refl _ _).alloc (Nat.le_refl _) _
  rw [hT, hw2] at hmk
  have HT := Lib.hid hT
  have HB2 := Lib.hid hb2
  have HQ2 := Lib.hid q2
  clear hT hw2 hb2 q2
  go_enter Tryz.func174, Tryz.ntmps174
  go_wp2_with fail
  go_loopw [7, 8] (fun rv i wr => ∃ (k r : Nat) (ws : List Nat), i = .int .i64 ((k : Int) - 1) ∧ rv = .int .u64 r ∧ k ≤ a.length ∧ r < d ∧ ws.length = a.length ∧ Nt.Wd ws ∧ Nt.val (a.drop k) = d * Nt.val (ws.drop k) + r ∧ wr.heap[T]? = some (.cells (Nt.row ws) 144 (0, 0)) ∧ Below w.heap.size w wr) (fun _ i _ => (intOf i + 1).toNat)
  case atStart => exact ⟨a.length, 0, List.replicate a.length 0, by first | rfl | go_num | (simp; try omega), rfl, Nat.le_refl _, hd0, by simp, Nt.Wd.zeros _, by rw [List.drop_length, List.drop_eq_nil_of_le (by simp)]; simp [Nt.val], HQ2.out, HB2.out⟩
  case round =>
    obtain ⟨k, r, ws, rfl, rfl, hk, hr, hwl, hwd, hval, hq, hbw⟩ := hrel
    obtain ⟨wo, hwo⟩ : ∃ z, z = wr := ⟨_, rfl⟩
    subst hwo
    have HWD := Lib.hid hwd
    have HV := Lib.hid hval
    have HQ := Lib.hid hq
    have HBW := Lib.hid hbw
    have HWL := Lib.hid hwl
    clear hwd hval hq hbw hwl
    rcases k with _ | k
    · have hval := HV.out
      rw [List.drop_zero, List.drop_zero] at hval
      have hq : Nt.val ws = Nt.val a / d := by
        rw [hval, Nat.mul_add_div hd0, Nat.div_eq_of_lt hr, Nat.add_zero]
      have hm : r = Nt.val a % d := by
        rw [hval, Nat.mul_add_mod, Nat.mod_eq_of_lt hr]
      have hin : Nt.In wo (.slice (some ⟨T, 0, none⟩) a.length a.length) ws := by
        have := Nt.In.of_row HQ.out
        rw [HWL.out] at this
        exact this
      have KN := Nt.norm_any ws _ wo hin HWD.out (by have := HWL.out; omega)
      rw [hq] at KN
      have HM := Lib.hid hm
      have hrw : (r : Int) % 4294967296 = (r : Int) := by omega
      clear hval hq hm hin
      go_wp2_with fail
      refine KN.mono ?_
      rintro z w8 ⟨v8, rfl, hn8, hb8⟩
      have HN8 := Lib.hid hn8
      have HB8 := Lib.hid (HBW.out.trans (hb8.mono HBW.out.size))
      clear hn8 hb8
      go_wp2_with fail
      go_ret2
      exact ⟨_, by rw [← HM.out]; rfl, HN8.out, HB8.out⟩
    · have hk1 : (((k + 1 : Nat) : Int) - 1) = (k : Int) := by omega
      rw [hk1]
      have hkk : k < a.length := by omega
      obtain ⟨b1, o1, rfl, _, hcap1, hbl1, hcell1⟩ := (H.out.below HBW.out (Nat.le_refl _)).at (by omega)
      have c1 := hcell1 k hkk
      have hxb := HA.out.getD k
      have hstep := Nt.short_step (a := a) (ws := ws) (i := k) (r := r) (d := d) HV.out hd0 hkk (by have := HWL.out; omega)
      have hqlt := Nt.short_lt (a := a.getD k 0) (r := r) (d := d) hxb hr
      have HSTEP := Lib.hid hstep
      clear hcell1 hstep
      generalize a.getD k 0 = x at *
      have hj := Nt.join64 r x (by omega) hxb
      obtain ⟨N, hN⟩ : ∃ N, 4294967296 * r + x = N := ⟨_, rfl⟩
      rw [hN] at HSTEP hqlt hj
      have hNl : N < 18446744073709551616 := by omega
      have hsh : ((r : Int) * 4294967296) % 18446744073709551616 = (r : Int) * 4294967296 := by omega
      obtain ⟨q, hq⟩ : ∃ q, N / d = q := ⟨_, rfl⟩
      obtain ⟨m, hm⟩ : ∃ m, N % d = m := ⟨_, rfl⟩
      rw [hq] at HSTEP hqlt
      rw [hm] at HSTEP
      have hml : m < d := hm ▸ Nat.mod_lt _ hd0
      have hqI : (N : Int) / (d : Int) = (q : Int) := by rw [← hq]; rfl
      have hmI : (N : Int) % (d : Int) = (m : Int) := by rw [← hm]; rfl
      have hqw : (q : Int) % 4294967296 = (q : Int) := by omega
      obtain ⟨W, hW, e1, e2, hQ9, hB9, hS9⟩ := Nt.store HQ.out k q (by have := HWL.out; omega) HBW.out (by have := HT.out; omega)
      have hdz : ((d : Int) == 0) = false := by simp; omega
      have HQL := Lib.hid hqlt
      have HQ9 := Lib.hid hQ9
      have HB9 := Lib.hid hB9
      have HML := Lib.hid hml
      clear hN hq hm hqlt hQ9 hB9 hml hS9
      go_wp2_with fail
      go_roundw
      case rel => exact ⟨k, m, _, by first | rfl | go_num | (simp; try omega), by first | rfl | rw [hmI], by omega, HML.out, by rw [List.length_set]; exact HWL.out, HWD.out.set _ _ HQL.out, HSTEP.out, HQ9.out, HB9.out⟩
      case measure => simp [intOf]
end Go.Proofs.YtikmebkfdpbidaaGreatDoor
namespace Go.Proofs.YtikmebkfdpbidaaGreatDoor
open Go.RowKit
set_option linter.unusedVariables false
set_option linter.unusedSimpArgs false

theorem Nt.drewN {B : Nat} {a w : World} (h : Below B a w) (n : Nat) : Below B a (w.drewN n) := h.trans ⟨rfl, rfl, rfl, Nat.le_refl _, fun _ _ => rfl⟩
set_option maxHeartbeats 4000000 in
set_option maxRecDepth 1000000 in
theorem Nt.Order_any (m n : Nat) (v v2 : Value) (w : World) (h : Nt.N w v m) (h2 : Nt.N w v2 n) (hl : (Nt.dig m).length ≤ 4611686018427387904) (hl2 : (Nt.dig n).length ≤ 4611686018427387904) : Calls Tryz.prog 169 #[v, v2] w fun e w' => e = .returned (.int .i64 (Nt.cmp m n)) ∧ Below w.heap.size w w' := by
  unfold Nt.N at h h2
  have hwa := Nt.dig_wd m
  have hwb := Nt.dig_wd n
  have hva := Nt.val_dig m
  have hvb := Nt.val_dig n
  have hlt1 : (Nt.dig m).length < (Nt.dig n).length → Nt.cmp m n = -1 := fun h => Nt.cmp_lt (Nt.dig_len_lt h)
  have hlt2 : (Nt.dig n).length < (Nt.dig m).length → Nt.cmp m n = 1 := fun h => Nt.cmp_gt (Nt.dig_len_lt h)
  have heq : (Nt.dig m).length = (Nt.dig n).length → (∀ j, j < (Nt.dig m).length → (Nt.dig m).getD j 0 = (Nt.dig n).getD j 0) → Nt.cmp m n = 0 := fun h1 h2 => by
    rw [Nt.dig_same h1 h2, Nt.cmp_eq]
  have hd1 : (Nt.dig m).length = (Nt.dig n).length → ∀ i, i < (Nt.dig m).length → (∀ j, i < j → j < (Nt.dig m).length → (Nt.dig m).getD j 0 = (Nt.dig n).getD j 0) → (Nt.dig m).getD i 0 < (Nt.dig n).getD i 0 → Nt.cmp m n = -1 := fun hl i hi hs hx => by
    have := Nt.val_lt_of hwa hwb hl hi hx hs
    rw [hva, hvb] at this
    exact Nt.cmp_lt this
  have hd2 : (Nt.dig m).length = (Nt.dig n).length → ∀ i, i < (Nt.dig m).length → (∀ j, i < j → j < (Nt.dig m).length → (Nt.dig m).getD j 0 = (Nt.dig n).getD j 0) → (Nt.dig n).getD i 0 < (Nt.dig m).getD i 0 → Nt.cmp m n = 1 := fun hl i hi hs hx => by
    have := Nt.val_lt_of hwb hwa hl.symm (by omega) hx (fun j h1 h2 => (hs j h1 (by omega)).symm)
    rw [hva, hvb] at this
    exact Nt.cmp_gt this
  generalize Nt.dig m = a at *
  generalize Nt.dig n = b at *
  generalize Nt.cmp m n = r at *
  obtain ⟨ad, cap, rfl⟩ := h.slice
  obtain ⟨ad2, cap2, rfl⟩ := h2.slice
  have H := Lib.hid h
  have H2 := Lib.hid h2
  have HL1 := Lib.hid hlt1
  have HL2 := Lib.hid hlt2
  have HE := Lib.hid heq
  have HD1 := Lib.hid hd1
  have HD2 := Lib.hid hd2
  clear h h2 hwa hwb hva hvb hlt1 hlt2 heq hd1 hd2
  by_cases hne : a.length = b.length
  case neg =>
    have hneI : ((a.length : Int) != (b.length : Int)) = true := by simp; omega
    by_cases hlt : a.length < b.length
    · obtain rfl := HL1.out hlt
      have hltI : (a.length : Int) < (b.length : Int) := by omega
      clear hne
      go_enter Tryz.func169, Tryz.ntmps169
      go_wp2_with fail
      go_ret
      exact ⟨rfl, Below.refl _ _⟩
    · obtain rfl := HL2.out (by omega)
      have hltI : ¬ (a.length : Int) < (b.length : Int) := by omega
      clear hne
      go_enter Tryz.func169, Tryz.ntmps169
      go_wp2_with fail
      go_ret
      exact ⟨rfl, Below.refl _ _⟩
  case pos =>
    have hneI : ((a.length : Int) != (b.length : Int)) = false := by simp; omega
    have HNE := Lib.hid hne
    clear hne
    go_enter Tryz.func169, Tryz.ntmps169
    go_wp2_with fail
    go_loopw [5] (fun i wr => ∃ k : Nat, i = .int .i64 ((k : Int) - 1) ∧ k ≤ a.length ∧ (∀ j, k ≤ j → j < a.length → a.getD j 0 = b.getD j 0) ∧ Below w.heap.size w wr) (fun i _ => (intOf i + 1).toNat)
    case atStart => exact ⟨a.length, by first | rfl | go_num | (simp; try omega), Nat.le_refl _, fun j h1 h2 => by omega, Below.refl _ _⟩
    case round =>
      obtain ⟨k, rfl, hk, hz, hbw⟩ := hrel
      have HZ := Lib.hid hz
      have HBW := Lib.hid hbw
      clear hz hbw
      rcases k with _ | k
      · obtain rfl := HE.out HNE.out (fun j hj => HZ.out j (Nat.zero_le _) hj)
        go_wp2_with fail
        go_ret
        exact ⟨rfl, HBW.out⟩
      · obtain ⟨b1, o1, rfl, _, hcap1, hbl1, hcell1⟩ := (H.out.below HBW.out (Nat.le_refl _)).at (by omega)
        obtain ⟨b2, o2, rfl, _, hcap2, hbl2, hcell2⟩ := (H2.out.below HBW.out (Nat.le_refl _)).at (by have := HNE.out; omega)
        have c1 := hcell1 k (by omega)
        have c2 := hcell2 k (by have := HNE.out; omega)
        have hk1 : (((k + 1 : Nat) : Int) - 1) = (k : Int) := by omega
        rw [hk1]
        have hkk : k < a.length := by omega
        have hi0 : (0 : Int) ≤ (k : Int) := by omega
        have hi1 : (k : Int) < (a.length : Int) := by omega
        have hi2 : (k : Int) < (b.length : Int) := by have := HNE.out; omega
        have hx1 := fun h => HD1.out HNE.out k hkk (fun j h1 h2 => HZ.out j (by omega) h2) h
        have hx2 := fun h => HD2.out HNE.out k hkk (fun j h1 h2 => HZ.out j (by omega) h2) h
        have hx3 : a.getD k 0 = b.getD k 0 → ∀ j, k ≤ j → j < a.length → a.getD j 0 = b.getD j 0 := fun h j h1 h2 => by
          rcases Nat.lt_or_ge k j with h3 | h3
          · exact HZ.out j (by omega) h2
          · obtain rfl : j = k := by omega
            exact h
        have HX1 := Lib.hid hx1
        have HX2 := Lib.hid hx2
        have HX3 := Lib.hid hx3
        have HBX : Hid (∀ n, Below w.heap.size w (wr.drewN n)) := Lib.hid (fun n => Nt.drewN HBW.out n)
        clear hx1 hx2 hx3 hcell1 hcell2
        generalize a.getD k 0 = x at *
        generalize b.getD k 0 = y at *
        by_cases h1 : x < y
        · obtain rfl := HX1.out h1
          have h1I : (x : Int) < (y : Int) := by omega
          clear h1
          go_wp2_with fail
          go_quiet (fail)
          go_wp2_with fail
          go_ret
          exact ⟨rfl, HBX.out _⟩
        · have h1I : ¬ (x : Int) < (y : Int) := by omega
          by_cases h2 : y < x
          · obtain rfl := HX2.out h2
            have h2I : (y : Int) < (x : Int) := by omega
            go_wp2_with fail
            go_quiet (fail)
            go_wp2_with fail
            go_quiet (fail)
            go_wp2_with fail
            go_ret
            exact ⟨rfl, Nt.drewN (HBX.out _) _⟩
          · have h2I : ¬ (y : Int) < (x : Int) := by omega
            have HXX := Lib.hid (HX3.out (by omega))
            go_wp2_with fail
            go_quiet (fail)
            go_wp2_with fail
            go_quiet (fail)
            go_wp2_with fail
            go_roundw
            case rel => exact ⟨k, by first | rfl | go_num | (simp; try omega), by omega, HXX.out, by first | exact HBX.out _ | exact Nt.drewN (HBX.out _) _⟩
            case measure => simp [intOf]
end Go.Proofs.YtikmebkfdpbidaaGreatDoor
namespace Go.Proofs.YtikmebkfdpbidaaGreatDoor
set_option linter.unusedVariables false

theorem Nt.top_shift {x : Nat} (h0 : 0 < x) (h1 : x < 4294967296) : ∃ s : Nat, s < 32 ∧ (32 - (Lib.bitLen x : Int)) = (s : Int) ∧ 2147483648 ≤ x * 2 ^ s ∧ x * 2 ^ s < 4294967296 := by
  obtain ⟨b1, b2, b3⟩ := Lib.bitLenAux_bounds 64 x (by omega) (by omega)
  have hb : Lib.bitLen x ≤ 32 := by
    rcases Nat.lt_or_ge 32 (Lib.bitLen x) with h | h
    · have : 2 ^ 32 ≤ 2 ^ (Lib.bitLenAux 64 x - 1) := Nat.pow_le_pow_right (by decide) (by unfold Lib.bitLen at h; omega)
      omega
    · exact h
  unfold Lib.bitLen at *
  generalize Lib.bitLenAux 64 x = L at *
  refine ⟨32 - L, by omega, by omega, ?_, ?_⟩
  · have e : 2 ^ (L - 1) * 2 ^ (32 - L) = 2147483648 := by rw [← Nat.pow_add, show L - 1 + (32 - L) = 31 by omega]
    have := Nat.mul_le_mul_right (2 ^ (32 - L)) b2
    omega
  · have e : 2 ^ L * 2 ^ (32 - L) = 4294967296 := by rw [← Nat.pow_add, show L + (32 - L) = 32 by omega]
    have := (Nat.mul_lt_mul_right (Nat.two_pow_pos (32 - L))).2 b3
    omega
theorem Nt.dig_pow_le {m : Nat} (h : 0 < m) : 4294967296 ^ ((Nt.dig m).length - 1) ≤ m := by
  have hl := Nt.dig_last m h
  have e := Nt.val_dig m
  have hlp := Nt.dig_len_pos.2 h
  have hlen : (Nt.dig m).length - 1 < (Nt.dig m).length := by omega
  have e2 : Nt.val (Nt.dig m) = Nt.val ((Nt.dig m).take ((Nt.dig m).length - 1)) + 4294967296 ^ ((Nt.dig m).length - 1) * (Nt.dig m).getD ((Nt.dig m).length - 1) 0 := by
    rw [← Nt.val_take_succ _ _ hlen, Nat.sub_add_cancel (by omega), List.take_length]
  rw [e] at e2
  have h3 : 4294967296 ^ ((Nt.dig m).length - 1) * 1 ≤ 4294967296 ^ ((Nt.dig m).length - 1) * (Nt.dig m).getD ((Nt.dig m).length - 1) 0 := Nat.mul_le_mul_left _ (by omega)
  omega
theorem Nt.dig_lt_pow (m : Nat) : m < 4294967296 ^ (Nt.dig m).length := by
  have := Nt.val_lt _ (Nt.dig_wd m)
  rwa [Nt.val_dig] at this
theorem Nt.dig_len_of {m k : Nat} (h1 : 4294967296 ^ k ≤ m) (h2 : m < 4294967296 ^ (k + 1)) : (Nt.dig m).length = k + 1 := by
  have h0 : 0 < m := Nat.lt_of_lt_of_le (Nat.pow_pos (by decide)) h1
  have l1 := Nt.dig_pow_le h0
  have l2 := Nt.dig_lt_pow m
  have a1 : (Nt.dig m).length - 1 < k + 1 := (Nat.pow_lt_pow_iff_right (by decide : 1 < 4294967296)).1 (Nat.lt_of_le_of_lt l1 h2)
  have a2 : k < (Nt.dig m).length := (Nat.pow_lt_pow_iff_right (by decide : 1 < 4294967296)).1 (Nat.lt_of_le_of_lt h1 l2)
  omega
/-- The divisor, shifted: as many words, the last with its highest bit. -/
theorem Nt.shift_div {n k s : Nat} (hk : (Nt.dig n).length = k + 1) (h1 : 2147483648 ≤ (Nt.dig n).getD k 0 * 2 ^ s) (h2 : (Nt.dig n).getD k 0 * 2 ^ s < 4294967296) :
    (Nt.dig (n * 2 ^ s)).length = k + 1 ∧ 2147483648 * 4294967296 ^ k ≤ n * 2 ^ s ∧ n * 2 ^ s < 4294967296 ^ (k + 1) ∧ 2147483648 ≤ (Nt.dig (n * 2 ^ s)).getD k 0 := by
  have e : n = Nt.val ((Nt.dig n).take k) + 4294967296 ^ k * (Nt.dig n).getD k 0 := by
    rw [← Nt.val_take_succ _ _ (by omega), ← hk, List.take_length, Nt.val_dig]
  have l := Nt.val_lt _ ((Nt.dig_wd n).take k)
  rw [List.length_take, hk, Nat.min_eq_left (by omega)] at l
  generalize (Nt.dig n).getD k 0 = x at *
  generalize Nt.val ((Nt.dig n).take k) = V at *
  have hp := Nat.two_pow_pos s
  have e2 : n * 2 ^ s = V * 2 ^ s + 4294967296 ^ k * (x * 2 ^ s) := by rw [e, Nat.add_mul, Nat.mul_assoc]
  have a1 : 2147483648 * 4294967296 ^ k ≤ n * 2 ^ s := by
    have := Nat.mul_le_mul_left (4294967296 ^ k) h1
    rw [e2]; omega
  have a2 : n * 2 ^ s < 4294967296 ^ (k + 1) := by
    have b1 : V * 2 ^ s < 4294967296 ^ k * 2 ^ s := (Nat.mul_lt_mul_right hp).2 l
    have hd : (x + 1) * 2 ^ s ≤ 4294967296 := by
      -- x 2^s < 2^32 and both sides are multiples of 2^s where s < 32
      rcases Nat.lt_or_ge s 32 with hs | hs
      · have hd : 2 ^ (32 - s) * 2 ^ s = 4294967296 := by rw [← Nat.pow_add, show 32 - s + s = 32 by omega]
        rw [← hd] at h2 ⊢
        exact Nat.mul_le_mul_right _ (Nat.lt_of_mul_lt_mul_right h2)
      · exfalso
        have : 2 ^ 32 ≤ 2 ^ s := Nat.pow_le_pow_right (by decide) hs
        have hx : 1 ≤ x := by
          rcases Nat.eq_zero_or_pos x with h | h
          · subst h; omega
          · exact h
        have := Nat.mul_le_mul hx this
        omega
    have b2 := Nat.mul_le_mul_left (4294967296 ^ k) hd
    rw [Nat.pow_succ, e2]
    rw [Nat.add_mul, Nat.one_mul, Nat.mul_add] at b2
    omega
  have hpow : 4294967296 ^ k ≤ n * 2 ^ s := by omega
  have hl := Nt.dig_len_of hpow a2
  refine ⟨hl, a1, a2, ?_⟩
  have e3 : n * 2 ^ s = Nt.val ((Nt.dig (n * 2 ^ s)).take k) + 4294967296 ^ k * (Nt.dig (n * 2 ^ s)).getD k 0 := by
    rw [← Nt.val_take_succ _ _ (by omega), ← hl, List.take_length, Nt.val_dig]
  have l3 := Nt.val_lt _ ((Nt.dig_wd (n * 2 ^ s)).take k)
  rw [List.length_take, hl, Nat.min_eq_left (by omega)] at l3
  generalize (Nt.dig (n * 2 ^ s)).getD k 0 = y at *
  rcases Nat.lt_or_ge y 2147483648 with h | h
  · exfalso
    have := Nat.mul_le_mul_left (4294967296 ^ k) h
    rw [Nat.mul_succ] at this
    rw [Nat.mul_comm 2147483648] at a1
    omega
  · exact h
/-- The dividend, shifted, is less than the divisor so many words up. -/
theorem Nt.shift_start {m n s k l : Nat} (hm : m < 4294967296 ^ l) (hs : s < 32) (hd : 2147483648 * 4294967296 ^ k ≤ n * 2 ^ s) (hkl : k ≤ l) : m * 2 ^ s < n * 2 ^ s * 4294967296 ^ (l - k) := by
  have h1 : 2 ^ s ≤ 2147483648 := Nat.pow_le_pow_right (n := 2) (j := 31) (by decide) (by omega)
  have h2 : m * 2 ^ s < 4294967296 ^ l * 2 ^ s := (Nat.mul_lt_mul_right (Nat.two_pow_pos s)).2 hm
  have h3 : 4294967296 ^ l * 2 ^ s ≤ 4294967296 ^ l * 2147483648 := Nat.mul_le_mul_left _ h1
  have h4 := Nat.mul_le_mul_right (4294967296 ^ (l - k)) hd
  rw [Nat.mul_assoc, ← Nat.pow_add, show k + (l - k) = l by omega, Nat.mul_comm 2147483648] at h4
  omega
/-- The dividend's row. -/
theorem Nt.shift_row {m s l : Nat} (hm : m < 4294967296 ^ l) (hs : s < 32) (hl : (Nt.dig m).length = l) (h0 : 0 < m) : l ≤ (Nt.dig (m * 2 ^ s)).length ∧ (Nt.dig (m * 2 ^ s)).length ≤ l + 1 ∧ (((Nt.dig (m * 2 ^ s)) ++ [0, 0]).take (l + 1)).length = l + 1 ∧ Nt.val (((Nt.dig (m * 2 ^ s)) ++ [0, 0]).take (l + 1)) = m * 2 ^ s ∧ Nt.Wd (((Nt.dig (m * 2 ^ s)) ++ [0, 0]).take (l + 1)) := by
  have hp := Nat.two_pow_pos s
  have a1 : 4294967296 ^ (l - 1) ≤ m * 2 ^ s := by
    have := Nt.dig_pow_le h0
    rw [hl] at this
    exact Nat.le_trans this (Nat.le_mul_of_pos_right _ hp)
  have a2 : m * 2 ^ s < 4294967296 ^ (l + 1) := by
    have h1 : 2 ^ s ≤ 4294967296 := Nat.pow_le_pow_right (n := 2) (j := 32) (by decide) (by omega)
    have h2 := Nat.mul_le_mul_left (4294967296 ^ l) h1
    have h3 : m * 2 ^ s < 4294967296 ^ l * 2 ^ s := (Nat.mul_lt_mul_right hp).2 hm
    rw [Nat.pow_succ]
    omega
  have hlp : 0 < l := hl ▸ Nt.dig_len_pos.2 h0
  have b1 : l - 1 < (Nt.dig (m * 2 ^ s)).length := (Nat.pow_lt_pow_iff_right (by decide : 1 < 4294967296)).1 (Nat.lt_of_le_of_lt a1 (Nt.dig_lt_pow _))
  have b2 : (Nt.dig (m * 2 ^ s)).length - 1 < l + 1 := (Nat.pow_lt_pow_iff_right (by decide : 1 < 4294967296)).1 (Nat.lt_of_le_of_lt (Nt.dig_pow_le (Nat.mul_pos h0 hp)) a2)
  have hwd : Nt.Wd (Nt.dig (m * 2 ^ s) ++ [0, 0]) := fun x hx => by
    rcases List.mem_append.1 hx with h | h
    · exact Nt.dig_wd _ x h
    · simp at h; subst h; decide
  refine ⟨by omega, by omega, by rw [List.length_take, List.length_append]; simp; omega, ?_, hwd.take _⟩
  have e := Nt.val_append ((Nt.dig (m * 2 ^ s) ++ [0, 0]).take (l + 1)) ((Nt.dig (m * 2 ^ s) ++ [0, 0]).drop (l + 1))
  rw [List.take_append_drop, Nt.val_append, Nt.val_dig] at e
  have z1 : Nt.val [0, 0] = 0 := rfl
  have z2 : Nt.val ((Nt.dig (m * 2 ^ s) ++ [0, 0]).drop (l + 1)) = 0 := by
    apply Nt.val_zeros
    intro x hx
    rw [List.drop_append, List.drop_eq_nil_of_le (by omega), List.nil_append] at hx
    have := List.mem_of_mem_drop hx
    simp at this
    exact this
  rw [z1, z2] at e
  omega
end Go.Proofs.YtikmebkfdpbidaaGreatDoor
