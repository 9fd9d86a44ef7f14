/-
  The types of conditions: cond.kinds, find, under, Under, Name, Parent. No condition.
  cond.find, under, Under, Name, Parent, of whatever numbers. No condition.
  How many fields a type of conditions has.
  sextantref16.fields of any type.
  sextantref16.Name, Parent, Under. No condition but the range of the numbers.
  Texts and their characters, in plain Lean over the model's own decoding: the characters of a text, and that a text of encoded characters is read back as they were. No conditions.
  What the transcoders read, in plain Lean: the units of bytes, and what Decode makes of them.
  The reference's units, in plain Lean.
  Slices of integers that a call reads or has made, and texts of characters, in plain Lean over worlds. No conditions.
-/
import Derived.Test.YtikmebkfdpbidaaGreatDoorProg
import Derived.WalkKit
import Derived.WalkSpells
import Derived.WalkLawsBesides
import Derived.Handy
import Derived.BigCall
import Derived.Lib.Hide
import Derived.Outline
import Derived.Lib.MapLaws
import Derived.Lib.RuneBytes
import Derived.Lib.SpaceU
import Derived.Lib.TrimUEq
import Derived.Lib.RuneCount
import Derived.Lib.DecodeN
import Derived.Laws.BitsLemmas
import Derived.Lib.OthersKept
namespace Go.Proofs.YtikmebkfdpbidaaGreatDoor
open Go.RowKit
set_option linter.unusedVariables false

/-- The table of the types, as the program lays it: name, parent, own fields. -/
def Co.table : List (ByteArray × Int × Int) := [(⟨#[99, 111, 110, 100, 105, 116, 105, 111, 110]⟩, -1, 0), (⟨#[109, 101, 115, 115, 97, 103, 101]⟩, 0, 1), (⟨#[119, 97, 114, 110, 105, 110, 103]⟩, 0, 0), (⟨#[115, 101, 114, 105, 111, 117, 115]⟩, 0, 0), (⟨#[101, 114, 114, 111, 114]⟩, 3, 0), (⟨#[118, 105, 111, 108, 97, 116, 105, 111, 110]⟩, 3, 0), (⟨#[97, 115, 115, 101, 114, 116, 105, 111, 110]⟩, 5, 0), (⟨#[105, 114, 114, 105, 116, 97, 110, 116, 115]⟩, 0, 1), (⟨#[119, 104, 111]⟩, 0, 1), (⟨#[110, 111, 110, 45, 99, 111, 110, 116, 105, 110, 117, 97, 98, 108, 101]⟩, 5, 0), (⟨#[105, 109, 112, 108, 101, 109, 101, 110, 116, 97, 116, 105, 111, 110, 45, 114, 101, 115, 116, 114, 105, 99, 116, 105, 111, 110]⟩, 5, 0), (⟨#[108, 101, 120, 105, 99, 97, 108]⟩, 5, 0), (⟨#[115, 121, 110, 116, 97, 120]⟩, 5, 2), (⟨#[117, 110, 100, 101, 102, 105, 110, 101, 100]⟩, 5, 0), (⟨#[105, 47, 111]⟩, 4, 0), (⟨#[105, 47, 111, 45, 114, 101, 97, 100]⟩, 14, 0), (⟨#[105, 47, 111, 45, 119, 114, 105, 116, 101]⟩, 14, 0), (⟨#[105, 47, 111, 45, 102, 105, 108, 101, 110, 97, 109, 101]⟩, 14, 1), (⟨#[105, 47, 111, 45, 102, 105, 108, 101, 45, 100, 111, 101, 115, 45, 110, 111, 116, 45, 101, 120, 105, 115, 116]⟩, 17, 0), (⟨#[105, 47, 111, 45, 102, 105, 108, 101, 45, 97, 108, 114, 101, 97, 100, 121, 45, 101, 120, 105, 115, 116, 115]⟩, 17, 0)]
def Co.nm (k : Nat) : ByteArray := (Co.table.getD k (.empty, 0, 0)).1
def Co.par (k : Nat) : Int := (Co.table.getD k (.empty, 0, 0)).2.1
def Co.fld (k : Nat) : Int := (Co.table.getD k (.empty, 0, 0)).2.2
def Co.cells : Array Value := #[.string ⟨#[99, 111, 110, 100, 105, 116, 105, 111, 110]⟩, .int .i64 (-1), .int .i64 0, .string ⟨#[109, 101, 115, 115, 97, 103, 101]⟩, .int .i64 0, .int .i64 1, .string ⟨#[119, 97, 114, 110, 105, 110, 103]⟩, .int .i64 0, .int .i64 0, .string ⟨#[115, 101, 114, 105, 111, 117, 115]⟩, .int .i64 0, .int .i64 0, .string ⟨#[101, 114, 114, 111, 114]⟩, .int .i64 3, .int .i64 0, .string ⟨#[118, 105, 111, 108, 97, 116, 105, 111, 110]⟩, .int .i64 3, .int .i64 0, .string ⟨#[97, 115, 115, 101, 114, 116, 105, 111, 110]⟩, .int .i64 5, .int .i64 0, .string ⟨#[105, 114, 114, 105, 116, 97, 110, 116, 115]⟩, .int .i64 0, .int .i64 1, .string ⟨#[119, 104, 111]⟩, .int .i64 0, .int .i64 1, .string ⟨#[110, 111, 110, 45, 99, 111, 110, 116, 105, 110, 117, 97, 98, 108, 101]⟩, .int .i64 5, .int .i64 0, .string ⟨#[105, 109, 112, 108, 101, 109, 101, 110, 116, 97, 116, 105, 111, 110, 45, 114, 101, 115, 116, 114, 105, 99, 116, 105, 111, 110]⟩, .int .i64 5, .int .i64 0, .string ⟨#[108, 101, 120, 105, 99, 97, 108]⟩, .int .i64 5, .int .i64 0, .string ⟨#[115, 121, 110, 116, 97, 120]⟩, .int .i64 5, .int .i64 2, .string ⟨#[117, 110, 100, 101, 102, 105, 110, 101, 100]⟩, .int .i64 5, .int .i64 0, .string ⟨#[105, 47, 111]⟩, .int .i64 4, .int .i64 0, .string ⟨#[105, 47, 111, 45, 114, 101, 97, 100]⟩, .int .i64 14, .int .i64 0, .string ⟨#[105, 47, 111, 45, 119, 114, 105, 116, 101]⟩, .int .i64 14, .int .i64 0, .string ⟨#[105, 47, 111, 45, 102, 105, 108, 101, 110, 97, 109, 101]⟩, .int .i64 14, .int .i64 1, .string ⟨#[105, 47, 111, 45, 102, 105, 108, 101, 45, 100, 111, 101, 115, 45, 110, 111, 116, 45, 101, 120, 105, 115, 116]⟩, .int .i64 17, .int .i64 0, .string ⟨#[105, 47, 111, 45, 102, 105, 108, 101, 45, 97, 108, 114, 101, 97, 100, 121, 45, 101, 120, 105, 115, 116, 115]⟩, .int .i64 17, .int .i64 0]
theorem Co.cells_at : ∀ k, k < 20 → Co.cells[k * 3]? = some (.string (Co.nm k)) ∧ Co.cells[k * 3 + 1]? = some (.int .i64 (Co.par k)) ∧ Co.cells[k * 3 + 2]? = some (.int .i64 (Co.fld k)) := by
  intro k hk
  rcases (show k = 0 ∨ k = 1 ∨ k = 2 ∨ k = 3 ∨ k = 4 ∨ k = 5 ∨ k = 6 ∨ k = 7 ∨ k = 8 ∨ k = 9 ∨ k = 10 ∨ k = 11 ∨ k = 12 ∨ k = 13 ∨ k = 14 ∨ k = 15 ∨ k = 16 ∨ k = 17 ∨ k = 18 ∨ k = 19 by omega) with rfl | rfl | rfl | rfl | rfl | rfl | rfl | rfl | rfl | rfl | rfl | rfl | rfl | rfl | rfl | rfl | rfl | rfl | rfl | rfl
  all_goals exact ⟨rfl, rfl, rfl⟩

set_option maxHeartbeats 4000000 in
set_option maxRecDepth 1000000 in
theorem Co.kinds_any (w : World) : Calls Tryz.prog 59 #[] w fun e w' => e = .returned (.slice (some ⟨w.heap.size, 0, none⟩) 20 20) ∧ w'.heap[w.heap.size]? = some (.cells Co.cells 109 (0, 0)) ∧ Below w.heap.size w w' := by
  go_enter Tryz.func59, Tryz.ntmps59
  go_wp2
  go_ret
  refine ⟨rfl, ?_, (Below.refl _ _).alloc (Nat.le_refl _) _⟩
  exact heap_alloc_new _ _
end Go.Proofs.YtikmebkfdpbidaaGreatDoor
namespace Go.Proofs.YtikmebkfdpbidaaGreatDoor
open Go.RowKit
set_option linter.unusedVariables false

theorem Co.par_lt : ∀ k, k < 20 → -1 ≤ Co.par k ∧ Co.par k < k := by
  intro k hk
  rcases (show k = 0 ∨ k = 1 ∨ k = 2 ∨ k = 3 ∨ k = 4 ∨ k = 5 ∨ k = 6 ∨ k = 7 ∨ k = 8 ∨ k = 9 ∨ k = 10 ∨ k = 11 ∨ k = 12 ∨ k = 13 ∨ k = 14 ∨ k = 15 ∨ k = 16 ∨ k = 17 ∨ k = 18 ∨ k = 19 by omega) with rfl | rfl | rfl | rfl | rfl | rfl | rfl | rfl | rfl | rfl | rfl | rfl | rfl | rfl | rfl | rfl | rfl | rfl | rfl | rfl
  all_goals decide
/-- Going up from t until there is none, or it is 'of'. -/
def Co.und : Nat → Int → Int → Bool
  | 0, t, of => t == of
  | n + 1, t, of => if t < 0 ∨ t = of then t == of else Co.und n (Co.par t.toNat) of
def Co.under (t of : Int) : Bool := Co.und 20 t of
def Co.thr (t : Int) : Bool := decide (0 ≤ t ∧ t < 20)

theorem Co.cell_of {w : World} {b : Nat} {C : Array Value} {t : TypeId} (h : w.heap[b]? = some (.cells C t (0, 0))) (k : Nat) : w.cell? ⟨b, k, none⟩ = C[k]? := by
  simp [World.cell?, h]
theorem Co.kind_cells {w : World} {b : Nat} {t : TypeId} (h : w.heap[b]? = some (.cells Co.cells t (0, 0))) (k : Nat) (hk : k < 20) : w.cell? ⟨b, k * 3, none⟩ = some (.string (Co.nm k)) ∧ w.cell? ⟨b, k * 3 + 1, none⟩ = some (.int .i64 (Co.par k)) ∧ w.cell? ⟨b, k * 3 + 2, none⟩ = some (.int .i64 (Co.fld k)) := by
  obtain ⟨h1, h2, h3⟩ := Co.cells_at k hk
  exact ⟨(Co.cell_of h _).trans h1, (Co.cell_of h _).trans h2, (Co.cell_of h _).trans h3⟩

theorem Co.setCells {w : World} {b : Nat} {C : Array Value} {t : TypeId} (h : w.heap[b]? = some (.cells C t (0, 0))) (k : Nat) (u : Value) : (w.setCell ⟨b, k, none⟩ u).heap[b]? = some (.cells (C.set! k u) t (0, 0)) := by
  obtain ⟨hlt, hk⟩ := Array.getElem?_eq_some_iff.1 h
  show (w.heap.modify b _)[b]? = _
  rw [Array.getElem?_eq_getElem (by rw [Array.size_modify]; exact hlt), Array.getElem_modify_self, hk]
  rfl
theorem Co.frozen_of {w : World} {b : Nat} {C : Array Value} {t : TypeId} (h : w.heap[b]? = some (.cells C t (0, 0))) (k : Nat) : w.frozen? ⟨b, k, none⟩ = false := by
  simp [World.frozen?, h]
/-- What a store of three cells asks and leaves. -/
theorem Co.store3 {w : World} {b : Nat} {v0 v1 v2 : Value} {t : TypeId} (h : w.heap[b]? = some (.cells #[v0, v1, v2] t (0, 0))) (u0 u1 u2 : Value) :
    w.cell? ⟨b, 0, none⟩ = some v0 ∧ w.frozen? ⟨b, 0, none⟩ = false ∧ (w.setCell ⟨b, 0, none⟩ u0).cell? ⟨b, 1, none⟩ = some v1 ∧ (w.setCell ⟨b, 0, none⟩ u0).frozen? ⟨b, 1, none⟩ = false ∧
    ((w.setCell ⟨b, 0, none⟩ u0).setCell ⟨b, 1, none⟩ u1).cell? ⟨b, 2, none⟩ = some v2 ∧ ((w.setCell ⟨b, 0, none⟩ u0).setCell ⟨b, 1, none⟩ u1).frozen? ⟨b, 2, none⟩ = false ∧
    (((w.setCell ⟨b, 0, none⟩ u0).setCell ⟨b, 1, none⟩ u1).setCell ⟨b, 2, none⟩ u2).heap[b]? = some (.cells #[u0, u1, u2] t (0, 0)) := by
  have h1 := Co.setCells h 0 u0
  have h2 := Co.setCells h1 1 u1
  have h3 := Co.setCells h2 2 u2
  exact ⟨Co.cell_of h 0, Co.frozen_of h 0, Co.cell_of h1 1, Co.frozen_of h1 1, Co.cell_of h2 2, Co.frozen_of h2 2, h3⟩

set_option maxHeartbeats 4000000 in
set_option maxRecDepth 1000000 in
theorem Co.find_in (k : Nat) (hk : k < 20) (w : World) : Calls Tryz.prog 55 #[.int .i64 k] w fun e w' => e = .returned (.tuple #[.agg #[.string (Co.nm k), .int .i64 (Co.par k), .int .i64 (Co.fld k)], .bool true]) ∧ Below w.heap.size w w' := by
  have h0 : ¬ ((k : Int) < 0) := by omega
  have h1 : ¬ ((k : Int) ≥ 20) := by omega
  go_enter Tryz.func55, Tryz.ntmps55
  go_wp2_with fail
  refine (Co.kinds_any _).mono ?_
  rintro x w1 ⟨rfl, hg, hb⟩
  have e0 : ∀ o, (w.alloc o).heap.size = w.heap.size + 1 := by intro o; simp
  rw [e0] at hg
  have q0 : w1.heap[w.heap.size]? = some (.cells #[.string ⟨#[]⟩, .int .i64 0, .int .i64 0] 109 (0, 0)) := by
    rw [hb.block _ (by simp)]
    exact heap_alloc_new _ _
  obtain ⟨c0, c1, c2⟩ := Co.kind_cells hg k hk
  have HB := Lib.hid (((Below.refl w.heap.size w).alloc (Nat.le_refl _) _).trans (hb.mono (by simp)))
  clear hb hg e0
  obtain ⟨f0, z0, f1, z1, f2, z2, f3⟩ := Co.store3 q0 (.string (Co.nm k)) (.int .i64 (Co.par k)) (.int .i64 (Co.fld k))
  have F3 := Lib.hid f3
  have g0 := Co.cell_of f3 0
  have g1 := Co.cell_of f3 1
  have g2 := Co.cell_of f3 2
  clear f3 q0
  go_wp2_with fail
  refine bodyPost_ret (v := .tuple #[.agg #[.string (Co.nm k), .int .i64 (Co.par k), .int .i64 (Co.fld k)], .bool true]) (by simp [results, Tryz.results55, go_sem, g0, g1, g2]) rfl ⟨rfl, ?_⟩
  exact ((HB.out.setCell (Nat.le_refl _) _).setCell (Nat.le_refl _) _).setCell (Nat.le_refl _) _

set_option maxHeartbeats 4000000 in
set_option maxRecDepth 1000000 in
theorem Co.find_out (t : Int) (ht : t < 0 ∨ t ≥ 20) (w : World) : Calls Tryz.prog 55 #[.int .i64 t] w fun e w' => e = .returned (.tuple #[.agg #[.string ⟨#[]⟩, .int .i64 0, .int .i64 0], .bool false]) ∧ Below w.heap.size w w' := by
  go_enter Tryz.func55, Tryz.ntmps55
  go_wp2_with fail
  refine (Co.kinds_any _).mono ?_
  rintro x w1 ⟨rfl, hg, hb⟩
  have q0 : w1.heap[w.heap.size]? = some (.cells #[.string ⟨#[]⟩, .int .i64 0, .int .i64 0] 109 (0, 0)) := by
    rw [hb.block _ (by simp)]
    exact heap_alloc_new _ _
  have HB := Lib.hid (((Below.refl w.heap.size w).alloc (Nat.le_refl _) _).trans (hb.mono (by simp)))
  clear hb hg
  obtain ⟨f0, z0, f1, z1, f2, z2, f3⟩ := Co.store3 q0 (.string ⟨#[]⟩) (.int .i64 0) (.int .i64 0)
  have g0 := Co.cell_of f3 0
  have g1 := Co.cell_of f3 1
  have g2 := Co.cell_of f3 2
  clear f3 q0
  rcases ht with ht | ht
  all_goals
    go_wp2_with fail
    refine bodyPost_ret (v := .tuple #[.agg #[.string ⟨#[]⟩, .int .i64 0, .int .i64 0], .bool false]) (by simp [results, Tryz.results55, go_sem, g0, g1, g2]) rfl ⟨rfl, ?_⟩
    exact ((HB.out.setCell (Nat.le_refl _) _).setCell (Nat.le_refl _) _).setCell (Nat.le_refl _) _

theorem Co.und_stop (n : Nat) (t of : Int) (h : t < 0 ∨ t = of) : Co.und n t of = (t == of) := by
  cases n with
  | zero => rfl
  | succ n => rw [Co.und, if_pos h]
theorem Co.und_step (n : Nat) (t of : Int) (h : ¬ (t < 0 ∨ t = of)) : Co.und (n + 1) t of = Co.und n (Co.par t.toNat) of := by
  rw [Co.und, if_neg h]

set_option maxHeartbeats 4000000 in
set_option maxRecDepth 1000000 in
theorem Co.under_any (t : Nat) (ht : t < 20) (of : Int) (w : World) : Calls Tryz.prog 62 #[.int .i64 t, .int .i64 of] w fun e w' => e = .returned (.bool (Co.under t of)) ∧ Below w.heap.size w w' := by
  have hU : ∃ U, Co.und 20 t of = U := ⟨_, rfl⟩
  obtain ⟨U, hU⟩ := hU
  unfold Co.under
  rw [hU]
  go_enter Tryz.func62, Tryz.ntmps62
  go_wp2_with fail
  refine (Co.kinds_any _).mono ?_
  rintro x w1 ⟨rfl, hg, hb⟩
  have HB := Lib.hid hb
  clear hb
  go_wp2_with fail
  go_loopw [0] (fun i wr => ∃ (n : Nat) (k : Int), i = .int .i64 k ∧ -1 ≤ k ∧ k < n ∧ n ≤ 20 ∧ Co.und n k of = U ∧ wr = w1) (fun i _ => (intOf i + 1).toNat)
  case atStart => exact ⟨20, t, rfl, by omega, by omega, Nat.le_refl _, hU, rfl⟩
  case round =>
    obtain ⟨n, k, rfl, hk, hkn, hn, hu, rfl⟩ := hrel
    by_cases h1 : k < 0
    · rw [Co.und_stop _ _ _ (.inl h1)] at hu
      have h2 : ¬ (k ≥ 0) := by omega
      go_wp2_with fail
      go_ret
      refine ⟨?_, HB.out⟩
      rw [← hu]
      first | rfl | simp
    · by_cases h2 : k = of
      · rw [Co.und_stop _ _ _ (.inr h2)] at hu
        have h3 : k ≥ 0 := by omega
        subst h2
        go_wp2_with fail
        go_ret
        refine ⟨?_, HB.out⟩
        rw [← hu]
        first | rfl | simp
      · obtain ⟨m, rfl⟩ : ∃ m : Nat, k = m := ⟨k.toNat, by omega⟩
        obtain ⟨n, rfl⟩ : ∃ q : Nat, n = q + 1 := ⟨n - 1, by omega⟩
        rw [Co.und_step _ _ _ (by omega), Int.toNat_natCast] at hu
        obtain ⟨p1, p2⟩ := Co.par_lt m (by omega)
        obtain ⟨c0, c1, c2⟩ := Co.kind_cells hg m (by omega)
        have h3 : (m : Int) ≥ 0 := by omega
        have h4 : m < 20 := by omega
        have HN := Lib.hid hn
        have HKN := Lib.hid hkn
        have HU := Lib.hid hu
        clear hn hkn hu hk
        go_wp2_with fail
        go_roundw
        case rel => exact ⟨n, Co.par m, rfl, p1, by have := HKN.out; omega, by have := HN.out; omega, HU.out, trivial⟩
        case measure => simp [intOf]; omega

/-- Is it a type, and what is told of it. -/
theorem Co.find_any (t : Int) (w : World) : Calls Tryz.prog 55 #[.int .i64 t] w fun e w' => e = .returned (.tuple #[.agg #[.string (if Co.thr t then Co.nm t.toNat else ⟨#[]⟩), .int .i64 (if Co.thr t then Co.par t.toNat else 0), .int .i64 (if Co.thr t then Co.fld t.toNat else 0)], .bool (Co.thr t)]) ∧ Below w.heap.size w w' := by
  by_cases h : 0 ≤ t ∧ t < 20
  · have e : Co.thr t = true := decide_eq_true h
    rw [e]
    have := Co.find_in t.toNat (by omega) w
    rw [show ((t.toNat : Nat) : Int) = t by omega] at this
    exact this
  · have e : Co.thr t = false := decide_eq_false h
    rw [e]
    exact Co.find_out t (by omega) w

set_option maxHeartbeats 4000000 in
set_option maxRecDepth 1000000 in
theorem Co.name_any (t : Int) (w : World) : Calls Tryz.prog 87 #[.int .i64 t] w fun e w' => e = .returned (.tuple #[.string (if Co.thr t then Co.nm t.toNat else ⟨#[]⟩), .int .i64 (if Co.thr t then 0 else 7)]) ∧ Below w.heap.size w w' := by
  have KF := Lib.hid (Co.find_any t w)
  cases he : Co.thr t
  all_goals
    rw [he] at KF
    simp only [if_true, if_false, Bool.false_eq_true] at KF ⊢
    go_enter Tryz.func87, Tryz.ntmps87
    go_wp2_with fail
    refine KF.out.mono ?_
    rintro x w1 ⟨rfl, hb⟩
    have HB := Lib.hid hb
    clear hb KF
    go_wp2
    go_ret2
    exact ⟨rfl, HB.out.alloc HB.out.size _⟩
def Co.Under (t of : Int) : Bool := (Co.thr t && Co.thr of) && Co.under t of
set_option maxHeartbeats 4000000 in
set_option maxRecDepth 1000000 in
theorem Co.Under_any (t of : Int) (w : World) : Calls Tryz.prog 29 #[.int .i64 t, .int .i64 of] w fun e w' => e = .returned (.tuple #[.bool (Co.Under t of), .int .i64 (if Co.thr t && Co.thr of then 0 else 7)]) ∧ Below w.heap.size w w' := by
  have KF := fun w => Co.find_any t w
  have KF2 := fun w => Co.find_any of w
  have KU : Co.thr t = true → ∀ w, Calls Tryz.prog 62 #[.int .i64 t, .int .i64 of] w fun e w' => e = .returned (.bool (Co.under t of)) ∧ Below w.heap.size w w' := by
    intro h w
    have h := of_decide_eq_true h
    have := Co.under_any t.toNat (by omega) of w
    rw [show ((t.toNat : Nat) : Int) = t by omega] at this
    exact this
  unfold Co.Under
  generalize Co.under t of = U at *
  generalize Co.nm t.toNat = n1 at *
  generalize Co.par t.toNat = n2 at *
  generalize Co.fld t.toNat = n3 at *
  generalize Co.nm of.toNat = m1 at *
  generalize Co.par of.toNat = m2 at *
  generalize Co.fld of.toNat = m3 at *
  cases he : Co.thr t <;> cases he2 : Co.thr of
  all_goals
    rw [he] at KF
    rw [he2] at KF2
    simp only [if_true, if_false, Bool.false_eq_true, Bool.and_true, Bool.and_false, Bool.true_and, Bool.false_and] at KF KF2 ⊢
    go_enter Tryz.func29, Tryz.ntmps29
    go_wp2_with fail
    refine (KF _).mono ?_
    rintro x w1 ⟨rfl, hb⟩
    have HA : ∀ o, Below w.heap.size w (w1.alloc o) := fun o => hb.alloc hb.size o
    clear hb
    go_wp2_with fail
    refine (KF2 _).mono ?_
    rintro x w2 ⟨rfl, hb2⟩
    have HB2 := Lib.hid ((HA _).trans (hb2.mono (HA _).size))
    have HA2 : ∀ o, Below w.heap.size w (w2.alloc o) := fun o => HB2.out.alloc HB2.out.size o
    clear hb2 HA
    go_wp2_with fail
    first
    | (go_ret2
       exact ⟨rfl, HA2 _⟩)
    | (refine (KU he _).mono ?_
       rintro x w3 ⟨rfl, hb3⟩
       have HB3 := Lib.hid ((HA2 _).trans (hb3.mono (HA2 _).size))
       clear hb3 HA2
       go_wp2
       go_ret2
       exact ⟨rfl, HB3.out⟩)
end Go.Proofs.YtikmebkfdpbidaaGreatDoor
namespace Go.Proofs.YtikmebkfdpbidaaGreatDoor
open Go.RowKit
set_option linter.unusedVariables false

/-- How many fields a type has, its parents' among them. -/
def Co.nfu : Nat → Int → Int
  | 0, _ => 0
  | n + 1, t => if t < 0 then 0 else Co.fld t.toNat + Co.nfu n (Co.par t.toNat)
def Co.nf (t : Nat) : Int := Co.nfu 20 t
theorem Co.nfu_stop (n : Nat) (t : Int) (h : t < 0) : Co.nfu n t = 0 := by
  cases n with
  | zero => rfl
  | succ n => rw [Co.nfu, if_pos h]
theorem Co.nfu_step (n : Nat) (t : Int) (h : ¬ t < 0) : Co.nfu (n + 1) t = Co.fld t.toNat + Co.nfu n (Co.par t.toNat) := by
  rw [Co.nfu, if_neg h]
theorem Co.fld_le : ∀ k, k < 20 → 0 ≤ Co.fld k ∧ Co.fld k ≤ 2 := by
  intro k hk
  rcases (show k = 0 ∨ k = 1 ∨ k = 2 ∨ k = 3 ∨ k = 4 ∨ k = 5 ∨ k = 6 ∨ k = 7 ∨ k = 8 ∨ k = 9 ∨ k = 10 ∨ k = 11 ∨ k = 12 ∨ k = 13 ∨ k = 14 ∨ k = 15 ∨ k = 16 ∨ k = 17 ∨ k = 18 ∨ k = 19 by omega) with rfl | rfl | rfl | rfl | rfl | rfl | rfl | rfl | rfl | rfl | rfl | rfl | rfl | rfl | rfl | rfl | rfl | rfl | rfl | rfl
  all_goals decide
end Go.Proofs.YtikmebkfdpbidaaGreatDoor
namespace Go.Proofs.YtikmebkfdpbidaaGreatDoor
open Go.RowKit
set_option linter.unusedVariables false
set_option linter.unusedSimpArgs false

set_option maxHeartbeats 4000000 in
set_option maxRecDepth 1000000 in
theorem Cr.parent_in (k : Nat) (hk : k < 20) (w : World) : Calls Tryz.prog 91 #[.int .i64 k] w fun e w' => e = .returned (.int .i64 (Co.par k)) ∧ w' = w := by
  rcases (show k = 0 ∨ k = 1 ∨ k = 2 ∨ k = 3 ∨ k = 4 ∨ k = 5 ∨ k = 6 ∨ k = 7 ∨ k = 8 ∨ k = 9 ∨ k = 10 ∨ k = 11 ∨ k = 12 ∨ k = 13 ∨ k = 14 ∨ k = 15 ∨ k = 16 ∨ k = 17 ∨ k = 18 ∨ k = 19 by omega) with rfl | rfl | rfl | rfl | rfl | rfl | rfl | rfl | rfl | rfl | rfl | rfl | rfl | rfl | rfl | rfl | rfl | rfl | rfl | rfl
  all_goals
    go_enter Tryz.func91, Tryz.ntmps91
    go_wp2
    go_ret
    exact ⟨rfl, rfl⟩
theorem Cr.fld_cases : ∀ k, k < 20 → ((k = 1 ∨ k = 7 ∨ k = 8 ∨ k = 17) ∧ Co.fld k = 1) ∨ (k = 12 ∧ Co.fld k = 2) ∨ ((k ≠ 1 ∧ k ≠ 7 ∧ k ≠ 8 ∧ k ≠ 17 ∧ k ≠ 12) ∧ Co.fld k = 0) := by
  intro k hk
  rcases (show k = 0 ∨ k = 1 ∨ k = 2 ∨ k = 3 ∨ k = 4 ∨ k = 5 ∨ k = 6 ∨ k = 7 ∨ k = 8 ∨ k = 9 ∨ k = 10 ∨ k = 11 ∨ k = 12 ∨ k = 13 ∨ k = 14 ∨ k = 15 ∨ k = 16 ∨ k = 17 ∨ k = 18 ∨ k = 19 by omega) with rfl | rfl | rfl | rfl | rfl | rfl | rfl | rfl | rfl | rfl | rfl | rfl | rfl | rfl | rfl | rfl | rfl | rfl | rfl | rfl
  all_goals decide
set_option maxHeartbeats 1000000 in
set_option maxRecDepth 1000000 in
theorem Cr.fields_in (t : Nat) (ht : t < 20) (w : World) : Calls Tryz.prog 61 #[.int .i64 t] w fun e w' => e = .returned (.int .i64 (Co.nf t)) ∧ w' = w := by
  obtain ⟨U, hU⟩ : ∃ U, Co.nf t = U := ⟨_, rfl⟩
  have HU := Lib.hid (show Co.nfu 20 t = U from hU)
  rw [hU]
  clear hU
  go_enter Tryz.func61, Tryz.ntmps61
  go_wp2_with fail
  go_loopw [0, 3] (fun i s wr => ∃ (n : Nat) (k c : Int), i = .int .i64 k ∧ s = .int .i64 c ∧ -1 ≤ k ∧ k < n ∧ n ≤ 20 ∧ 0 ≤ c ∧ c ≤ 2 * (20 - n) ∧ c + Co.nfu n k = U ∧ wr = w) (fun i _ _ => (intOf i + 1).toNat)
  case atStart => exact ⟨20, t, 0, rfl, rfl, by omega, by omega, Nat.le_refl _, Int.le_refl _, by omega, by rw [Int.zero_add]; exact HU.out, rfl⟩
  case round =>
    obtain ⟨n, k, c, rfl, rfl, hk, hkn, hn, hc0, hc1, hu, rfl⟩ := hrel
    by_cases h1 : k < 0
    · rw [Co.nfu_stop _ _ h1, Int.add_zero] at hu
      have h2 : ¬ (k ≥ 0) := by omega
      subst hu
      go_wp2_with fail
      go_ret
      exact ⟨rfl, rfl⟩
    · obtain ⟨m, rfl⟩ : ∃ m : Nat, k = m := ⟨k.toNat, by omega⟩
      obtain ⟨n, rfl⟩ : ∃ q : Nat, n = q + 1 := ⟨n - 1, by omega⟩
      rw [Co.nfu_step _ _ (by omega), Int.toNat_natCast] at hu
      obtain ⟨p1, p2⟩ := Co.par_lt m (by omega)
      have KP := fun w => Cr.parent_in m (by omega) w
      have h3 : (m : Int) ≥ 0 := by omega
      have HN := Lib.hid hn
      have HKN := Lib.hid hkn
      have HC := Lib.hid (And.intro hc0 hc1)
      have hm20 : m < 20 := by omega
      rcases Cr.fld_cases m hm20 with ⟨hm, hf⟩ | ⟨hm, hf⟩ | ⟨⟨g1, g2, g3, g4, g5⟩, hf⟩
      · rw [hf] at hu
        have HU2 := Lib.hid hu
        have hw : wrap64 (c + 1) = c + 1 := by unfold wrap64; omega
        clear hn hkn hu hk hc0 hc1 hf
        rcases hm with rfl | rfl | rfl | rfl
        all_goals
          go_wp2_with fail
          refine (KP _).mono ?_
          rintro x w1 ⟨rfl, rfl⟩
          clear KP
          go_wp2_with fail
          go_roundw
          case rel => exact ⟨n, _, c + 1, rfl, by first | rfl | go_num | (simp; try omega), p1, by have := HKN.out; omega, by have := HN.out; omega, by have := HC.out; omega, by have := HC.out; omega, by rw [← HU2.out]; omega, by first | rfl | trivial⟩
          case measure => simp [intOf]; omega
      · rw [hf] at hu
        have HU2 := Lib.hid hu
        have hw : wrap64 (c + 2) = c + 2 := by unfold wrap64; omega
        clear hn hkn hu hk hc0 hc1 hf
        subst hm
        go_wp2_with fail
        refine (KP _).mono ?_
        rintro x w1 ⟨rfl, rfl⟩
        clear KP
        go_wp2_with fail
        go_roundw
        case rel => exact ⟨n, _, c + 2, rfl, by first | rfl | go_num | (simp; try omega), p1, by have := HKN.out; omega, by have := HN.out; omega, by have := HC.out; omega, by have := HC.out; omega, by rw [← HU2.out]; omega, by first | rfl | trivial⟩
        case measure => simp [intOf]; omega
      · rw [hf, Int.zero_add] at hu
        have HU2 := Lib.hid hu
        have q1 : ((m : Int) == 1) = false := beq_eq_false_iff_ne.2 (by omega)
        have q2 : ((m : Int) == 7) = false := beq_eq_false_iff_ne.2 (by omega)
        have q3 : ((m : Int) == 8) = false := beq_eq_false_iff_ne.2 (by omega)
        have q4 : ((m : Int) == 17) = false := beq_eq_false_iff_ne.2 (by omega)
        have q5 : ((m : Int) == 12) = false := beq_eq_false_iff_ne.2 (by omega)
        clear hn hkn hu hk hc0 hc1 hf
        go_wp2_with fail
        refine (KP _).mono ?_
        rintro x w1 ⟨rfl, rfl⟩
        clear KP
        go_wp2_with fail
        go_roundw
        case rel => exact ⟨n, _, c, rfl, rfl, p1, by have := HKN.out; omega, by have := HN.out; omega, by have := HC.out; omega, by have := HC.out; omega, HU2.out, by first | rfl | trivial⟩
        case measure => simp [intOf]; omega
end Go.Proofs.YtikmebkfdpbidaaGreatDoor
namespace Go.Proofs.YtikmebkfdpbidaaGreatDoor
open Go.RowKit
set_option linter.unusedVariables false

def Co.names : Array Value := #[.string ⟨#[99, 111, 110, 100, 105, 116, 105, 111, 110]⟩, .string ⟨#[109, 101, 115, 115, 97, 103, 101]⟩, .string ⟨#[119, 97, 114, 110, 105, 110, 103]⟩, .string ⟨#[115, 101, 114, 105, 111, 117, 115]⟩, .string ⟨#[101, 114, 114, 111, 114]⟩, .string ⟨#[118, 105, 111, 108, 97, 116, 105, 111, 110]⟩, .string ⟨#[97, 115, 115, 101, 114, 116, 105, 111, 110]⟩, .string ⟨#[105, 114, 114, 105, 116, 97, 110, 116, 115]⟩, .string ⟨#[119, 104, 111]⟩, .string ⟨#[110, 111, 110, 45, 99, 111, 110, 116, 105, 110, 117, 97, 98, 108, 101]⟩, .string ⟨#[105, 109, 112, 108, 101, 109, 101, 110, 116, 97, 116, 105, 111, 110, 45, 114, 101, 115, 116, 114, 105, 99, 116, 105, 111, 110]⟩, .string ⟨#[108, 101, 120, 105, 99, 97, 108]⟩, .string ⟨#[115, 121, 110, 116, 97, 120]⟩, .string ⟨#[117, 110, 100, 101, 102, 105, 110, 101, 100]⟩, .string ⟨#[105, 47, 111]⟩, .string ⟨#[105, 47, 111, 45, 114, 101, 97, 100]⟩, .string ⟨#[105, 47, 111, 45, 119, 114, 105, 116, 101]⟩, .string ⟨#[105, 47, 111, 45, 102, 105, 108, 101, 110, 97, 109, 101]⟩, .string ⟨#[105, 47, 111, 45, 102, 105, 108, 101, 45, 100, 111, 101, 115, 45, 110, 111, 116, 45, 101, 120, 105, 115, 116]⟩, .string ⟨#[105, 47, 111, 45, 102, 105, 108, 101, 45, 97, 108, 114, 101, 97, 100, 121, 45, 101, 120, 105, 115, 116, 115]⟩]
theorem Co.names_at : ∀ k, k < 20 → Co.names[k]? = some (.string (Co.nm k)) := by
  intro k hk
  rcases (show k = 0 ∨ k = 1 ∨ k = 2 ∨ k = 3 ∨ k = 4 ∨ k = 5 ∨ k = 6 ∨ k = 7 ∨ k = 8 ∨ k = 9 ∨ k = 10 ∨ k = 11 ∨ k = 12 ∨ k = 13 ∨ k = 14 ∨ k = 15 ∨ k = 16 ∨ k = 17 ∨ k = 18 ∨ k = 19 by omega) with rfl | rfl | rfl | rfl | rfl | rfl | rfl | rfl | rfl | rfl | rfl | rfl | rfl | rfl | rfl | rfl | rfl | rfl | rfl | rfl
  all_goals rfl
set_option maxHeartbeats 4000000 in
set_option maxRecDepth 1000000 in
theorem Co.refName_any (t : Int) (w : World) : Calls Tryz.prog 57 #[.int .i64 t] w fun e w' => e = .returned (.string (if Co.thr t then Co.nm t.toNat else ⟨#[]⟩)) ∧ Below w.heap.size w w' := by
  have hw : ∀ w : World, (w.alloc (.cells Co.names 9)).heap[w.heap.size]? = some (.cells Co.names 9 (0, 0)) := fun w => heap_alloc_new _ _
  have hc : ∀ k, k < 20 → (w.alloc (.cells Co.names 9)).cell? ⟨w.heap.size, k, none⟩ = some (.string (Co.nm k)) := fun k hk => (Co.cell_of (hw w) k).trans (Co.names_at k hk)
  have HB : ∀ o, Below w.heap.size w (w.alloc o) := fun o => (Below.refl _ _).alloc (Nat.le_refl _) o
  unfold Co.names at hc
  by_cases h : 0 ≤ t ∧ t < 20
  · have e : Co.thr t = true := decide_eq_true h
    rw [e, if_pos rfl]
    obtain ⟨k, rfl⟩ : ∃ k : Nat, t = k := ⟨t.toNat, by omega⟩
    rw [Int.toNat_natCast]
    have c0 := hc k (by omega)
    have h0 : ¬ ((k : Int) < 0) := by omega
    have h1 : ¬ ((k : Int) ≥ 20) := by omega
    clear hc hw e h
    generalize Co.nm k = n at *
    go_enter Tryz.func57, Tryz.ntmps57
    go_wp2
    go_ret
    exact ⟨rfl, HB _⟩
  · have e : Co.thr t = false := decide_eq_false h
    rw [e, if_neg (by decide)]
    clear hc hw
    rcases (show t < 0 ∨ t ≥ 20 by omega) with ht | ht
    all_goals
      go_enter Tryz.func57, Tryz.ntmps57
      go_wp2
      go_ret
      exact ⟨rfl, HB _⟩

set_option maxHeartbeats 4000000 in
set_option maxRecDepth 1000000 in
theorem Co.refParent_in (k : Nat) (hk : k < 20) (w : World) : Calls Tryz.prog 91 #[.int .i64 k] w fun e w' => e = .returned (.int .i64 (Co.par k)) ∧ Below w.heap.size w w' := by
  rcases (show k = 0 ∨ k = 1 ∨ k = 2 ∨ k = 3 ∨ k = 4 ∨ k = 5 ∨ k = 6 ∨ k = 7 ∨ k = 8 ∨ k = 9 ∨ k = 10 ∨ k = 11 ∨ k = 12 ∨ k = 13 ∨ k = 14 ∨ k = 15 ∨ k = 16 ∨ k = 17 ∨ k = 18 ∨ k = 19 by omega) with rfl | rfl | rfl | rfl | rfl | rfl | rfl | rfl | rfl | rfl | rfl | rfl | rfl | rfl | rfl | rfl | rfl | rfl | rfl | rfl
  all_goals
    go_enter Tryz.func91, Tryz.ntmps91
    go_wp2
    go_ret
    exact ⟨rfl, Below.refl _ _⟩

set_option maxHeartbeats 4000000 in
set_option maxRecDepth 1000000 in
theorem Co.refUnder_in (t : Nat) (ht : t < 20) (of : Int) (hof : 0 ≤ of) (w : World) : Calls Tryz.prog 89 #[.int .i64 t, .int .i64 of] w fun e w' => e = .returned (.bool (Co.under t of)) ∧ Below w.heap.size w w' := by
  have hU : ∃ U, Co.und 20 t of = U := ⟨_, rfl⟩
  obtain ⟨U, hU⟩ := hU
  unfold Co.under
  rw [hU]
  go_enter Tryz.func89, Tryz.ntmps89
  go_wp2_with fail
  go_loopw [0] (fun i wr => ∃ (n : Nat) (k : Int), i = .int .i64 k ∧ -1 ≤ k ∧ k < n ∧ n ≤ 20 ∧ Co.und n k of = U ∧ Below w.heap.size w wr) (fun i _ => (intOf i + 1).toNat)
  case atStart => exact ⟨20, t, rfl, by omega, by omega, Nat.le_refl _, hU, Below.refl _ _⟩
  case round =>
    obtain ⟨n, k, rfl, hk, hkn, hn, hu, hb⟩ := hrel
    have HB := Lib.hid hb
    clear hb
    by_cases h1 : k < 0
    · rw [Co.und_stop _ _ _ (.inl h1), beq_eq_false_iff_ne.2 (by omega)] at hu
      have h2 : ¬ (k ≥ 0) := by omega
      subst hu
      go_wp2_with fail
      go_ret
      exact ⟨rfl, HB.out⟩
    · by_cases h2 : k = of
      · rw [Co.und_stop _ _ _ (.inr h2)] at hu
        have h3 : k ≥ 0 := by omega
        subst h2
        go_wp2_with fail
        go_ret
        refine ⟨?_, HB.out⟩
        rw [← hu]
        first | rfl | simp
      · obtain ⟨m, rfl⟩ : ∃ m : Nat, k = m := ⟨k.toNat, by omega⟩
        obtain ⟨n, rfl⟩ : ∃ q : Nat, n = q + 1 := ⟨n - 1, by omega⟩
        rw [Co.und_step _ _ _ (by omega), Int.toNat_natCast] at hu
        obtain ⟨p1, p2⟩ := Co.par_lt m (by omega)
        have KP := fun w => Co.refParent_in m (by omega) w
        have h3 : (m : Int) ≥ 0 := by omega
        have HN := Lib.hid hn
        have HKN := Lib.hid hkn
        have HU := Lib.hid hu
        clear hn hkn hu hk
        go_wp2_with fail
        refine (KP _).mono ?_
        rintro x w1 ⟨rfl, hb1⟩
        have HB1 := Lib.hid (HB.out.trans (hb1.mono HB.out.size))
        clear hb1 KP
        go_wp2_with fail
        go_roundw
        case rel => exact ⟨n, Co.par m, rfl, p1, by have := HKN.out; omega, by have := HN.out; omega, HU.out, HB1.out⟩
        case measure => simp [intOf]; omega
end Go.Proofs.YtikmebkfdpbidaaGreatDoor
namespace Go.Proofs.YtikmebkfdpbidaaGreatDoor.Ru
open Go.Lib

/-- Is it a character's number? -/
def okR (r : Int) : Prop := (0 ≤ r ∧ r < 55296) ∨ (57344 ≤ r ∧ r ≤ 1114111)
instance (r : Int) : Decidable (okR r) := by unfold okR; infer_instance

def unitsF : Nat → List UInt8 → List (Nat × Nat)
  | 0, _ => []
  | f + 1, l => if l = [] then [] else decodeL l :: unitsF f (l.drop (decodeL l).2)
/-- The characters of a text, each with its width (a bad byte: U+FFFD, 1). -/
def units (l : List UInt8) : List (Nat × Nat) := unitsF l.length l
def runes (l : List UInt8) : List Int := (units l).map fun u => (u.1 : Int)

theorem width_pos (l : List UInt8) (_h : l ≠ []) : 1 ≤ (decodeL l).2 := decodeL_width l
theorem width_le (l : List UInt8) (h : l ≠ []) : (decodeL l).2 ≤ l.length := decodeL_le l h

theorem unitsF_enough : ∀ (f g : Nat) (l : List UInt8), l.length ≤ f → l.length ≤ g → unitsF f l = unitsF g l
  | 0, g, l, h, _ => by
    have : l = [] := List.length_eq_zero_iff.1 (by omega)
    subst this
    cases g <;> simp [unitsF]
  | f + 1, 0, l, _, h => by
    have : l = [] := List.length_eq_zero_iff.1 (by omega)
    subst this
    simp [unitsF]
  | f + 1, g + 1, l, h1, h2 => by
    unfold unitsF
    by_cases hl : l = []
    · simp [hl]
    · rw [if_neg hl, if_neg hl]
      have := width_pos l hl
      rw [unitsF_enough f g (l.drop (decodeL l).2) (by simp; omega) (by simp; omega)]

theorem units_nil : units [] = [] := rfl
theorem units_step (l : List UInt8) (h : l ≠ []) : units l = decodeL l :: units (l.drop (decodeL l).2) := by
  have hl : 0 < l.length := List.length_pos_iff.2 h
  unfold units
  obtain ⟨n, hn⟩ : ∃ n, l.length = n + 1 := ⟨l.length - 1, by omega⟩
  rw [hn]
  show (if l = [] then [] else _) = _
  rw [if_neg h]
  have := width_pos l h
  rw [unitsF_enough n (l.drop (decodeL l).2).length _ (by simp; omega) (by simp)]
theorem runes_nil : runes [] = [] := rfl
theorem runes_step (l : List UInt8) (h : l ≠ []) : runes l = ((decodeL l).1 : Int) :: runes (l.drop (decodeL l).2) := by
  unfold runes; rw [units_step l h]; rfl

theorem decode_ok (l : List UInt8) (_hne : l ≠ []) : okR ((decodeL l).1 : Int) := by
  unfold okR
  rw [decodeL_N]
  have k0 := (l.getD 0 0).toNat_lt
  have k1 := (l.getD 1 0).toNat_lt
  have k2 := (l.getD 2 0).toNat_lt
  have k3 := (l.getD 3 0).toNat_lt
  rcases decodeN_shape l.length (l.getD 0 0).toNat (l.getD 1 0).toNat (l.getD 2 0).toNat (l.getD 3 0).toNat with ⟨c, e⟩ | ⟨c1, c2, c3, cv, e⟩ | ⟨c1, c2, c3, c4, cv, cs, e⟩ | ⟨c1, c2, c3, c4, c5, cv, cw, e⟩ | e <;> rw [e] <;> simp only [] <;> omega

theorem runes_ok : ∀ (f : Nat) (l : List UInt8), l.length ≤ f → ∀ r ∈ runes l, okR r
  | 0, l, h, r, hr => by
    have : l = [] := List.length_eq_zero_iff.1 (by omega)
    subst this
    cases hr
  | f + 1, l, h, r, hr => by
    by_cases hl : l = []
    · subst hl; cases hr
    · rw [runes_step l hl] at hr
      have := width_pos l hl
      rcases List.mem_cons.1 hr with rfl | hr
      · exact decode_ok l hl
      · exact runes_ok f _ (by simp; omega) r hr
theorem runes_okR (l : List UInt8) : ∀ r ∈ runes l, okR r := runes_ok l.length l (Nat.le_refl _)

/-- A bad number is encoded as U+FFFD is. -/
theorem encode_bad {r : Int} (h : ¬ okR r) : encodeRune r = encodeRune 65533 := by
  unfold okR at h
  unfold encodeRune
  rw [encodeRuneZ_bad (by omega), encodeRuneZ_three (r := 65533) (by omega)]
  rfl

def encs (rs : List Int) : List UInt8 := rs.flatMap encodeRune
theorem encs_nil : encs [] = [] := rfl
theorem encs_cons (r : Int) (rs : List Int) : encs (r :: rs) = encodeRune r ++ encs rs := by simp [encs]
theorem encs_append (a b : List Int) : encs (a ++ b) = encs a ++ encs b := by simp [encs]
theorem encode_ne (r : Int) : encodeRune r ≠ [] := by
  have := (encodeRuneZ_length r).1
  intro h
  have h2 := congrArg List.length h
  simp [encodeRune] at h2
  rw [h2] at this
  simp at this
theorem encode_length (r : Int) : 1 ≤ (encodeRune r).length ∧ (encodeRune r).length ≤ 4 := by
  have := encodeRuneZ_length r
  simpa [encodeRune] using this

theorem byteNat (z : Int) (_h0 : 0 ≤ z) (h1 : z < 256) : (z.toNat.toUInt8).toNat = z.toNat := by
  simp
  omega

set_option maxHeartbeats 1000000 in
/-- THE ENCODING OF A CHARACTER IS READ AS THAT CHARACTER, whatever stands behind it. -/
theorem decode_encode (r : Int) (h : okR r) (t : List UInt8) : decodeL (encodeRune r ++ t) = (r.toNat, (encodeRune r).length) := by
  unfold okR at h
  rw [decodeL_N]
  unfold encodeRune
  by_cases c1 : r ≤ 127
  · rw [encodeRuneZ_one (by omega) c1]
    have e0 := byteNat r (by omega) (by omega)
    simp only [List.map_cons, List.map_nil, List.cons_append, List.nil_append, List.getD_cons_zero, e0, List.length_cons, List.length_nil]
    unfold decodeN
    rw [if_pos (by omega)]
  by_cases c2 : r ≤ 2047
  · rw [encodeRuneZ_two (by omega) c2]
    have e0 := byteNat (192 + r / 64) (by omega) (by omega)
    have e1 := byteNat (128 + r % 64) (by omega) (by omega)
    simp only [List.map_cons, List.map_nil, List.cons_append, List.nil_append, List.getD_cons_zero, List.getD_cons_succ, e0, e1, List.length_cons, List.length_nil]
    unfold decodeN
    rw [if_neg (by omega), if_pos (by omega), if_pos (by omega)]
    refine Prod.ext ?_ rfl
    simp only []
    omega
  by_cases c3 : r ≤ 65535
  · rw [encodeRuneZ_three (by omega)]
    have e0 := byteNat (224 + r / 4096) (by omega) (by omega)
    have e1 := byteNat (128 + r / 64 % 64) (by omega) (by omega)
    have e2 := byteNat (128 + r % 64) (by omega) (by omega)
    simp only [List.map_cons, List.map_nil, List.cons_append, List.nil_append, List.getD_cons_zero, List.getD_cons_succ, e0, e1, e2, List.length_cons, List.length_nil]
    unfold decodeN
    rw [if_neg (by omega), if_neg (by omega), if_pos (by omega), if_pos (by omega)]
    refine Prod.ext ?_ rfl
    simp only []
    omega
  · rw [encodeRuneZ_four (by omega) (by omega)]
    have e0 := byteNat (240 + r / 262144) (by omega) (by omega)
    have e1 := byteNat (128 + r / 4096 % 64) (by omega) (by omega)
    have e2 := byteNat (128 + r / 64 % 64) (by omega) (by omega)
    have e3 := byteNat (128 + r % 64) (by omega) (by omega)
    simp only [List.map_cons, List.map_nil, List.cons_append, List.nil_append, List.getD_cons_zero, List.getD_cons_succ, e0, e1, e2, e3, List.length_cons, List.length_nil]
    unfold decodeN
    rw [if_neg (by omega), if_neg (by omega), if_neg (by omega), if_pos (by omega), if_pos (by omega)]
    refine Prod.ext ?_ rfl
    simp only []
    omega

theorem runes_encode (r : Int) (h : okR r) (t : List UInt8) : runes (encodeRune r ++ t) = r :: runes t := by
  rw [runes_step _ (by simp [encode_ne]), decode_encode r h t]
  simp only [List.drop_left]
  have : ((r.toNat : Nat) : Int) = r := by unfold okR at h; omega
  rw [this]
/-- Encoded characters, and what stands behind, are read as those characters and what stands behind. -/
theorem runes_encs : ∀ (rs : List Int) (t : List UInt8), (∀ r ∈ rs, okR r) → runes (encs rs ++ t) = rs ++ runes t
  | [], t, _ => rfl
  | r :: rs, t, h => by
    rw [encs_cons, List.append_assoc, runes_encode r (h r (by simp)), runes_encs rs t (fun x hx => h x (by simp [hx]))]
    rfl
theorem runes_of_encs (rs : List Int) (h : ∀ r ∈ rs, okR r) : runes (encs rs) = rs := by
  have := runes_encs rs [] h
  simpa [runes_nil] using this

/-- The model's decoding at a place is the list's. -/
theorem decode_drop (s : ByteArray) (pos : Nat) : Utf8.decode s pos = decodeL (s.data.toList.drop pos) := (decodeL_drop s pos).symm

/-- A text, character for character. -/
def mapT (F : Int → List Int) (l : List UInt8) : List UInt8 := encs ((runes l).flatMap F)
theorem mapT_nil (F : Int → List Int) : mapT F [] = [] := rfl
theorem mapT_step (F : Int → List Int) (l : List UInt8) (h : l ≠ []) : mapT F l = encs (F ((decodeL l).1 : Int)) ++ mapT F (l.drop (decodeL l).2) := by
  unfold mapT
  rw [runes_step l h, List.flatMap_cons, encs_append]
theorem mapT_at (F : Int → List Int) (s : ByteArray) (pos : Nat) (h : pos < s.size) :
    mapT F (s.data.toList.drop pos) = encs (F ((Utf8.decode s pos).1 : Int)) ++ mapT F (s.data.toList.drop (pos + (Utf8.decode s pos).2)) := by
  have hs : s.data.toList.length = s.size := by simp
  rw [mapT_step F _ (by intro h2; have := congrArg List.length h2; simp at this; omega), decode_drop, List.drop_drop]
theorem mapT_end (F : Int → List Int) (s : ByteArray) (pos : Nat) (h : ¬ pos < s.size) : mapT F (s.data.toList.drop pos) = [] := by
  have hs : s.data.toList.length = s.size := by simp
  rw [List.drop_eq_nil_of_le (by omega)]
  rfl
end Go.Proofs.YtikmebkfdpbidaaGreatDoor.Ru
namespace Go.Proofs.YtikmebkfdpbidaaGreatDoor
open Go.RowKit

def Cd.byt (s : ByteArray) (i : Nat) : Int := (s.get! i).toNat
theorem Cd.byt_bd (s : ByteArray) (i : Nat) : 0 ≤ Cd.byt s i ∧ Cd.byt s i < 256 := by
  unfold Cd.byt
  have := (s.get! i).toNat_lt
  omega
/-- The number of two bytes at i; -1: there is none. -/
def Cd.num (s : ByteArray) (low i : Nat) : Int := if i + 2 > s.size then -1 else Cd.byt s (i + low) * 256 + Cd.byt s (i + 1 - low)
theorem Cd.num_bd (s : ByteArray) (low i : Nat) : -1 ≤ Cd.num s low i ∧ Cd.num s low i ≤ 65535 := by
  have h1 := Cd.byt_bd s (i + low)
  have h2 := Cd.byt_bd s (i + 1 - low)
  unfold Cd.num
  split <;> omega

/-- A unit: the character, whether it is one, where it begins. -/
abbrev Cd.U := Int × Bool × Int

def Cd.xsS (m r : Int) (ok : Bool) (xs : List Int) : List Int := if ok then xs ++ [r] else if m = 0 then xs else if m = 1 then xs ++ [65533] else xs
def Cd.atS (m p : Int) (ok : Bool) (a : Int) : Int := if ok then a else if m = 0 then p else a
def Cd.erS (m : Int) (ok : Bool) (e : Int) : Int := if ok then e else if m = 0 then 6 else e
def Cd.goS (m : Int) (ok : Bool) : Bool := ok || decide (m ≠ 0)
theorem Cd.xsS_len (m r : Int) (ok : Bool) (xs : List Int) : (Cd.xsS m r ok xs).length ≤ xs.length + 1 := by
  unfold Cd.xsS
  repeat' split
  all_goals simp

def Cd.feed (m : Int) : List Cd.U → List Int → Int → Int → List Int × Int × Int
  | [], xs, a, e => (xs, a, e)
  | (r, ok, p) :: us, xs, a, e => if Cd.goS m ok then Cd.feed m us (Cd.xsS m r ok xs) (Cd.atS m p ok a) (Cd.erS m ok e) else (Cd.xsS m r ok xs, Cd.atS m p ok a, Cd.erS m ok e)

def Cd.pair (r q : Int) : Prop := 55296 ≤ r ∧ r ≤ 56319 ∧ 56320 ≤ q ∧ q ≤ 57343
instance (r q : Int) : Decidable (Cd.pair r q) := by unfold Cd.pair; infer_instance
def Cd.plainR (r : Int) : Bool := decide (0 ≤ r ∧ (r < 55296 ∨ 57343 < r))

def Cd.wideU (s : ByteArray) (low at_ : Nat) : List Cd.U :=
  if _h : at_ < s.size then
    if Cd.pair (Cd.num s low at_) (Cd.num s low (at_ + 2)) then ((Cd.num s low at_ - 55296) * 1024 + Cd.num s low (at_ + 2) - 56320 + 65536, true, (at_ : Int)) :: Cd.wideU s low (at_ + 2 + 2)
    else (Cd.num s low at_, Cd.plainR (Cd.num s low at_), (at_ : Int)) :: Cd.wideU s low (at_ + 2)
  else []
termination_by s.size - at_

def Cd.latinU (s : ByteArray) (at_ : Nat) : List Cd.U :=
  if _h : at_ < s.size then (Cd.byt s at_, true, (at_ : Int)) :: Cd.latinU s (at_ + 1) else []
termination_by s.size - at_

def Cd.utf8U (s : ByteArray) (at_ : Nat) : List Cd.U :=
  if _h : at_ < s.size then (((Utf8.decode s at_).1 : Int), decide ((Utf8.decode s at_).1 ≠ 65533 ∨ 1 < (Utf8.decode s at_).2), (at_ : Int)) :: Cd.utf8U s (at_ + (Utf8.decode s at_).2) else []
termination_by s.size - at_
decreasing_by
  have := Lib.decode_width_pos s at_ _h
  omega

theorem Cd.wideU_pair (s : ByteArray) (low at_ : Nat) (h : at_ < s.size) (hp : Cd.pair (Cd.num s low at_) (Cd.num s low (at_ + 2))) :
    Cd.wideU s low at_ = ((Cd.num s low at_ - 55296) * 1024 + Cd.num s low (at_ + 2) - 56320 + 65536, true, (at_ : Int)) :: Cd.wideU s low (at_ + 2 + 2) := by
  rw [Cd.wideU, dif_pos h, if_pos hp]
theorem Cd.wideU_one (s : ByteArray) (low at_ : Nat) (h : at_ < s.size) (hp : ¬ Cd.pair (Cd.num s low at_) (Cd.num s low (at_ + 2))) :
    Cd.wideU s low at_ = (Cd.num s low at_, Cd.plainR (Cd.num s low at_), (at_ : Int)) :: Cd.wideU s low (at_ + 2) := by
  rw [Cd.wideU, dif_pos h, if_neg hp]
theorem Cd.wideU_end (s : ByteArray) (low at_ : Nat) (h : ¬ at_ < s.size) : Cd.wideU s low at_ = [] := by
  rw [Cd.wideU, dif_neg h]
theorem Cd.latinU_one (s : ByteArray) (at_ : Nat) (h : at_ < s.size) : Cd.latinU s at_ = (Cd.byt s at_, true, (at_ : Int)) :: Cd.latinU s (at_ + 1) := by
  rw [Cd.latinU, dif_pos h]
theorem Cd.latinU_end (s : ByteArray) (at_ : Nat) (h : ¬ at_ < s.size) : Cd.latinU s at_ = [] := by
  rw [Cd.latinU, dif_neg h]
theorem Cd.utf8U_one (s : ByteArray) (at_ : Nat) (h : at_ < s.size) :
    Cd.utf8U s at_ = (((Utf8.decode s at_).1 : Int), decide ((Utf8.decode s at_).1 ≠ 65533 ∨ 1 < (Utf8.decode s at_).2), (at_ : Int)) :: Cd.utf8U s (at_ + (Utf8.decode s at_).2) := by
  rw [Cd.utf8U, dif_pos h]
theorem Cd.utf8U_end (s : ByteArray) (at_ : Nat) (h : ¬ at_ < s.size) : Cd.utf8U s at_ = [] := by
  rw [Cd.utf8U, dif_neg h]

/-- Where UTF-16 begins, and whether its low byte comes first. -/
def Cd.bom (s : ByteArray) : Nat × Nat :=
  if 2 ≤ s.size ∧ Cd.byt s 0 = 254 ∧ Cd.byt s 1 = 255 then (2, 0) else if 2 ≤ s.size ∧ Cd.byt s 0 = 255 ∧ Cd.byt s 1 = 254 then (2, 1) else (0, 0)
theorem Cd.bom_split (s : ByteArray) : (2 ≤ s.size ∧ Cd.byt s 0 = 254 ∧ Cd.byt s 1 = 255 ∧ Cd.bom s = (2, 0)) ∨ (2 ≤ s.size ∧ Cd.byt s 0 = 255 ∧ Cd.byt s 1 = 254 ∧ Cd.bom s = (2, 1)) ∨
    ((s.size < 2 ∨ ¬ (Cd.byt s 0 = 254 ∧ Cd.byt s 1 = 255 ∨ Cd.byt s 0 = 255 ∧ Cd.byt s 1 = 254)) ∧ Cd.bom s = (0, 0)) := by
  unfold Cd.bom
  by_cases h : 2 ≤ s.size ∧ Cd.byt s 0 = 254 ∧ Cd.byt s 1 = 255
  · exact .inl ⟨h.1, h.2.1, h.2.2, if_pos h⟩
  by_cases h2 : 2 ≤ s.size ∧ Cd.byt s 0 = 255 ∧ Cd.byt s 1 = 254
  · exact .inr (.inl ⟨h2.1, h2.2.1, h2.2.2, by rw [if_neg h, if_pos h2]⟩)
  · exact .inr (.inr ⟨by omega, by rw [if_neg h, if_neg h2]⟩)

def Cd.unitsU (c : Int) (s : ByteArray) : List Cd.U := if c = 1 then Cd.utf8U s 0 else if c = 2 then Cd.latinU s 0 else Cd.wideU s (Cd.bom s).2 (Cd.bom s).1
end Go.Proofs.YtikmebkfdpbidaaGreatDoor
namespace Go.Proofs.YtikmebkfdpbidaaGreatDoor
open Go.RowKit

/-- A unit of the reference: the character (0: none), whether there is none, where it begins. -/
def Cd.refU (u : Cd.U) : Int × Bool × Int := if u.2.1 then (u.1, false, u.2.2) else (0, true, u.2.2)
def Cd.cellsU (us : List (Int × Bool × Int)) : List Value := us.flatMap fun u => [.int .i32 u.1, .bool u.2.1, .int .i64 u.2.2]
theorem Cd.cellsU_append (a b : List (Int × Bool × Int)) : Cd.cellsU (a ++ b) = Cd.cellsU a ++ Cd.cellsU b := by simp [Cd.cellsU]
theorem Cd.cellsU_len (a : List (Int × Bool × Int)) : (Cd.cellsU a).length = a.length * 3 := by
  induction a with
  | nil => rfl
  | cons u t ih => simp only [Cd.cellsU, List.flatMap_cons, List.length_append, List.length_cons, List.length_nil] at *; omega

theorem Cd.and31 (x : Int) (h0 : 0 ≤ x) (h1 : x < 256) : bits .and .u8 x 31 = x % 32 := bits_mask .u8 8 (by decide) wraps_u8 5 (by decide) x h0 h1
theorem Cd.and15 (x : Int) (h0 : 0 ≤ x) (h1 : x < 256) : bits .and .u8 x 15 = x % 16 := bits_mask .u8 8 (by decide) wraps_u8 4 (by decide) x h0 h1
theorem Cd.and7 (x : Int) (h0 : 0 ≤ x) (h1 : x < 256) : bits .and .u8 x 7 = x % 8 := bits_mask .u8 8 (by decide) wraps_u8 3 (by decide) x h0 h1
theorem Cd.and63 (x : Int) (h0 : 0 ≤ x) (h1 : x < 256) : bits .and .u8 x 63 = x % 64 := bits_mask .u8 8 (by decide) wraps_u8 6 (by decide) x h0 h1

theorem Cd.utf8U_at (s : ByteArray) (k : Nat) (h : k < s.size) (V W : Nat) (hd : Lib.decodeN (s.size - k) (s.get! k).toNat (s.get! (k + 1)).toNat (s.get! (k + 2)).toNat (s.get! (k + 3)).toNat = (V, W)) (F : Bool) (hF : F = !decide (V ≠ 65533 ∨ 1 < W)) :
    (Cd.utf8U s k).map Cd.refU = (if F then ((0 : Int), true, (k : Int)) else ((V : Int), false, (k : Int))) :: (Cd.utf8U s (k + W)).map Cd.refU := by
  have e := Lib.decode_at s k
  rw [hd] at e
  rw [Cd.utf8U_one s k h, e, List.map_cons]
  subst hF
  unfold Cd.refU
  by_cases hc : V ≠ 65533 ∨ 1 < W <;> simp [hc]
end Go.Proofs.YtikmebkfdpbidaaGreatDoor
namespace Go.Proofs.YtikmebkfdpbidaaGreatDoor.Sl
open Go.RowKit

theorem addr_add (b off j : Nat) : (⟨b, off, none⟩ : Addr).add j = ⟨b, off + j, none⟩ := by
  unfold Addr.add
  split <;> simp_all

/-- The slice value v can be read as the integers xs. -/
def IntsAt (k : IntKind) (w : World) (v : Value) (xs : List Int) : Prop :=
  (v = .slice none 0 0 ∧ xs = []) ∨ ∃ b off cap, v = .slice (some ⟨b, off, none⟩) xs.length cap ∧ b < w.heap.size ∧ ∀ i, i < xs.length → w.cell? ⟨b, off + i, none⟩ = some (.int k (xs.getD i 0))

theorem IntsAt.below {k : IntKind} {w w' : World} {v : Value} {xs : List Int} {B : Nat} (h : IntsAt k w v xs) (hb : Below B w w') (hB : w.heap.size ≤ B) : IntsAt k w' v xs := by
  rcases h with h | ⟨b, off, cap, hv, hlt, hc⟩
  · exact .inl h
  · refine .inr ⟨b, off, cap, hv, by have := hb.size; omega, fun i hi => ?_⟩
    rw [hb.cell (p := ⟨b, off + i, none⟩) (by show b < B; omega)]
    exact hc i hi
theorem IntsAt.alloc {k : IntKind} {w : World} {v : Value} {xs : List Int} (h : IntsAt k w v xs) (o : Obj) : IntsAt k (w.alloc o) v xs :=
  h.below ((Below.refl w.heap.size w).alloc (Nat.le_refl _) o) (Nat.le_refl _)

theorem IntsAt.of_own {k : IntKind} {w : World} {B : Nat} {t : TypeId} {v : Value} {xs : List Int} (h : w.ownsRow B t 1 v xs.length (xs.map (Value.int k))) : IntsAt k w v xs := by
  rcases h.2 with ⟨hv, h0⟩ | ⟨g, cap, cur, hv, hB, hg, hn, hm, hs, ht⟩
  · exact .inl ⟨hv, List.length_eq_zero_iff.1 h0⟩
  · refine .inr ⟨g, 0, cap, hv, (Array.getElem?_eq_some_iff.1 hg).1, fun i hi => ?_⟩
    have := h.cells (g := g) (by rw [hv]; rfl) i (.int k (xs.getD i 0)) (by simp [hi])
    rw [← this, addr_add]

theorem own_below {w w' : World} {B B2 : Nat} {t : TypeId} {v : Value} {n : Nat} {xs : List Value} (h : w.ownsRow B t 1 v n xs) (hb : Below B2 w w') (hB : w.heap.size ≤ B2) : w'.ownsRow B t 1 v n xs := by
  refine ⟨h.1, ?_⟩
  rcases h.2 with hv | ⟨g, cap, cur, hv, hB', hg, rest⟩
  · exact .inl hv
  · have hlt := (Array.getElem?_eq_some_iff.1 hg).1
    exact .inr ⟨g, cap, cur, hv, hB', by rw [hb.block g (by omega)]; exact hg, rest⟩

/-- What is owned stays owned while an iterator of a text moves on. -/
theorem own_iterAt {w : World} {B : Nat} {t : TypeId} {v : Value} {n : Nat} {xs : List Value} (h : w.ownsRow B t 1 v n xs) {k : Nat} {s : ByteArray} {pos : Nat} (hk : w.heap[k]? = some (.stringIter s pos)) (pos' : Nat) : (w.iterAt k s pos').ownsRow B t 1 v n xs := by
  refine ⟨h.1, ?_⟩
  rcases h.2 with hv | ⟨g, cap, cur, hv, hB', hg, rest⟩
  · exact .inl hv
  · refine .inr ⟨g, cap, cur, hv, hB', ?_, rest⟩
    rw [Lib.iterAt_other]
    · exact hg
    · intro e
      rw [e, hk] at hg
      cases hg

/-- An iterator stands where it stood behind a write to a row that is owned. -/
theorem iter_grown {w w' : World} {B : Nat} {t : TypeId} {v : Value} {n : Nat} {xs : List Value} (h : w.ownsRow B t 1 v n xs) (hg : w.grownBy w' v.ownBlock) {k : Nat} {s : ByteArray} {pos : Nat} (hk : w.heap[k]? = some (.stringIter s pos)) : w'.heap[k]? = some (.stringIter s pos) := by
  have hlt := (Array.getElem?_eq_some_iff.1 hk).1
  rw [hg.block k hlt ?_]
  · exact hk
  · intro hc
    rcases h.2 with ⟨hv, _⟩ | ⟨g, cap, cur, hv, _, hgg, _⟩
    · rw [hv] at hc; cases hc
    · rw [hv] at hc
      simp [Value.ownBlock] at hc
      subst hc
      rw [hk] at hgg
      cases hgg

theorem own_empty (w : World) (t : TypeId) : (w.alloc (.cells #[] t)).ownsRow w.heap.size t 1 (.slice (some ⟨w.heap.size, 0, none⟩) 0 0) 0 [] :=
  ⟨by simp, .inr ⟨w.heap.size, 0, #[], rfl, Nat.le_refl _, heap_alloc_new w _, Nat.le_refl _, Nat.zero_le _, by simp, by simp⟩⟩
theorem below_own {B B2 : Nat} {w wr w' : World} {t : TypeId} {v : Value} {n : Nat} {xs : List Value} (hb : Below B w wr) (ho : wr.ownsRow B2 t 1 v n xs) (hg : wr.grownBy w' v.ownBlock) (h2 : B ≤ B2) (h3 : B2 ≤ wr.heap.size) : Below B w w' :=
  hb.grown hg (by omega) (fun k hk => by have := (ho.lt k hk).1; omega)

theorem one_new (w : World) (v : Value) (t : TypeId) : ∀ (j : Nat) (u : Value), ([v] : List Value)[j]? = some u → (w.alloc (.cells #[v] t)).cell? ((⟨w.heap.size, 0, none⟩ : Addr).add j) = some u := by
  intro j u hj
  match j, hj with
  | 0, hj => simp at hj; subst hj; simp [Addr.add]
theorem two_new (w : World) (v x : Value) (t : TypeId) : ∀ (j : Nat) (u : Value), ([v, x] : List Value)[j]? = some u → (w.alloc (.cells #[v, x] t)).cell? ((⟨w.heap.size, 0, none⟩ : Addr).add j) = some u := by
  intro j u hj
  match j, hj with
  | 0, hj => simp at hj; subst hj; simp [Addr.add]
  | 1, hj => simp at hj; subst hj; simp [Addr.add]

theorem ub (n : Nat) (z : Int) (h : z.toNat = n) : UInt8.ofNat n = z.toNat.toUInt8 := by subst h; rfl
theorem encode_ok (n : Nat) (h : Ru.okR (n : Int)) : Utf8.encode (n : Int) = ⟨(Lib.encodeRune (n : Int)).toArray⟩ := by
  have hv : Utf8.valid (n : Int) = true := by
    unfold Ru.okR at h
    unfold Utf8.valid
    simp only [Bool.or_eq_true, Bool.and_eq_true, decide_eq_true_eq]
    omega
  unfold Utf8.encode Lib.encodeRune
  unfold Ru.okR at h
  simp only [hv, if_true, Int.toNat_natCast]
  by_cases c1 : n < 128
  · rw [if_pos c1, Lib.encodeRuneZ_one (by omega) (by omega), ub n (n : Int) (by omega)]
    rfl
  rw [if_neg c1]
  by_cases c2 : n < 2048
  · rw [if_pos c2, Lib.encodeRuneZ_two (by omega) (by omega), ub _ (192 + (n : Int) / 64) (by omega), ub _ (128 + (n : Int) % 64) (by omega)]
    rfl
  rw [if_neg c2]
  by_cases c3 : n < 65536
  · rw [if_pos c3, Lib.encodeRuneZ_three (by omega), ub _ (224 + (n : Int) / 4096) (by omega), ub _ (128 + (n : Int) / 64 % 64) (by omega), ub _ (128 + (n : Int) % 64) (by omega)]
    rfl
  rw [if_neg c3, Lib.encodeRuneZ_four (by omega) (by omega), ub _ (240 + (n : Int) / 262144) (by omega), ub _ (128 + (n : Int) / 4096 % 64) (by omega), ub _ (128 + (n : Int) / 64 % 64) (by omega), ub _ (128 + (n : Int) % 64) (by omega)]
  rfl
theorem encode_no (r : Int) (h : ¬ Ru.okR r) : Utf8.encode r = Utf8.encode 65533 := by
  have hv : Utf8.valid r = false := by
    unfold Ru.okR at h
    unfold Utf8.valid
    rw [Bool.eq_false_iff]
    simp only [ne_eq, Bool.or_eq_true, Bool.and_eq_true, decide_eq_true_eq]
    omega
  unfold Utf8.encode
  rw [hv]
  rfl
theorem encode_eq (r : Int) : Utf8.encode r = ⟨(Lib.encodeRune r).toArray⟩ := by
  by_cases h : Ru.okR r
  · obtain ⟨n, rfl⟩ := Int.eq_ofNat_of_zero_le (a := r) (by unfold Ru.okR at h; omega)
    exact encode_ok n h
  · rw [encode_no r h, Ru.encode_bad h]
    exact encode_ok 65533 (by unfold Ru.okR; omega)

theorem runesBytes_foldl : ∀ (rs : List Int) (a : ByteArray), rs.foldl (fun r n => r ++ Utf8.encode n) a = ⟨a.data ++ (Ru.encs rs).toArray⟩
  | [], a => by simp [Ru.encs]
  | r :: rs, a => by
    rw [List.foldl_cons, runesBytes_foldl rs, Ru.encs_cons, encode_eq]
    simp
theorem runesBytes_eq (rs : List Int) : runesBytes rs = ⟨(Ru.encs rs).toArray⟩ := by
  unfold runesBytes
  rw [runesBytes_foldl]
  simp

/-- 'string(rs)' of characters that can be read. -/
theorem run_string {P : Program} (w : World) (src dst e : TypeId) (v : Value) (rs : List Int) (hs : P.underlying src = some (.slice e)) (he : P.underlying e = some (.int .i32)) (hd : P.underlying dst = some .string) (h : IntsAt .i32 w v rs) :
    (convert src dst v).run P w = .ok (.string ⟨(Ru.encs rs).toArray⟩) w := by
  rcases h with ⟨rfl, rfl⟩ | ⟨b, off, cap, rfl, _, hc⟩
  · exact run_convert_runes_nil w src dst e 0 0 hs he hd
  · have := run_convert_runes w src dst e ⟨b, off, none⟩ rs.length cap rs (Nat.le_refl _) hs he hd (fun j hj => by
      rw [addr_add]
      exact hc j hj)
    rw [List.take_length, runesBytes_eq] at this
    exact this
end Go.Proofs.YtikmebkfdpbidaaGreatDoor.Sl
