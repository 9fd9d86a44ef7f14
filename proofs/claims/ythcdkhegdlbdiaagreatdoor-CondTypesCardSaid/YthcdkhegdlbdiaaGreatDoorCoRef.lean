/-
  sextantref16.Name, Parent, Under. No condition but the range of the numbers.
-/
import Derived.Test.YthcdkhegdlbdiaaGreatDoorCoFind
namespace Go.Proofs.YthcdkhegdlbdiaaGreatDoor
open Go.RowKit
set_option linter.unusedVariables false

def Co.names : Array Value := #[.string ⟨#[99, 111, 110, 100, 105, 116, 105, 111, 110]⟩, .string ⟨#[109, 101, 115, 115, 97, 103, 101]⟩, .string ⟨#[119, 97, 114, 110, 105, 110, 103]⟩, .string ⟨#[115, 101, 114, 105, 111, 117, 115]⟩, .string ⟨#[101, 114, 114, 111, 114]⟩, .string ⟨#[118, 105, 111, 108, 97, 116, 105, 111, 110]⟩, .string ⟨#[97, 115, 115, 101, 114, 116, 105, 111, 110]⟩, .string ⟨#[105, 114, 114, 105, 116, 97, 110, 116, 115]⟩, .string ⟨#[119, 104, 111]⟩, .string ⟨#[110, 111, 110, 45, 99, 111, 110, 116, 105, 110, 117, 97, 98, 108, 101]⟩, .string ⟨#[105, 109, 112, 108, 101, 109, 101, 110, 116, 97, 116, 105, 111, 110, 45, 114, 101, 115, 116, 114, 105, 99, 116, 105, 111, 110]⟩, .string ⟨#[108, 101, 120, 105, 99, 97, 108]⟩, .string ⟨#[115, 121, 110, 116, 97, 120]⟩, .string ⟨#[117, 110, 100, 101, 102, 105, 110, 101, 100]⟩, .string ⟨#[105, 47, 111]⟩, .string ⟨#[105, 47, 111, 45, 114, 101, 97, 100]⟩, .string ⟨#[105, 47, 111, 45, 119, 114, 105, 116, 101]⟩, .string ⟨#[105, 47, 111, 45, 102, 105, 108, 101, 110, 97, 109, 101]⟩, .string ⟨#[105, 47, 111, 45, 102, 105, 108, 101, 45, 100, 111, 101, 115, 45, 110, 111, 116, 45, 101, 120, 105, 115, 116]⟩, .string ⟨#[105, 47, 111, 45, 102, 105, 108, 101, 45, 97, 108, 114, 101, 97, 100, 121, 45, 101, 120, 105, 115, 116, 115]⟩]
theorem Co.names_at : ∀ k, k < 20 → Co.names[k]? = some (.string (Co.nm k)) := by
  intro k hk
  rcases (show k = 0 ∨ k = 1 ∨ k = 2 ∨ k = 3 ∨ k = 4 ∨ k = 5 ∨ k = 6 ∨ k = 7 ∨ k = 8 ∨ k = 9 ∨ k = 10 ∨ k = 11 ∨ k = 12 ∨ k = 13 ∨ k = 14 ∨ k = 15 ∨ k = 16 ∨ k = 17 ∨ k = 18 ∨ k = 19 by omega) with rfl | rfl | rfl | rfl | rfl | rfl | rfl | rfl | rfl | rfl | rfl | rfl | rfl | rfl | rfl | rfl | rfl | rfl | rfl | rfl
  all_goals rfl
set_option maxHeartbeats 4000000 in
set_option maxRecDepth 1000000 in
theorem Co.refName_any (t : Int) (w : World) : Calls Tryz.prog 9 #[.int .i64 t] w fun e w' => e = .returned (.string (if Co.thr t then Co.nm t.toNat else ⟨#[]⟩)) ∧ Below w.heap.size w w' := by
  have hw : ∀ w : World, (w.alloc (.cells Co.names 9)).heap[w.heap.size]? = some (.cells Co.names 9 (0, 0)) := fun w => heap_alloc_new _ _
  have hc : ∀ k, k < 20 → (w.alloc (.cells Co.names 9)).cell? ⟨w.heap.size, k, none⟩ = some (.string (Co.nm k)) := fun k hk => (Co.cell_of (hw w) k).trans (Co.names_at k hk)
  have HB : ∀ o, Below w.heap.size w (w.alloc o) := fun o => (Below.refl _ _).alloc (Nat.le_refl _) o
  unfold Co.names at hc
  by_cases h : 0 ≤ t ∧ t < 20
  · have e : Co.thr t = true := decide_eq_true h
    rw [e, if_pos rfl]
    obtain ⟨k, rfl⟩ : ∃ k : Nat, t = k := ⟨t.toNat, by omega⟩
    rw [Int.toNat_natCast]
    have c0 := hc k (by omega)
    have h0 : ¬ ((k : Int) < 0) := by omega
    have h1 : ¬ ((k : Int) ≥ 20) := by omega
    clear hc hw e h
    generalize Co.nm k = n at *
    go_enter Tryz.func9, Tryz.ntmps9
    go_wp2
    go_ret
    exact ⟨rfl, HB _⟩
  · have e : Co.thr t = false := decide_eq_false h
    rw [e, if_neg (by decide)]
    clear hc hw
    rcases (show t < 0 ∨ t ≥ 20 by omega) with ht | ht
    all_goals
      go_enter Tryz.func9, Tryz.ntmps9
      go_wp2
      go_ret
      exact ⟨rfl, HB _⟩

set_option maxHeartbeats 4000000 in
set_option maxRecDepth 1000000 in
theorem Co.refParent_in (k : Nat) (hk : k < 20) (w : World) : Calls Tryz.prog 10 #[.int .i64 k] w fun e w' => e = .returned (.int .i64 (Co.par k)) ∧ Below w.heap.size w w' := by
  rcases (show k = 0 ∨ k = 1 ∨ k = 2 ∨ k = 3 ∨ k = 4 ∨ k = 5 ∨ k = 6 ∨ k = 7 ∨ k = 8 ∨ k = 9 ∨ k = 10 ∨ k = 11 ∨ k = 12 ∨ k = 13 ∨ k = 14 ∨ k = 15 ∨ k = 16 ∨ k = 17 ∨ k = 18 ∨ k = 19 by omega) with rfl | rfl | rfl | rfl | rfl | rfl | rfl | rfl | rfl | rfl | rfl | rfl | rfl | rfl | rfl | rfl | rfl | rfl | rfl | rfl
  all_goals
    go_enter Tryz.func10, Tryz.ntmps10
    go_wp2
    go_ret
    exact ⟨rfl, Below.refl _ _⟩

set_option maxHeartbeats 4000000 in
set_option maxRecDepth 1000000 in
theorem Co.refUnder_in (t : Nat) (ht : t < 20) (of : Int) (hof : 0 ≤ of) (w : World) : Calls Tryz.prog 11 #[.int .i64 t, .int .i64 of] w fun e w' => e = .returned (.bool (Co.under t of)) ∧ Below w.heap.size w w' := by
  have hU : ∃ U, Co.und 20 t of = U := ⟨_, rfl⟩
  obtain ⟨U, hU⟩ := hU
  unfold Co.under
  rw [hU]
  go_enter Tryz.func11, Tryz.ntmps11
  go_wp2_with fail
  go_loopw [0] (fun i wr => ∃ (n : Nat) (k : Int), i = .int .i64 k ∧ -1 ≤ k ∧ k < n ∧ n ≤ 20 ∧ Co.und n k of = U ∧ Below w.heap.size w wr) (fun i _ => (intOf i + 1).toNat)
  case atStart => exact ⟨20, t, rfl, by omega, by omega, Nat.le_refl _, hU, Below.refl _ _⟩
  case round =>
    obtain ⟨n, k, rfl, hk, hkn, hn, hu, hb⟩ := hrel
    have HB := Lib.hid hb
    clear hb
    by_cases h1 : k < 0
    · rw [Co.und_stop _ _ _ (.inl h1), beq_eq_false_iff_ne.2 (by omega)] at hu
      have h2 : ¬ (k ≥ 0) := by omega
      subst hu
      go_wp2_with fail
      go_ret
      exact ⟨rfl, HB.out⟩
    · by_cases h2 : k = of
      · rw [Co.und_stop _ _ _ (.inr h2)] at hu
        have h3 : k ≥ 0 := by omega
        subst h2
        go_wp2_with fail
        go_ret
        refine ⟨?_, HB.out⟩
        rw [← hu]
        first | rfl | simp
      · obtain ⟨m, rfl⟩ : ∃ m : Nat, k = m := ⟨k.toNat, by omega⟩
        obtain ⟨n, rfl⟩ : ∃ q : Nat, n = q + 1 := ⟨n - 1, by omega⟩
        rw [Co.und_step _ _ _ (by omega), Int.toNat_natCast] at hu
        obtain ⟨p1, p2⟩ := Co.par_lt m (by omega)
        have KP := fun w => Co.refParent_in m (by omega) w
        have h3 : (m : Int) ≥ 0 := by omega
        have HN := Lib.hid hn
        have HKN := Lib.hid hkn
        have HU := Lib.hid hu
        clear hn hkn hu hk
        go_wp2_with fail
        refine (KP _).mono ?_
        rintro x w1 ⟨rfl, hb1⟩
        have HB1 := Lib.hid (HB.out.trans (hb1.mono HB.out.size))
        clear hb1 KP
        go_wp2_with fail
        go_roundw
        case rel => exact ⟨n, Co.par m, rfl, p1, by have := HKN.out; omega, by have := HN.out; omega, HU.out, HB1.out⟩
        case measure => simp [intOf]; omega
end Go.Proofs.YthcdkhegdlbdiaaGreatDoor
