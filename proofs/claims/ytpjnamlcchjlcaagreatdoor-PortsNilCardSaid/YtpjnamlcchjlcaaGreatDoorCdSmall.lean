/-
  The walks of codec.Check, sextantref06.Check and codec.check: what they answer for whatever three numbers. No condition.
-/
import Derived.Test.YtpjnamlcchjlcaaGreatDoorProg
import Derived.WalkKit
import Derived.WalkSpells
import Derived.WalkLawsBesides
import Derived.Handy
import Derived.BigCall
import Derived.Lib.Hide
namespace Go.Proofs.YtpjnamlcchjlcaaGreatDoor
open Go.RowKit

/-- A transcoder as the program hands it on. -/
def Cd.coder (c l m : Int) : Value := .agg #[.int .i64 c, .int .i64 l, .int .i64 m]
def Cd.good (c l m : Int) : Prop := 1 ≤ c ∧ c ≤ 3 ∧ 0 ≤ l ∧ l ≤ 5 ∧ 0 ≤ m ∧ m ≤ 2
instance (c l m : Int) : Decidable (Cd.good c l m) := by unfold Cd.good; infer_instance
def Cd.chk (c l m : Int) : Int := if Cd.good c l m then 0 else 1
def Cd.chkN (c l m n : Int) : Int := if Cd.good c l m then (if n > 65536 then 4 else 0) else 1

theorem Cd.chk_split (c l m : Int) : (c < 1 ∨ c > 3 ∨ l < 0 ∨ l > 5 ∨ m < 0 ∨ m > 2) ∧ Cd.chk c l m = 1 ∨ (1 ≤ c ∧ c ≤ 3 ∧ 0 ≤ l ∧ l ≤ 5 ∧ 0 ≤ m ∧ m ≤ 2) ∧ Cd.chk c l m = 0 := by
  by_cases h : Cd.good c l m
  · exact .inr ⟨h, by unfold Cd.chk; rw [if_pos h]⟩
  · refine .inl ⟨?_, by unfold Cd.chk; rw [if_neg h]⟩
    unfold Cd.good at h
    omega
theorem Cd.chkN_split (c l m n : Int) : Cd.chk c l m = 1 ∧ Cd.chkN c l m n = 1 ∨ Cd.chk c l m = 0 ∧ n > 65536 ∧ Cd.chkN c l m n = 4 ∨ Cd.chk c l m = 0 ∧ n ≤ 65536 ∧ Cd.chkN c l m n = 0 := by
  unfold Cd.chk Cd.chkN
  by_cases h : Cd.good c l m
  · by_cases hn : n > 65536
    · exact .inr (.inl ⟨if_pos h, hn, by rw [if_pos h, if_pos hn]⟩)
    · exact .inr (.inr ⟨if_pos h, by omega, by rw [if_pos h, if_neg hn]⟩)
  · exact .inl ⟨if_neg h, if_neg h⟩

set_option maxHeartbeats 4000000 in
theorem Cd.check_any (c l m : Int) (w : World) :
    Calls Tryz.prog 34 #[Cd.coder c l m] w fun e w' => e = .returned (.int .i64 (Cd.chk c l m)) ∧ Below w.heap.size w w' := by
  unfold Cd.coder
  have hs := Cd.chk_split c l m
  generalize Cd.chk c l m = z at *
  go_enter Tryz.func34, Tryz.ntmps34
  go_wp2
  all_goals go_ret
  all_goals first
    | (obtain rfl : z = 1 := by omega
       exact ⟨rfl, (Below.refl _ _).alloc (Nat.le_refl _) _⟩)
    | (obtain rfl : z = 0 := by omega
       exact ⟨rfl, (Below.refl _ _).alloc (Nat.le_refl _) _⟩)

set_option maxHeartbeats 4000000 in
theorem Cd.checkN_any (c l m n : Int) (w : World) :
    Calls Tryz.prog 23 #[Cd.coder c l m, .int .i64 n] w fun e w' => e = .returned (.int .i64 (Cd.chkN c l m n)) ∧ Below w.heap.size w w' := by
  have hs := Cd.chkN_split c l m n
  have K := Lib.hid (fun w => Cd.check_any c l m w)
  generalize Cd.chkN c l m n = z at *
  unfold Cd.coder at *
  generalize Cd.chk c l m = y at *
  rcases hs with ⟨rfl, rfl⟩ | ⟨rfl, hn, rfl⟩ | ⟨rfl, hn, rfl⟩
  all_goals
    go_enter Tryz.func23, Tryz.ntmps23
    go_wp2_with fail
    refine (K.out _).mono ?_; rintro e w1 ⟨rfl, hb⟩
    have b1 := ((Below.refl w.heap.size w).alloc (Nat.le_refl _) _).trans (hb.mono (by simp)); clear hb
    go_wp2
    go_ret
    exact ⟨rfl, b1⟩
end Go.Proofs.YtpjnamlcchjlcaaGreatDoor
