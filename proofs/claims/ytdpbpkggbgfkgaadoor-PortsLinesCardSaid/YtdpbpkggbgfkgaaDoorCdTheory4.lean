/-
  What the three modes have to do with one another, in plain Lean.
-/
import Derived.Test.YtdpbpkggbgfkgaaDoorCdTheory3
namespace Go.Proofs.YtdpbpkggbgfkgaaDoor
open Go.RowKit
set_option linter.unusedVariables false

def Cd.repl (us : List Cd.U) : List Int := us.map fun u => if u.2.1 then u.1 else 65533
def Cd.ign : List Cd.U → List Int
  | [] => []
  | (r, ok, p) :: us => if ok then r :: Cd.ign us else Cd.ign us
theorem Cd.feed_one : ∀ (us : List Cd.U) (xs : List Int), Cd.feed 1 us xs 0 0 = (xs ++ Cd.repl us, 0, 0)
  | [], xs => by simp [Cd.feed, Cd.repl]
  | (r, true, p) :: us, xs => by
    rw [Cd.feed, if_pos (by rfl)]
    show Cd.feed 1 us (xs ++ [r]) 0 0 = _
    rw [Cd.feed_one us]
    simp [Cd.repl]
  | (r, false, p) :: us, xs => by
    rw [Cd.feed, if_pos (by rfl)]
    show Cd.feed 1 us (xs ++ [65533]) 0 0 = _
    rw [Cd.feed_one us]
    simp [Cd.repl]
theorem Cd.feed_two : ∀ (us : List Cd.U) (xs : List Int), Cd.feed 2 us xs 0 0 = (xs ++ Cd.ign us, 0, 0)
  | [], xs => by simp [Cd.feed, Cd.ign]
  | (r, true, p) :: us, xs => by
    rw [Cd.feed, if_pos (by rfl)]
    show Cd.feed 2 us (xs ++ [r]) 0 0 = _
    rw [Cd.feed_two us]
    simp [Cd.ign]
  | (r, false, p) :: us, xs => by
    rw [Cd.feed, if_pos (by rfl)]
    show Cd.feed 2 us xs 0 0 = _
    rw [Cd.feed_two us]
    simp [Cd.ign]
theorem Cd.encs_len_cons (r : Int) (rs : List Int) : (Ru.encs (r :: rs)).length = (Lib.encodeRune r).length + (Ru.encs rs).length := by
  rw [Ru.encs_cons, List.length_append]
theorem Cd.scan_len (l : Int) : ∀ (us : List Cd.U) (p q : Int), (p = q ∨ q = 65533) → (Ru.encs (Cd.scan l p (Cd.ign us))).length ≤ (Ru.encs (Cd.scan l q (Cd.repl us))).length
  | [], p, q, _ => by simp [Cd.ign, Cd.repl, Cd.scan]
  | (r, false, i) :: us, p, q, h => by
    have ih := Cd.scan_len l us p 65533 (.inr rfl)
    show (Ru.encs (Cd.scan l p (Cd.ign us))).length ≤ (Ru.encs (Cd.scan l q (65533 :: Cd.repl us))).length
    rw [Cd.scan, if_neg (by omega), Cd.encs_len_cons]
    omega
  | (r, true, i) :: us, p, q, h => by
    have ih := Cd.scan_len l us r r (.inl rfl)
    show (Ru.encs (Cd.scan l p (r :: Cd.ign us))).length ≤ (Ru.encs (Cd.scan l q (r :: Cd.repl us))).length
    by_cases hq : l ≠ 0 ∧ q = 13 ∧ (r = 10 ∨ r = 133)
    · have hp : l ≠ 0 ∧ p = 13 ∧ (r = 10 ∨ r = 133) := by
        refine ⟨hq.1, ?_, hq.2.2⟩
        omega
      rw [Cd.scan, if_pos hp, Cd.scan, if_pos hq]
      exact ih
    · conv => rhs; rw [Cd.scan, if_neg hq, Cd.encs_len_cons]
      rw [Cd.scan]
      split
      · omega
      · rw [Cd.encs_len_cons]
        omega
theorem Cd.chk_modes (c l : Int) (n : Int) (h : Cd.chkN c l 0 n = 0) : Cd.chkN c l 1 n = 0 ∧ Cd.chkN c l 2 n = 0 := by
  obtain ⟨h1, h2⟩ := Cd.chkN_good c l 0 n h
  unfold Cd.good at h1
  have g1 : Cd.good c l 1 := by unfold Cd.good; omega
  have g2 : Cd.good c l 2 := by unfold Cd.good; omega
  unfold Cd.chkN
  rw [if_pos g1, if_neg (by omega), if_pos g2]
  exact ⟨rfl, rfl⟩
theorem Cd.dec_one (c l : Int) (s : ByteArray) (h : Cd.chkN c l 0 s.size = 0) : Cd.decG c l 1 s = (Ru.encs (Cd.endsL l (Cd.repl (Cd.unitsU c s))), 0, 0) := by
  unfold Cd.decG
  rw [if_neg (by simp [(Cd.chk_modes c l _ h).1]), Cd.feed_one, if_neg (by simp), List.nil_append]
theorem Cd.dec_two (c l : Int) (s : ByteArray) (h : Cd.chkN c l 0 s.size = 0) : Cd.decG c l 2 s = (Ru.encs (Cd.endsL l (Cd.ign (Cd.unitsU c s))), 0, 0) := by
  unfold Cd.decG
  rw [if_neg (by simp [(Cd.chk_modes c l _ h).2]), Cd.feed_two, if_neg (by simp), List.nil_append]
theorem Cd.dec_modes (c l : Int) (s : ByteArray) (h : Cd.chkN c l 0 s.size = 0) :
    (Cd.decG c l 1 s).2.2 = 0 ∧ (Cd.decG c l 2 s).2.2 = 0 ∧ ((Cd.decG c l 0 s).2.2 = 6 ∨ (Cd.decG c l 0 s).2.2 = 0 ∧ (Cd.decG c l 0 s).1 = (Cd.decG c l 1 s).1 ∧ (Cd.decG c l 0 s).1 = (Cd.decG c l 2 s).1) ∧ (Cd.decG c l 2 s).1.length ≤ (Cd.decG c l 1 s).1.length := by
  refine ⟨by rw [Cd.dec_one c l s h], by rw [Cd.dec_two c l s h], ?_, ?_⟩
  · rcases Cd.split_bad (fun u => u.2.1 = true) (Cd.unitsU c s) with hg | ⟨pre, u, post, hh, hok, hbad⟩
    · right
      rw [Cd.dec_ok c l 0 s h hg, Cd.dec_ok c l 1 s (Cd.chk_modes c l _ h).1 hg, Cd.dec_ok c l 2 s (Cd.chk_modes c l _ h).2 hg]
      exact ⟨rfl, rfl, rfl⟩
    · left
      rw [Cd.dec_bad c l s h u pre post hh hok hbad]
  · rw [Cd.dec_one c l s h, Cd.dec_two c l s h, Cd.ends_scan, Cd.ends_scan]
    exact Cd.scan_len l _ 0 0 (.inl rfl)

theorem Cd.stepB_one (c : Int) (bad : Bool) (o : List UInt8) (x : Int) : ∃ a, Cd.stepB c 1 bad o x = some (o ++ a) := by
  unfold Cd.stepB
  by_cases hb : (Cd.okP c x && !bad) = true
  · rw [if_pos hb]; exact ⟨_, rfl⟩
  · rw [if_neg hb, if_neg (by decide), if_pos rfl]; exact ⟨_, rfl⟩
theorem Cd.stepB_two (c : Int) (bad : Bool) (o p : List UInt8) (x : Int) (h : o.length ≤ p.length) : ∃ a b, Cd.stepB c 2 bad o x = some a ∧ Cd.stepB c 1 bad p x = some b ∧ a.length ≤ b.length := by
  unfold Cd.stepB
  by_cases hb : (Cd.okP c x && !bad) = true
  · rw [if_pos hb, if_pos hb]
    exact ⟨_, _, rfl, rfl, by simp only [List.length_append]; omega⟩
  · rw [if_neg hb, if_neg hb, if_neg (by decide), if_neg (by decide), if_neg (by decide), if_pos rfl]
    exact ⟨_, _, rfl, rfl, by simp only [List.length_append]; omega⟩
theorem Cd.stepsB_two (c : Int) (bad : Bool) : ∀ (xs : List Int) (o p : List UInt8), o.length ≤ p.length → ∃ a b, Cd.stepsB c 2 bad xs o = some a ∧ Cd.stepsB c 1 bad xs p = some b ∧ a.length ≤ b.length
  | [], o, p, h => ⟨o, p, rfl, rfl, h⟩
  | x :: xs, o, p, h => by
    obtain ⟨a, b, h1, h2, h3⟩ := Cd.stepB_two c bad o p x h
    obtain ⟨a2, b2, h4, h5, h6⟩ := Cd.stepsB_two c bad xs a b h3
    refine ⟨a2, b2, ?_, ?_, h6⟩
    · rw [Cd.stepsB, h1]; exact h4
    · rw [Cd.stepsB, h2]; exact h5
theorem Cd.encF_two (c l : Int) : ∀ (us : List Cd.U) (o p : List UInt8), o.length ≤ p.length → (Cd.encF c l 2 us o).2.2 = 0 ∧ (Cd.encF c l 1 us p).2.2 = 0 ∧ (Cd.encF c l 2 us o).1.length ≤ (Cd.encF c l 1 us p).1.length
  | [], o, p, h => ⟨rfl, rfl, h⟩
  | (r, ok, i) :: us, o, p, h => by
    obtain ⟨a, b, h1, h2, h3⟩ := Cd.stepsB_two c (!ok) (Cd.charsU l r) o p h
    have ih := Cd.encF_two c l us a b h3
    rw [Cd.encF, Cd.encF, h1, h2]
    exact ih
theorem Cd.enc_modes (c l : Int) (s : ByteArray) (h : Cd.chkN c l 0 s.size = 0) :
    (Cd.encG c l 1 s).2.2 = 0 ∧ (Cd.encG c l 2 s).2.2 = 0 ∧ ((Cd.encG c l 0 s).2.2 = 6 ∨ (Cd.encG c l 0 s).2.2 = 0 ∧ (Cd.encG c l 0 s).1 = (Cd.encG c l 1 s).1 ∧ (Cd.encG c l 0 s).1 = (Cd.encG c l 2 s).1) ∧ (Cd.encG c l 2 s).1.length ≤ (Cd.encG c l 1 s).1.length := by
  have h1 := (Cd.chk_modes c l _ h).1
  have h2 := (Cd.chk_modes c l _ h).2
  have e := Cd.encF_two c l (Cd.utf8U s 0) [] [] (Nat.le_refl _)
  rw [Cd.encG_good c l 2 s h2, Cd.encG_good c l 1 s h1] at e
  refine ⟨e.2.1, e.1, ?_, e.2.2⟩
  rcases Cd.split_bad (Cd.goodU c l) (Cd.utf8U s 0) with hg | ⟨pre, u, post, hh, hok, hbad⟩
  · right
    rw [Cd.enc_ok c l 0 s h hg, Cd.enc_ok c l 1 s h1 hg, Cd.enc_ok c l 2 s h2 hg]
    exact ⟨rfl, rfl, rfl⟩
  · left
    rw [Cd.enc_bad c l s h u pre post hh hok hbad]
end Go.Proofs.YtdpbpkggbgfkgaaDoor
