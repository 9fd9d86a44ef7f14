/-
  Worlds of files in plain Lean: their names' order, and what a sound world is. No program is in sight.
-/
import Derived.Test.YtdikkknjdbchbaaBy
import Derived.Lib.Bytealg
namespace Go.Proofs.Ytdikkknjdbchbaa
open Go.RowKit
set_option linter.unusedVariables false

theorem Wo.cmp_lt : ∀ a b : List UInt8, Lib.compareBytes a b < 0 ↔ Op.bytesLess a b = true
  | [], [] => by simp [Lib.compareBytes, Op.bytesLess]
  | [], _ :: _ => by simp [Lib.compareBytes, Op.bytesLess]
  | _ :: _, [] => by simp [Lib.compareBytes, Op.bytesLess]
  | x :: a, y :: b => by
    have ih := Wo.cmp_lt a b
    unfold Lib.compareBytes Op.bytesLess
    by_cases h : x < y
    · simp [h]
    · by_cases h2 : y < x
      · have : x ≠ y := fun e => by subst e; exact h h2
        simp [h, h2, this]
      · have : x = y := UInt8.le_antisymm (UInt8.not_lt.1 h2) (UInt8.not_lt.1 h)
        subst this
        simp [h, ih]
theorem Wo.cmp_eq : ∀ a b : List UInt8, Lib.compareBytes a b = 0 ↔ a = b
  | [], [] => by simp [Lib.compareBytes]
  | [], _ :: _ => by simp [Lib.compareBytes]
  | _ :: _, [] => by simp [Lib.compareBytes]
  | x :: a, y :: b => by
    have ih := Wo.cmp_eq a b
    unfold Lib.compareBytes
    by_cases h : x < y
    · have : x ≠ y := fun e => by subst e; exact UInt8.lt_irrefl x h
      simp [h, this]
    · by_cases h2 : y < x
      · have : x ≠ y := fun e => by subst e; exact h h2
        simp [h, h2, this]
      · have : x = y := UInt8.le_antisymm (UInt8.not_lt.1 h2) (UInt8.not_lt.1 h)
        subst this
        simp [h, ih]
theorem Wo.lt_irrefl : ∀ a : List UInt8, Op.bytesLess a a = false
  | [] => rfl
  | x :: a => by
    have := Wo.lt_irrefl a
    simp [Op.bytesLess, this]
theorem Wo.lt_trans : ∀ a b c : List UInt8, Op.bytesLess a b = true → Op.bytesLess b c = true → Op.bytesLess a c = true
  | _, _, [] => by intro h1 h2; cases ‹List UInt8› <;> simp_all [Op.bytesLess]
  | [], _, _ :: _ => by intros; rfl
  | _ :: _, [], _ :: _ => by intro h1; simp [Op.bytesLess] at h1
  | x :: a, y :: b, z :: c => by
    intro h1 h2
    have ih := Wo.lt_trans a b c
    simp only [Op.bytesLess, Bool.or_eq_true, decide_eq_true_eq, Bool.and_eq_true, beq_iff_eq] at *
    rcases h1 with h1 | ⟨rfl, h1⟩
    · rcases h2 with h2 | ⟨rfl, h2⟩
      · exact .inl (UInt8.lt_trans h1 h2)
      · exact .inl h1
    · rcases h2 with h2 | ⟨rfl, h2⟩
      · exact .inl h2
      · exact .inr ⟨rfl, ih h1 h2⟩
theorem Wo.lt_tri (a b : List UInt8) : Op.bytesLess a b = true ∨ a = b ∨ Op.bytesLess b a = true := by
  rcases Int.lt_trichotomy (Lib.compareBytes a b) 0 with h | h | h
  · exact .inl ((Wo.cmp_lt a b).1 h)
  · exact .inr (.inl ((Wo.cmp_eq a b).1 h))
  · refine .inr (.inr ?_)
    by_cases e : a = b
    · subst e; have := (Wo.cmp_eq a a).2 rfl; omega
    · by_cases hb : Op.bytesLess b a = true
      · exact hb
      · exfalso
        have key : ∀ a b : List UInt8, 0 < Lib.compareBytes a b → Op.bytesLess b a = true := by
          intro a
          induction a with
          | nil => intro b; cases b <;> simp [Lib.compareBytes]
          | cons x a ih =>
            intro b
            cases b with
            | nil => intro _; rfl
            | cons y b =>
              unfold Lib.compareBytes Op.bytesLess
              by_cases h : x < y
              · simp [h]
              · by_cases h2 : y < x
                · simp [h2]
                · have : x = y := UInt8.le_antisymm (UInt8.not_lt.1 h2) (UInt8.not_lt.1 h)
                  subst this
                  simp only [h, if_false]
                  intro h3
                  simp [ih b h3]
        exact hb (key a b h)
theorem Wo.lt_asymm (a b : List UInt8) (h : Op.bytesLess a b = true) : Op.bytesLess b a = false := by
  cases h2 : Op.bytesLess b a with
  | false => rfl
  | true =>
    have := Wo.lt_trans a b a h h2
    rw [Wo.lt_irrefl] at this
    cases this

/-- A file: its name and its data. -/
abbrev Wo.F := ByteArray × ByteArray
/-- A world: its files, what is to be read, what has been written. -/
abbrev Wo.W := List Wo.F × ByteArray × ByteArray
def Wo.e0 : Wo.F := (⟨#[]⟩, ⟨#[]⟩)
def Wo.lt (a b : ByteArray) : Bool := Op.bytesLess a.toList b.toList
def Wo.named (s : ByteArray) : Bool := decide (1 ≤ s.size ∧ s.size ≤ 255)
def Wo.okAt (fs : List Wo.F) (k : Nat) : Bool := Wo.named (fs.getD k Wo.e0).1 && decide ((fs.getD k Wo.e0).2.size ≤ 65536) && (decide (k = 0) || Wo.lt (fs.getD (k - 1) Wo.e0).1 (fs.getD k Wo.e0).1)
def Wo.sound (W : Wo.W) : Bool := decide (W.1.length ≤ 64) && decide (W.2.1.size ≤ 65536) && decide (W.2.2.size ≤ 65536) && decide (∀ k, k < W.1.length → Wo.okAt W.1 k = true)

/-- Files that lie behind each other in memory. -/
def Wo.Fs (w : World) (v : Value) (fs : List Wo.F) : Prop :=
  (v = .slice none 0 0 ∧ fs = []) ∨ (∃ a cap, v = .slice (some a) 0 cap ∧ fs = []) ∨
  (0 < fs.length ∧ ∃ b off cap, v = .slice (some ⟨b, off, none⟩) fs.length cap ∧ fs.length ≤ cap ∧ b < w.heap.size ∧ ∀ k, k < fs.length →
    w.cell? ⟨b, off + k * 2, none⟩ = some (.string (fs.getD k Wo.e0).1) ∧ ∃ dv, w.cell? ⟨b, off + k * 2 + 1, none⟩ = some dv ∧ By.In w dv (fs.getD k Wo.e0).2)
theorem Wo.Fs.below {w w' : World} {v : Value} {fs : List Wo.F} {B : Nat} (h : Wo.Fs w v fs) (hb : Below B w w') (hB : w.heap.size ≤ B) : Wo.Fs w' v fs := by
  rcases h with h | h | ⟨h0, b, off, cap, hv, h1, h2, hc⟩
  · exact .inl h
  · exact .inr (.inl h)
  · refine .inr (.inr ⟨h0, b, off, cap, hv, h1, by have := hb.size; omega, fun k hk => ?_⟩)
    obtain ⟨c0, dv, c1, hd⟩ := hc k hk
    exact ⟨(hb.cell (p := ⟨b, off + k * 2, none⟩) (by show b < B; omega)).trans c0, dv, (hb.cell (p := ⟨b, off + k * 2 + 1, none⟩) (by show b < B; omega)).trans c1, hd.below hb hB⟩
theorem Wo.Fs.slice {w : World} {v : Value} {fs : List Wo.F} (h : Wo.Fs w v fs) : ∃ ad cap, v = .slice ad fs.length cap := by
  rcases h with ⟨h, h0⟩ | ⟨a, cap, h, h0⟩ | ⟨h0, b, off, cap, hv, _⟩
  · exact ⟨none, 0, by rw [h, h0]; rfl⟩
  · exact ⟨some a, cap, by rw [h, h0]; rfl⟩
  · exact ⟨_, cap, hv⟩
/-- A world that lies in memory. -/
def Wo.In (w : World) (v : Value) (W : Wo.W) : Prop := ∃ fv iv ov, v = .agg #[fv, iv, ov] ∧ Wo.Fs w fv W.1 ∧ By.In w iv W.2.1 ∧ By.In w ov W.2.2
theorem Wo.In.below {w w' : World} {v : Value} {W : Wo.W} {B : Nat} (h : Wo.In w v W) (hb : Below B w w') (hB : w.heap.size ≤ B) : Wo.In w' v W := by
  obtain ⟨fv, iv, ov, hv, h1, h2, h3⟩ := h
  exact ⟨fv, iv, ov, hv, h1.below hb hB, h2.below hb hB, h3.below hb hB⟩
end Go.Proofs.Ytdikkknjdbchbaa
