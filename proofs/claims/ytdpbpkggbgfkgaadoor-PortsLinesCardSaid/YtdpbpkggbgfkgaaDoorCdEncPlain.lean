/-
  What Encode makes of a text, in plain Lean.
-/
import Derived.Test.YtdpbpkggbgfkgaaDoorCdPlain
import Derived.Test.YtdpbpkggbgfkgaaDoorBy
namespace Go.Proofs.YtdpbpkggbgfkgaaDoor
open Go.RowKit
set_option linter.unusedVariables false

def Cd.eolL (l : Int) : List Int := if l = 2 then [13] else if l = 3 then [13, 10] else if l = 4 then [133] else if l = 5 then [8232] else [10]
def Cd.eolB (l : Int) : List UInt8 := if l = 2 then [13] else if l = 3 then [13, 10] else if l = 4 then [194, 133] else if l = 5 then [226, 128, 168] else [10]
theorem Cd.eolB_runes (l : Int) : Ru.runes (Cd.eolB l) = Cd.eolL l := by
  unfold Cd.eolB Cd.eolL
  repeat' split
  all_goals decide +kernel
theorem Cd.eolL_len (l : Int) : 1 ≤ (Cd.eolL l).length ∧ (Cd.eolL l).length ≤ 2 := by
  unfold Cd.eolL
  repeat' split
  all_goals simp
theorem Cd.eolB_len (l : Int) : 1 ≤ (Cd.eolB l).length ∧ (Cd.eolB l).length ≤ 3 := by
  unfold Cd.eolB
  repeat' split
  all_goals simp
def Cd.b8 (x : Int) : UInt8 := (x % 256).toNat.toUInt8
theorem Cd.b8_val (x : Int) : ((Cd.b8 x).toNat : Int) = x % 256 := by
  unfold Cd.b8
  rw [Nat.toUInt8, UInt8.toNat_ofNat']
  omega
def Cd.putW (x : Int) : List UInt8 :=
  if 65535 < x then [Cd.b8 (((x - 65536) / 1024 + 55296) / 256), Cd.b8 ((x - 65536) / 1024 + 55296), Cd.b8 (((x - 65536) % 1024 + 56320) / 256), Cd.b8 ((x - 65536) % 1024 + 56320)]
  else [Cd.b8 (x / 256), Cd.b8 x]
def Cd.putL (c x : Int) : List UInt8 := if c = 1 then Lib.encodeRune x else if c = 2 then [Cd.b8 x] else Cd.putW x
theorem Cd.putL_len (c x : Int) : 1 ≤ (Cd.putL c x).length ∧ (Cd.putL c x).length ≤ 4 := by
  unfold Cd.putL Cd.putW
  have := Ru.encode_length x
  repeat' split
  all_goals first | omega | simp
def Cd.okP (c x : Int) : Bool := decide (c ≠ 2 ∨ x < 256)
/-- One character behind what is there; none: the call fails. -/
def Cd.stepB (c m : Int) (bad : Bool) (out : List UInt8) (x : Int) : Option (List UInt8) :=
  if Cd.okP c x && !bad then some (out ++ Cd.putL c x) else if m = 0 then none else if m = 1 then some (out ++ (if c = 2 then [63] else Cd.putL c 65533)) else some out
def Cd.stepsB (c m : Int) (bad : Bool) : List Int → List UInt8 → Option (List UInt8)
  | [], out => some out
  | x :: xs, out => match Cd.stepB c m bad out x with
    | none => none
    | some o => Cd.stepsB c m bad xs o
def Cd.charsU (l r : Int) : List Int := if r = 10 then Cd.eolL l else [r]
def Cd.textU (l r : Int) : List UInt8 := if r = 10 then Cd.eolB l else Lib.encodeRune r
theorem Cd.textU_runes (l r : Int) (h : Ru.okR r) : Ru.runes (Cd.textU l r) = Cd.charsU l r := by
  unfold Cd.textU Cd.charsU
  split
  · exact Cd.eolB_runes l
  · have := Ru.runes_encode r h []
    rw [List.append_nil] at this
    rw [this]
    rfl
theorem Cd.textU_len (l r : Int) : 1 ≤ (Cd.textU l r).length ∧ (Cd.textU l r).length ≤ 4 := by
  have h1 := Cd.eolB_len l
  have h2 := Ru.encode_length r
  unfold Cd.textU
  split <;> omega
theorem Cd.charsU_len (l r : Int) : 1 ≤ (Cd.charsU l r).length ∧ (Cd.charsU l r).length ≤ 2 := by
  have h1 := Cd.eolL_len l
  unfold Cd.charsU
  split
  · exact h1
  · simp
def Cd.encF (c l m : Int) : List Cd.U → List UInt8 → List UInt8 × Int × Int
  | [], out => (out, 0, 0)
  | (r, ok, p) :: us, out => match Cd.stepsB c m (!ok) (Cd.charsU l r) out with
    | none => ([], p, 6)
    | some o => Cd.encF c l m us o
theorem Cd.stepB_len (c m : Int) (bad : Bool) (out : List UInt8) (x : Int) (o : List UInt8) (h : Cd.stepB c m bad out x = some o) : o.length ≤ out.length + 4 := by
  have h1 := Cd.putL_len c x
  have h2 := Cd.putL_len c 65533
  unfold Cd.stepB at h
  split at h
  · cases h; rw [List.length_append]; omega
  split at h
  · cases h
  split at h
  · cases h; rw [List.length_append]; split <;> simp <;> omega
  · cases h; omega
theorem Cd.stepsB_len (c m : Int) (bad : Bool) : ∀ (xs : List Int) (out o : List UInt8), Cd.stepsB c m bad xs out = some o → o.length ≤ out.length + 4 * xs.length
  | [], out, o, h => by cases h; simp
  | x :: xs, out, o, h => by
    unfold Cd.stepsB at h
    cases hs : Cd.stepB c m bad out x with
    | none => rw [hs] at h; cases h
    | some o1 =>
      rw [hs] at h
      have h1 := Cd.stepB_len c m bad out x o1 hs
      have h2 := Cd.stepsB_len c m bad xs o1 o h
      rw [List.length_cons]
      omega
theorem Cd.encF_len (c l m : Int) : ∀ (us : List Cd.U) (out : List UInt8), (Cd.encF c l m us out).1.length ≤ out.length + 8 * us.length
  | [], out => by simp [Cd.encF]
  | (r, ok, p) :: us, out => by
    unfold Cd.encF
    cases hs : Cd.stepsB c m (!ok) (Cd.charsU l r) out with
    | none => simp
    | some o =>
      have h1 := Cd.stepsB_len c m _ _ _ _ hs
      have h2 := Cd.charsU_len l r
      have h3 := Cd.encF_len c l m us o
      simp only [List.length_cons]
      omega
theorem Cd.encF_step {c l m r p : Int} {ok : Bool} {us : List Cd.U} {out o : List UInt8} {F : List UInt8 × Int × Int} (h : Cd.encF c l m ((r, ok, p) :: us) out = F) (hs : Cd.stepsB c m (!ok) (Cd.charsU l r) out = some o) : Cd.encF c l m us o = F := by
  unfold Cd.encF at h
  rw [hs] at h
  exact h
theorem Cd.encF_stop {c l m r p : Int} {ok : Bool} {us : List Cd.U} {out : List UInt8} {F : List UInt8 × Int × Int} (h : Cd.encF c l m ((r, ok, p) :: us) out = F) (hs : Cd.stepsB c m (!ok) (Cd.charsU l r) out = none) : F = ([], p, 6) := by
  unfold Cd.encF at h
  rw [hs] at h
  exact h.symm
theorem Cd.stepsB_step {c m x : Int} {bad : Bool} {xs : List Int} {out o : List UInt8} {R : Option (List UInt8)} (h : Cd.stepsB c m bad (x :: xs) out = R) (hs : Cd.stepB c m bad out x = some o) : Cd.stepsB c m bad xs o = R := by
  unfold Cd.stepsB at h
  rw [hs] at h
  exact h
theorem Cd.stepsB_stop {c m x : Int} {bad : Bool} {xs : List Int} {out : List UInt8} {R : Option (List UInt8)} (h : Cd.stepsB c m bad (x :: xs) out = R) (hs : Cd.stepB c m bad out x = none) : R = none := by
  unfold Cd.stepsB at h
  rw [hs] at h
  exact h.symm
end Go.Proofs.YtdpbpkggbgfkgaaDoor
