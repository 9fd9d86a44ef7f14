/-
  What the transcoders read, in plain Lean: the units of bytes, and what Decode makes of them.
-/
import Derived.Test.YtdikkknjdbchbaaRunes
import Derived.WalkKit
import Derived.Lib.RuneCount
namespace Go.Proofs.Ytdikkknjdbchbaa
open Go.RowKit

def Cd.byt (s : ByteArray) (i : Nat) : Int := (s.get! i).toNat
theorem Cd.byt_bd (s : ByteArray) (i : Nat) : 0 ≤ Cd.byt s i ∧ Cd.byt s i < 256 := by
  unfold Cd.byt
  have := (s.get! i).toNat_lt
  omega
/-- The number of two bytes at i; -1: there is none. -/
def Cd.num (s : ByteArray) (low i : Nat) : Int := if i + 2 > s.size then -1 else Cd.byt s (i + low) * 256 + Cd.byt s (i + 1 - low)
theorem Cd.num_bd (s : ByteArray) (low i : Nat) : -1 ≤ Cd.num s low i ∧ Cd.num s low i ≤ 65535 := by
  have h1 := Cd.byt_bd s (i + low)
  have h2 := Cd.byt_bd s (i + 1 - low)
  unfold Cd.num
  split <;> omega

/-- A unit: the character, whether it is one, where it begins. -/
abbrev Cd.U := Int × Bool × Int

def Cd.xsS (m r : Int) (ok : Bool) (xs : List Int) : List Int := if ok then xs ++ [r] else if m = 0 then xs else if m = 1 then xs ++ [65533] else xs
def Cd.atS (m p : Int) (ok : Bool) (a : Int) : Int := if ok then a else if m = 0 then p else a
def Cd.erS (m : Int) (ok : Bool) (e : Int) : Int := if ok then e else if m = 0 then 6 else e
def Cd.goS (m : Int) (ok : Bool) : Bool := ok || decide (m ≠ 0)
theorem Cd.xsS_len (m r : Int) (ok : Bool) (xs : List Int) : (Cd.xsS m r ok xs).length ≤ xs.length + 1 := by
  unfold Cd.xsS
  repeat' split
  all_goals simp

def Cd.feed (m : Int) : List Cd.U → List Int → Int → Int → List Int × Int × Int
  | [], xs, a, e => (xs, a, e)
  | (r, ok, p) :: us, xs, a, e => if Cd.goS m ok then Cd.feed m us (Cd.xsS m r ok xs) (Cd.atS m p ok a) (Cd.erS m ok e) else (Cd.xsS m r ok xs, Cd.atS m p ok a, Cd.erS m ok e)

def Cd.pair (r q : Int) : Prop := 55296 ≤ r ∧ r ≤ 56319 ∧ 56320 ≤ q ∧ q ≤ 57343
instance (r q : Int) : Decidable (Cd.pair r q) := by unfold Cd.pair; infer_instance
def Cd.plainR (r : Int) : Bool := decide (0 ≤ r ∧ (r < 55296 ∨ 57343 < r))

def Cd.wideU (s : ByteArray) (low at_ : Nat) : List Cd.U :=
  if _h : at_ < s.size then
    if Cd.pair (Cd.num s low at_) (Cd.num s low (at_ + 2)) then ((Cd.num s low at_ - 55296) * 1024 + Cd.num s low (at_ + 2) - 56320 + 65536, true, (at_ : Int)) :: Cd.wideU s low (at_ + 2 + 2)
    else (Cd.num s low at_, Cd.plainR (Cd.num s low at_), (at_ : Int)) :: Cd.wideU s low (at_ + 2)
  else []
termination_by s.size - at_

def Cd.latinU (s : ByteArray) (at_ : Nat) : List Cd.U :=
  if _h : at_ < s.size then (Cd.byt s at_, true, (at_ : Int)) :: Cd.latinU s (at_ + 1) else []
termination_by s.size - at_

def Cd.utf8U (s : ByteArray) (at_ : Nat) : List Cd.U :=
  if _h : at_ < s.size then (((Utf8.decode s at_).1 : Int), decide ((Utf8.decode s at_).1 ≠ 65533 ∨ 1 < (Utf8.decode s at_).2), (at_ : Int)) :: Cd.utf8U s (at_ + (Utf8.decode s at_).2) else []
termination_by s.size - at_
decreasing_by
  have := Lib.decode_width_pos s at_ _h
  omega

theorem Cd.wideU_pair (s : ByteArray) (low at_ : Nat) (h : at_ < s.size) (hp : Cd.pair (Cd.num s low at_) (Cd.num s low (at_ + 2))) :
    Cd.wideU s low at_ = ((Cd.num s low at_ - 55296) * 1024 + Cd.num s low (at_ + 2) - 56320 + 65536, true, (at_ : Int)) :: Cd.wideU s low (at_ + 2 + 2) := by
  rw [Cd.wideU, dif_pos h, if_pos hp]
theorem Cd.wideU_one (s : ByteArray) (low at_ : Nat) (h : at_ < s.size) (hp : ¬ Cd.pair (Cd.num s low at_) (Cd.num s low (at_ + 2))) :
    Cd.wideU s low at_ = (Cd.num s low at_, Cd.plainR (Cd.num s low at_), (at_ : Int)) :: Cd.wideU s low (at_ + 2) := by
  rw [Cd.wideU, dif_pos h, if_neg hp]
theorem Cd.wideU_end (s : ByteArray) (low at_ : Nat) (h : ¬ at_ < s.size) : Cd.wideU s low at_ = [] := by
  rw [Cd.wideU, dif_neg h]
theorem Cd.latinU_one (s : ByteArray) (at_ : Nat) (h : at_ < s.size) : Cd.latinU s at_ = (Cd.byt s at_, true, (at_ : Int)) :: Cd.latinU s (at_ + 1) := by
  rw [Cd.latinU, dif_pos h]
theorem Cd.latinU_end (s : ByteArray) (at_ : Nat) (h : ¬ at_ < s.size) : Cd.latinU s at_ = [] := by
  rw [Cd.latinU, dif_neg h]
theorem Cd.utf8U_one (s : ByteArray) (at_ : Nat) (h : at_ < s.size) :
    Cd.utf8U s at_ = (((Utf8.decode s at_).1 : Int), decide ((Utf8.decode s at_).1 ≠ 65533 ∨ 1 < (Utf8.decode s at_).2), (at_ : Int)) :: Cd.utf8U s (at_ + (Utf8.decode s at_).2) := by
  rw [Cd.utf8U, dif_pos h]
theorem Cd.utf8U_end (s : ByteArray) (at_ : Nat) (h : ¬ at_ < s.size) : Cd.utf8U s at_ = [] := by
  rw [Cd.utf8U, dif_neg h]

/-- Where UTF-16 begins, and whether its low byte comes first. -/
def Cd.bom (s : ByteArray) : Nat × Nat :=
  if 2 ≤ s.size ∧ Cd.byt s 0 = 254 ∧ Cd.byt s 1 = 255 then (2, 0) else if 2 ≤ s.size ∧ Cd.byt s 0 = 255 ∧ Cd.byt s 1 = 254 then (2, 1) else (0, 0)
theorem Cd.bom_split (s : ByteArray) : (2 ≤ s.size ∧ Cd.byt s 0 = 254 ∧ Cd.byt s 1 = 255 ∧ Cd.bom s = (2, 0)) ∨ (2 ≤ s.size ∧ Cd.byt s 0 = 255 ∧ Cd.byt s 1 = 254 ∧ Cd.bom s = (2, 1)) ∨
    ((s.size < 2 ∨ ¬ (Cd.byt s 0 = 254 ∧ Cd.byt s 1 = 255 ∨ Cd.byt s 0 = 255 ∧ Cd.byt s 1 = 254)) ∧ Cd.bom s = (0, 0)) := by
  unfold Cd.bom
  by_cases h : 2 ≤ s.size ∧ Cd.byt s 0 = 254 ∧ Cd.byt s 1 = 255
  · exact .inl ⟨h.1, h.2.1, h.2.2, if_pos h⟩
  by_cases h2 : 2 ≤ s.size ∧ Cd.byt s 0 = 255 ∧ Cd.byt s 1 = 254
  · exact .inr (.inl ⟨h2.1, h2.2.1, h2.2.2, by rw [if_neg h, if_pos h2]⟩)
  · exact .inr (.inr ⟨by omega, by rw [if_neg h, if_neg h2]⟩)

def Cd.unitsU (c : Int) (s : ByteArray) : List Cd.U := if c = 1 then Cd.utf8U s 0 else if c = 2 then Cd.latinU s 0 else Cd.wideU s (Cd.bom s).2 (Cd.bom s).1
end Go.Proofs.Ytdikkknjdbchbaa
