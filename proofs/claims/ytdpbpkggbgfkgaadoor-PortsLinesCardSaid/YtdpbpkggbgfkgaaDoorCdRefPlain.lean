/-
  The reference's units, in plain Lean.
-/
import Derived.Test.YtdpbpkggbgfkgaaDoorCdPlain
import Derived.Lib.DecodeN
import Derived.Laws.BitsLemmas
namespace Go.Proofs.YtdpbpkggbgfkgaaDoor
open Go.RowKit

/-- A unit of the reference: the character (0: none), whether there is none, where it begins. -/
def Cd.refU (u : Cd.U) : Int × Bool × Int := if u.2.1 then (u.1, false, u.2.2) else (0, true, u.2.2)
def Cd.cellsU (us : List (Int × Bool × Int)) : List Value := us.flatMap fun u => [.int .i32 u.1, .bool u.2.1, .int .i64 u.2.2]
theorem Cd.cellsU_append (a b : List (Int × Bool × Int)) : Cd.cellsU (a ++ b) = Cd.cellsU a ++ Cd.cellsU b := by simp [Cd.cellsU]
theorem Cd.cellsU_len (a : List (Int × Bool × Int)) : (Cd.cellsU a).length = a.length * 3 := by
  induction a with
  | nil => rfl
  | cons u t ih => simp only [Cd.cellsU, List.flatMap_cons, List.length_append, List.length_cons, List.length_nil] at *; omega

theorem Cd.and31 (x : Int) (h0 : 0 ≤ x) (h1 : x < 256) : bits .and .u8 x 31 = x % 32 := bits_mask .u8 8 (by decide) wraps_u8 5 (by decide) x h0 h1
theorem Cd.and15 (x : Int) (h0 : 0 ≤ x) (h1 : x < 256) : bits .and .u8 x 15 = x % 16 := bits_mask .u8 8 (by decide) wraps_u8 4 (by decide) x h0 h1
theorem Cd.and7 (x : Int) (h0 : 0 ≤ x) (h1 : x < 256) : bits .and .u8 x 7 = x % 8 := bits_mask .u8 8 (by decide) wraps_u8 3 (by decide) x h0 h1
theorem Cd.and63 (x : Int) (h0 : 0 ≤ x) (h1 : x < 256) : bits .and .u8 x 63 = x % 64 := bits_mask .u8 8 (by decide) wraps_u8 6 (by decide) x h0 h1

theorem Cd.utf8U_at (s : ByteArray) (k : Nat) (h : k < s.size) (V W : Nat) (hd : Lib.decodeN (s.size - k) (s.get! k).toNat (s.get! (k + 1)).toNat (s.get! (k + 2)).toNat (s.get! (k + 3)).toNat = (V, W)) (F : Bool) (hF : F = !decide (V ≠ 65533 ∨ 1 < W)) :
    (Cd.utf8U s k).map Cd.refU = (if F then ((0 : Int), true, (k : Int)) else ((V : Int), false, (k : Int))) :: (Cd.utf8U s (k + W)).map Cd.refU := by
  have e := Lib.decode_at s k
  rw [hd] at e
  rw [Cd.utf8U_one s k h, e, List.map_cons]
  subst hF
  unfold Cd.refU
  by_cases hc : V ≠ 65533 ∨ 1 < W <;> simp [hc]
end Go.Proofs.YtdpbpkggbgfkgaaDoor
