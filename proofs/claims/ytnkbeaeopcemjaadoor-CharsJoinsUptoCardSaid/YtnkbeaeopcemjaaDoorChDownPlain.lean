/-
  Small letters of a text and titles, in plain Lean, and that the document's way over the list of characters is the program's way from character to character. No conditions.
-/
import Derived.Test.YtnkbeaeopcemjaaDoorChTextPlain
namespace Go.Proofs.YtnkbeaeopcemjaaDoor.Ch
open Ru

/-- The small letter of r, a letter ahead of it or not, next behind it. -/
def sig (ahead : Bool) (next : Option Int) : Int := if ahead && !(next.any letterB) then 962 else 963
def smallR (ahead : Bool) (r : Int) (next : Option Int) : Int :=
  if r = 931 then sig ahead next else downZ r
def downF (ahead : Bool) : List Int → List Int
  | [] => []
  | r :: rs => smallR ahead r rs.head? :: downF (letterB r) rs
def titleF (ahead : Bool) : List Int → List Int
  | [] => []
  | r :: rs => (if ahead || !letterB r then [smallR ahead r rs.head?] else if r = 223 then [83, 115] else [upZ r]) ++ titleF (letterB r) rs
def downL (l : List UInt8) : List UInt8 := encs (downF false (runes l))
def titleL (l : List UInt8) : List UInt8 := encs (titleF false (runes l))

def nxt (s : ByteArray) (q : Nat) : Option Int := if q < s.size then some ((Utf8.decode s q).1 : Int) else none
theorem runes_at (s : ByteArray) (pos : Nat) (h : pos < s.size) : runes (s.data.toList.drop pos) = ((Utf8.decode s pos).1 : Int) :: runes (s.data.toList.drop (pos + (Utf8.decode s pos).2)) := by
  have hs : s.data.toList.length = s.size := by simp
  rw [runes_step _ (by intro h2; have := congrArg List.length h2; simp at this; omega), ← decode_drop, List.drop_drop]
theorem runes_end (s : ByteArray) (pos : Nat) (h : ¬ pos < s.size) : runes (s.data.toList.drop pos) = [] := by
  have hs : s.data.toList.length = s.size := by simp
  rw [List.drop_eq_nil_of_le (by omega)]
  rfl
theorem nxt_eq (s : ByteArray) (q : Nat) : (runes (s.data.toList.drop q)).head? = nxt s q := by
  unfold nxt
  by_cases h : q < s.size
  · rw [if_pos h, runes_at s q h]; rfl
  · rw [if_neg h, runes_end s q h]; rfl

theorem downF_length : ∀ (b : Bool) (rs : List Int), (downF b rs).length = rs.length
  | _, [] => rfl
  | _, r :: rs => by simp [downF, downF_length (letterB r) rs]
/-- The k-th of downF, by what stands beside the k-th. -/
def before (rs : List Int) (k : Nat) : Bool := decide (0 < k) && letterB (rs.getD (k - 1) 0)
theorem downF_drop (b : Bool) : ∀ (rs : List Int) (k : Nat), k < rs.length → (downF b rs).drop k = smallR (if k = 0 then b else letterB (rs.getD (k - 1) 0)) (rs.getD k 0) (rs[k + 1]?) :: (downF b rs).drop (k + 1) := by
  intro rs
  induction rs generalizing b with
  | nil => intro k h; simp at h
  | cons r rs ih =>
    intro k h
    match k, h with
    | 0, _ => cases rs <;> simp [downF]
    | k + 1, h =>
      have hk : k < rs.length := by simpa using h
      have := ih (letterB r) k hk
      show (downF (letterB r) rs).drop k = _
      rw [this]
      rw [if_neg (Nat.succ_ne_zero k)]
      have e : (if k = 0 then letterB r else letterB (rs.getD (k - 1) 0)) = letterB ((r :: rs).getD (k + 1 - 1) 0) := by
        match k with
        | 0 => rfl
        | j + 1 => rfl
      rw [e]
      rfl
theorem titleF_drop (b : Bool) : ∀ (rs : List Int) (k : Nat), k < rs.length → titleF (if k = 0 then b else letterB (rs.getD (k - 1) 0)) (rs.drop k) =
    (if (if k = 0 then b else letterB (rs.getD (k - 1) 0)) || !letterB (rs.getD k 0) then [smallR (if k = 0 then b else letterB (rs.getD (k - 1) 0)) (rs.getD k 0) (rs[k + 1]?)] else if rs.getD k 0 = 223 then [83, 115] else [upZ (rs.getD k 0)]) ++ titleF (letterB (rs.getD k 0)) (rs.drop (k + 1)) := by
  intro rs k h
  have hd : rs.drop k = rs.getD k 0 :: rs.drop (k + 1) := by
    rw [List.drop_eq_getElem_cons h]
    simp [List.getElem?_eq_getElem h]
  rw [hd]
  simp only [titleF]
  have hh : (rs.drop (k + 1)).head? = rs[k + 1]? := by simp
  rw [hh]

theorem titleF_len : ∀ (b : Bool) (rs : List Int), (titleF b rs).length ≤ 2 * rs.length
  | _, [] => by simp [titleF]
  | b, r :: rs => by
    have := titleF_len (letterB r) rs
    simp only [titleF, List.length_append, List.length_cons]
    repeat' split
    all_goals simp
    all_goals omega
end Go.Proofs.YtnkbeaeopcemjaaDoor.Ch
