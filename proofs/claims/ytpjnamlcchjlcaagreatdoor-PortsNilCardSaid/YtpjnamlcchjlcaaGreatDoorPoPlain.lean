/-
  Ports of characters, in plain Lean: what is left is the text of some characters.
-/
import Derived.Test.YtpjnamlcchjlcaaGreatDoorCdDecode
import Derived.Test.YtpjnamlcchjlcaaGreatDoorBy
import Derived.Lib.Small
namespace Go.Proofs.YtpjnamlcchjlcaaGreatDoor
open Go.RowKit
set_option linter.unusedVariables false

theorem Cd.size_mk (l : List UInt8) : (ByteArray.mk l.toArray).size = l.length := by show l.toArray.size = _; simp
theorem Cd.BytesAt.ofIn {w : World} {v : Value} {s : ByteArray} (h : By.In w v s) : Cd.BytesAt w w.heap.size v s := by
  rcases h with ⟨h, h0⟩ | ⟨a, cap, h, h0⟩ | ⟨h0, b, off, cap, hv, h1, h2, hc⟩
  · exact .inl ⟨h0, _, _, h⟩
  · exact .inl ⟨h0, _, _, h⟩
  · exact .inr ⟨h0, b, off, cap, hv, h1, h2, hc⟩
/-- The text of characters. -/
def Po.txt (ys : List Int) : ByteArray := ⟨(Ru.encs ys).toArray⟩
theorem Po.txt_size (ys : List Int) : (Po.txt ys).size = (Ru.encs ys).length := Cd.size_mk _
theorem Po.txt_list (ys : List Int) : (Po.txt ys).data.toList = Ru.encs ys := by simp [Po.txt]
/-- Any characters are written as some that are good. -/
def Po.fix (r : Int) : Int := if (0 ≤ r ∧ r < 55296) ∨ (57343 < r ∧ r ≤ 1114111) then r else 65533
theorem Po.fix_ok (r : Int) : Ru.okR (Po.fix r) := by
  unfold Ru.okR Po.fix
  split <;> omega
theorem Po.fix_enc (r : Int) : Lib.encodeRune (Po.fix r) = Lib.encodeRune r := by
  unfold Po.fix
  split
  · rfl
  · rw [Ru.encode_bad (r := r) (by unfold Ru.okR; omega)]
theorem Po.encs_fix : ∀ xs : List Int, Ru.encs (xs.map Po.fix) = Ru.encs xs
  | [] => rfl
  | r :: xs => by rw [List.map_cons, Ru.encs_cons, Ru.encs_cons, Po.fix_enc, Po.encs_fix xs]
theorem Po.runeLen (r : Int) (h : Ru.okR r) : Lib.runeLen r = ((Lib.encodeRune r).length : Int) := by
  unfold Ru.okR at h
  rw [Lib.encodeRune, List.length_map]
  unfold Lib.runeLen Lib.encodeRuneZ
  repeat' split
  all_goals first | omega | (simp; done) | (simp only [List.length_cons, List.length_nil]; omega)
theorem Po.decode (r : Int) (ys : List Int) (h : Ru.okR r) : ((Lib.decodeGo (Po.txt (r :: ys))).1 : Int) = r := by
  have h1 := Ru.encode_length r
  have hs : (Po.txt (r :: ys)).size ≠ 0 := by rw [Po.txt_size, Ru.encs_cons, List.length_append]; omega
  unfold Lib.decodeGo
  rw [if_neg hs, Ru.decode_drop, List.drop_zero, Po.txt_list, Ru.encs_cons, Ru.decode_encode r h]
  unfold Ru.okR at h
  show ((r.toNat : Nat) : Int) = r
  omega
theorem Po.ne (r : Int) (ys : List Int) : ∃ a t, Ru.encs (r :: ys) = a :: t := by
  rw [Ru.encs_cons]
  obtain ⟨a, t, e⟩ := List.exists_cons_of_ne_nil (Ru.encode_ne r)
  exact ⟨a, t ++ Ru.encs ys, by rw [e]; rfl⟩
theorem Po.rest (r : Int) (ys : List Int) : (Po.txt (r :: ys)).extract (Lib.encodeRune r).length (Po.txt (r :: ys)).size = Po.txt ys := by
  have e : (Po.txt (r :: ys)).data.toList = Lib.encodeRune r ++ Ru.encs ys := by rw [Po.txt_list, Ru.encs_cons]
  apply ByteArray.ext
  apply Array.toList_inj.1
  rw [Po.txt_list]
  simp only [ByteArray.data_extract, Array.toList_extract, e, List.extract_eq_take_drop, List.drop_left]
  rw [Po.txt_size, Ru.encs_cons, List.length_append]
  exact List.take_of_length_le (by omega)
end Go.Proofs.YtpjnamlcchjlcaaGreatDoor
