/-
  The worlds that the steps answer fit into memory.
-/
import Derived.Test.YtdikkknjdbchbaaWoRefWrite
import Derived.Test.YtdikkknjdbchbaaWoRefTake
import Derived.Test.YtdikkknjdbchbaaWoRefSay
namespace Go.Proofs.Ytdikkknjdbchbaa
open Go.RowKit
set_option linter.unusedVariables false
set_option linter.unusedSimpArgs false

theorem Wo.fit_mem {fs : List Wo.F} {inp out : ByteArray} (h1 : fs.length ≤ 1000) (h2 : inp.size ≤ 1000000) (h3 : out.size ≤ 1000000) (h4 : ∀ f ∈ fs, f.2.size ≤ 65536) : Wo.Fit (fs, inp, out) := by
  refine ⟨by show fs.length * 40 ≤ _; omega, by show inp.size ≤ _; omega, by show out.size ≤ _; omega, fun k hk => ?_⟩
  have hk' : k < fs.length := hk
  show (fs.getD k Wo.e0).2.size ≤ _
  rw [List.getD_eq_getElem?_getD, List.getElem?_eq_getElem hk', Option.getD_some]
  have := h4 _ (List.getElem_mem hk')
  omega
theorem Wo.fit_w0 : Wo.Fit Wo.w0 := Wo.fit_mem (by decide) (by decide) (by decide) (fun f hf => by cases hf)
theorem Wo.sound_mem {W : Wo.W} (h : Wo.sound W = true) : ∀ f ∈ W.1, f.2.size ≤ 65536 := by
  intro f hf
  obtain ⟨k, hk, rfl⟩ := List.getElem_of_mem hf
  have := (Wo.sound_bd h).2.2.2 k hk
  rwa [List.getD_eq_getElem?_getD, List.getElem?_eq_getElem hk, Option.getD_some] at this
theorem Wo.fit_put (W : Wo.W) (name d : ByteArray) : Wo.Fit (Wo.putS W name d).1 := by
  unfold Wo.putS
  split
  · rename_i hs
    split
    · split
      · rename_i hd
        split
        · obtain ⟨h1, h2, h3, _⟩ := Wo.sound_bd hs
          refine Wo.fit_mem ?_ (by omega) (by omega) (fun f hf => ?_)
          · unfold Wo.put1
            simp only [List.length_append, List.length_take, List.length_drop, List.length_cons, List.length_nil]
            split <;> omega
          · unfold Wo.put1 at hf
            rcases List.mem_append.1 hf with hf | hf
            · rcases List.mem_append.1 hf with hf | hf
              · exact Wo.sound_mem hs f (List.mem_of_mem_take hf)
              · simp only [List.mem_singleton] at hf
                subst hf
                exact hd
            · exact Wo.sound_mem hs f (List.mem_of_mem_drop hf)
        · exact Wo.fit_w0
      · exact Wo.fit_w0
    · exact Wo.fit_w0
  · exact Wo.fit_w0
theorem Wo.fit_write (W : Wo.W) (name : ByteArray) (n : Int) (d : ByteArray) : Wo.Fit (Wo.writeS W name n d).1 := by
  unfold Wo.writeS
  split
  · split
    · split
      · exact Wo.fit_put _ _ _
      · exact Wo.fit_w0
    · exact Wo.fit_w0
  · exact Wo.fit_w0
theorem Wo.fit_del (W : Wo.W) (name : ByteArray) : Wo.Fit (Wo.delS W name).1 := by
  unfold Wo.delS
  split
  · rename_i hs
    split
    · obtain ⟨h1, h2, h3, _⟩ := Wo.sound_bd hs
      refine Wo.fit_mem ?_ (by omega) (by omega) (fun f hf => ?_)
      · simp only [List.length_append, List.length_take, List.length_drop]
        omega
      · rcases List.mem_append.1 hf with hf | hf
        · exact Wo.sound_mem hs f (List.mem_of_mem_take hf)
        · exact Wo.sound_mem hs f (List.mem_of_mem_drop hf)
    · exact Wo.fit_w0
  · exact Wo.fit_w0
theorem Wo.fit_take (W : Wo.W) (n : Int) : Wo.Fit (Wo.takeS W n).2.1 ∧ (Wo.takeS W n).1.size ≤ 65536 := by
  unfold Wo.takeS
  split
  · rename_i hs
    split
    · split
      · obtain ⟨h1, h2, h3, _⟩ := Wo.sound_bd hs
        refine ⟨Wo.fit_mem (by omega) ?_ (by omega) (Wo.sound_mem hs), ?_⟩
        · rw [Wo.bytesOf_size, List.length_drop, Wo.len_list]; omega
        · rw [Wo.bytesOf_size, List.length_take, Wo.len_list]; omega
      · exact ⟨Wo.fit_w0, Nat.zero_le _⟩
    · exact ⟨Wo.fit_w0, Nat.zero_le _⟩
  · exact ⟨Wo.fit_w0, Nat.zero_le _⟩
theorem Wo.fit_say (W : Wo.W) (d : ByteArray) : Wo.Fit (Wo.sayS W d).1 := by
  unfold Wo.sayS
  split
  · rename_i hs
    split
    · rename_i hd
      obtain ⟨h1, h2, h3, _⟩ := Wo.sound_bd hs
      refine Wo.fit_mem (by omega) (by omega) ?_ (Wo.sound_mem hs)
      rw [Wo.bytesOf_size, List.length_append, Wo.len_list, Wo.len_list]; omega
    · exact Wo.fit_w0
  · exact Wo.fit_w0
theorem Wo.get_size (W : Wo.W) (name : ByteArray) : (Wo.getS W name).1.size ≤ 65536 := by
  unfold Wo.getS
  split
  · rename_i hs
    split
    · rename_i hh
      unfold Wo.has Wo.hit at hh
      simp only [Bool.and_eq_true, decide_eq_true_eq] at hh
      exact (Wo.sound_bd hs).2.2.2 _ hh.1
    · exact Nat.zero_le _
  · exact Nat.zero_le _
end Go.Proofs.Ytdikkknjdbchbaa
