/-
  What the functions of worlds answer, in plain Lean: no program is in sight.
-/
import Derived.Test.YtdikkknjdbchbaaWoFind
namespace Go.Proofs.Ytdikkknjdbchbaa
open Go.RowKit
set_option linter.unusedVariables false

theorem Wo.okAt_of {W : Wo.W} (h : Wo.sound W = true) (k : Nat) (hk : k < W.1.length) : Wo.okAt W.1 k = true := by
  unfold Wo.sound at h
  simp only [Bool.and_eq_true, decide_eq_true_eq] at h
  exact h.2 k hk
theorem Wo.rising_of {W : Wo.W} (h : Wo.sound W = true) : Wo.rising W.1 := by
  have hs : ∀ j, j + 1 < W.1.length → Wo.lt (W.1.getD j Wo.e0).1 (W.1.getD (j + 1) Wo.e0).1 = true := fun j hj => by
    have := Wo.okAt_of h (j + 1) hj
    unfold Wo.okAt at this
    simp only [Bool.and_eq_true, Bool.or_eq_true, decide_eq_true_eq, Nat.add_sub_cancel] at this
    rcases this.2 with h0 | h0
    · omega
    · exact h0
  intro i j hij
  induction hij with
  | refl => exact hs i
  | @step m hm ih =>
    intro hj
    exact Wo.lt_trans _ _ _ (ih (Nat.lt_of_succ_lt hj)) (hs m hj)
theorem Wo.rising_tail {f : Wo.F} {fs : List Wo.F} (h : Wo.rising (f :: fs)) : Wo.rising fs := fun i j hij hj => by
  have := h (i + 1) (j + 1) (by omega) (by simpa using hj)
  simpa using this
def Wo.cut (fs : List Wo.F) (name : ByteArray) : Nat := (fs.takeWhile fun f => Wo.lt f.1 name).length
theorem Wo.cutAt_of : ∀ (fs : List Wo.F) (name : ByteArray), Wo.rising fs → Wo.cutAt fs name (Wo.cut fs name)
  | [], name, _ => ⟨Nat.le_refl _, fun j hj => by simp [Wo.cut] at hj, fun j _ hj => by simp at hj⟩
  | f :: fs, name, h => by
    obtain ⟨h1, h2, h3⟩ := Wo.cutAt_of fs name (Wo.rising_tail h)
    cases hl : Wo.lt f.1 name with
    | true =>
      have e : Wo.cut (f :: fs) name = Wo.cut fs name + 1 := by simp [Wo.cut, hl]
      rw [e]
      refine ⟨by simp; omega, fun j hj => ?_, fun j hj hj2 => ?_⟩
      · rcases j with _ | j
        · simpa using hl
        · simpa using h2 j (by omega)
      · rcases j with _ | j
        · omega
        · simpa using h3 j (by omega) (by simpa using hj2)
    | false =>
      have e : Wo.cut (f :: fs) name = 0 := by simp [Wo.cut, hl]
      rw [e]
      refine ⟨Nat.zero_le _, fun j hj => by omega, fun j _ hj2 => ?_⟩
      rcases j with _ | j
      · simpa using hl
      · cases hx : Wo.lt ((f :: fs).getD (j + 1) Wo.e0).1 name with
        | false => rfl
        | true =>
          have h0 := h 0 (j + 1) (by omega) hj2
          have := Wo.lt_trans _ _ _ h0 hx
          simp only [List.getD_cons_zero] at this
          unfold Wo.lt at hl
          rw [this] at hl
          cases hl

/-- No world. -/
def Wo.w0 : Wo.W := ([], ⟨#[]⟩, ⟨#[]⟩)
theorem Wo.In.w0 (w : World) : Wo.In w (.agg #[.slice none 0 0, .slice none 0 0, .slice none 0 0]) Wo.w0 := ⟨_, _, _, rfl, .inl ⟨rfl, rfl⟩, .inl ⟨rfl, rfl⟩, .inl ⟨rfl, rfl⟩⟩
def Wo.has (W : Wo.W) (name : ByteArray) : Bool := Wo.hit W.1 name (Wo.cut W.1 name)
def Wo.getS (W : Wo.W) (name : ByteArray) : ByteArray × Int :=
  if Wo.sound W = true then (if Wo.has W name = true then ((W.1.getD (Wo.cut W.1 name) Wo.e0).2, 0) else (⟨#[]⟩, 7)) else (⟨#[]⟩, 2)
def Wo.put1 (fs : List Wo.F) (name d : ByteArray) : List Wo.F :=
  fs.take (Wo.cut fs name) ++ [(name, d)] ++ fs.drop (if Wo.hit fs name (Wo.cut fs name) = true then Wo.cut fs name + 1 else Wo.cut fs name)
def Wo.putS (W : Wo.W) (name d : ByteArray) : Wo.W × Int :=
  if Wo.sound W = true then (if Wo.named name = true then (if d.size ≤ 65536 then (if Wo.has W name = true ∨ W.1.length < 64 then ((Wo.put1 W.1 name d, W.2.1, W.2.2), 0) else (Wo.w0, 9)) else (Wo.w0, 4)) else (Wo.w0, 1)) else (Wo.w0, 2)
def Wo.splice (old : ByteArray) (at_ : Nat) (d : ByteArray) : ByteArray := ⟨(old.data.toList.take at_ ++ d.data.toList ++ old.data.toList.drop (at_ + d.size)).toArray⟩
def Wo.writeS (W : Wo.W) (name : ByteArray) (at_ : Int) (d : ByteArray) : Wo.W × Int :=
  if (Wo.getS W name).2 = 0 then (if 0 ≤ at_ ∧ at_ ≤ (Wo.getS W name).1.size then (if (d.size : Int) ≤ 65536 - at_ then Wo.putS W name (Wo.splice (Wo.getS W name).1 at_.toNat d) else (Wo.w0, 4)) else (Wo.w0, 1)) else (Wo.w0, (Wo.getS W name).2)
def Wo.delS (W : Wo.W) (name : ByteArray) : Wo.W × Int :=
  if Wo.sound W = true then (if Wo.has W name = true then ((W.1.take (Wo.cut W.1 name) ++ W.1.drop (Wo.cut W.1 name + 1), W.2.1, W.2.2), 0) else (Wo.w0, 7)) else (Wo.w0, 2)
def Wo.bytesOf (l : List UInt8) : ByteArray := ⟨l.toArray⟩
def Wo.takeS (W : Wo.W) (n : Int) : ByteArray × Wo.W × Int :=
  if Wo.sound W = true then (if 0 ≤ n then (if n ≤ W.2.1.size then (Wo.bytesOf (W.2.1.data.toList.take n.toNat), (W.1, Wo.bytesOf (W.2.1.data.toList.drop n.toNat), W.2.2), 0) else (⟨#[]⟩, Wo.w0, 11)) else (⟨#[]⟩, Wo.w0, 1)) else (⟨#[]⟩, Wo.w0, 2)
def Wo.sayS (W : Wo.W) (d : ByteArray) : Wo.W × Int :=
  if Wo.sound W = true then (if d.size + W.2.2.size ≤ 65536 then ((W.1, W.2.1, Wo.bytesOf (W.2.2.data.toList ++ d.data.toList)), 0) else (Wo.w0, 4)) else (Wo.w0, 2)
end Go.Proofs.Ytdikkknjdbchbaa
