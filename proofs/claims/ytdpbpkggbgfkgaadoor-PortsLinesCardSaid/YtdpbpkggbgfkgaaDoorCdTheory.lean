/-
  What Decode and Encode have to do with one another, in plain Lean.
-/
import Derived.Test.YtdpbpkggbgfkgaaDoorCdEncAny
import Derived.Test.YtdpbpkggbgfkgaaDoorCdRefDecode
import Derived.Lib.TrimUEq
namespace Go.Proofs.YtdpbpkggbgfkgaaDoor
open Go.RowKit
open Go.Lib (decodeL encodeRune)
set_option linter.unusedVariables false

/-! ### UTF-8 -/
theorem Ru.b8_eq (b : UInt8) (z : Int) (h : z = (b.toNat : Int)) : z.toNat.toUInt8 = b := by
  subst h
  simp
theorem Ru.split_ok (l : List UInt8) (hne : l ≠ []) (V W : Nat) (hd : decodeL l = (V, W)) (h : V ≠ 65533 ∨ 1 < W) : l = encodeRune (V : Int) ++ l.drop W := by
  rw [Lib.decodeL_N] at hd
  obtain ⟨b0, t, rfl⟩ := List.exists_cons_of_ne_nil hne
  simp only [List.getD_cons_zero, List.getD_cons_succ, List.length_cons] at hd
  have h0 := b0.toNat_lt
  have h1 := (t.getD 0 0).toNat_lt
  have h2 := (t.getD 1 0).toNat_lt
  have h3 := (t.getD 2 0).toNat_lt
  unfold Lib.decodeN at hd
  unfold encodeRune
  split at hd
  · simp only [Prod.mk.injEq] at hd
    obtain ⟨rfl, rfl⟩ := hd
    rw [Lib.encodeRuneZ_one (by omega) (by omega)]
    simp only [List.map_cons, List.map_nil, List.drop_succ_cons, List.drop_zero, List.cons_append, List.nil_append]
    rw [Ru.b8_eq b0 _ rfl]
  split at hd
  · rename_i c1 c2
    split at hd
    · simp only [Prod.mk.injEq] at hd
      obtain ⟨rfl, rfl⟩ := hd
      obtain ⟨b1, t, rfl⟩ := List.exists_cons_of_ne_nil (l := t) (by intro e; subst e; simp at c2)
      simp only [List.getD_cons_zero, List.getD_cons_succ] at *
      rw [Lib.encodeRuneZ_two (by omega) (by omega)]
      simp only [List.map_cons, List.map_nil, List.drop_succ_cons, List.drop_zero, List.cons_append, List.nil_append]
      rw [Ru.b8_eq b0 _ (by omega), Ru.b8_eq b1 _ (by omega)]
    · simp only [Prod.mk.injEq] at hd
      omega
  split at hd
  · rename_i c1 c0 c2
    split at hd
    · simp only [Prod.mk.injEq] at hd
      obtain ⟨rfl, rfl⟩ := hd
      obtain ⟨b1, t, rfl⟩ := List.exists_cons_of_ne_nil (l := t) (by intro e; subst e; simp at c2)
      obtain ⟨b2, t, rfl⟩ := List.exists_cons_of_ne_nil (l := t) (by intro e; subst e; simp at c2)
      simp only [List.getD_cons_zero, List.getD_cons_succ] at *
      rw [Lib.encodeRuneZ_three (by omega)]
      simp only [List.map_cons, List.map_nil, List.drop_succ_cons, List.drop_zero, List.cons_append, List.nil_append]
      rw [Ru.b8_eq b0 _ (by omega), Ru.b8_eq b1 _ (by omega), Ru.b8_eq b2 _ (by omega)]
    · simp only [Prod.mk.injEq] at hd
      omega
  split at hd
  · rename_i c1 c0 c3 c2
    split at hd
    · simp only [Prod.mk.injEq] at hd
      obtain ⟨rfl, rfl⟩ := hd
      obtain ⟨b1, t, rfl⟩ := List.exists_cons_of_ne_nil (l := t) (by intro e; subst e; simp at c2)
      obtain ⟨b2, t, rfl⟩ := List.exists_cons_of_ne_nil (l := t) (by intro e; subst e; simp at c2)
      obtain ⟨b3, t, rfl⟩ := List.exists_cons_of_ne_nil (l := t) (by intro e; subst e; simp at c2)
      simp only [List.getD_cons_zero, List.getD_cons_succ] at *
      rw [Lib.encodeRuneZ_four (by omega) (by omega)]
      simp only [List.map_cons, List.map_nil, List.drop_succ_cons, List.drop_zero, List.cons_append, List.nil_append]
      rw [Ru.b8_eq b0 _ (by omega), Ru.b8_eq b1 _ (by omega), Ru.b8_eq b2 _ (by omega), Ru.b8_eq b3 _ (by omega)]
    · simp only [Prod.mk.injEq] at hd
      omega
  · simp only [Prod.mk.injEq] at hd
    omega

def Cd.allOk (us : List Cd.U) : Prop := ∀ u ∈ us, u.2.1 = true
theorem Cd.drop_ne (s : ByteArray) (k : Nat) (h : k < s.size) : s.data.toList.drop k ≠ [] := by
  have hl : s.data.toList.length = s.size := by simp
  intro e
  have := congrArg List.length e
  rw [List.length_drop, hl] at this
  simp at this
  omega
/-- What was read without a fault is the text of what was read. -/
theorem Cd.utf8_one (s : ByteArray) (k : Nat) (h : k < s.size) (hok : decide ((Utf8.decode s k).1 ≠ 65533 ∨ 1 < (Utf8.decode s k).2) = true) :
    s.data.toList.drop k = encodeRune ((Utf8.decode s k).1 : Int) ++ s.data.toList.drop (k + (Utf8.decode s k).2) ∧ (Utf8.decode s k).2 = (encodeRune ((Utf8.decode s k).1 : Int)).length := by
  have hne := Cd.drop_ne s k h
  have hd : decodeL (s.data.toList.drop k) = ((Utf8.decode s k).1, (Utf8.decode s k).2) := by rw [← Ru.decode_drop]
  have h1 := Ru.split_ok _ hne _ _ hd (of_decide_eq_true hok)
  rw [List.drop_drop] at h1
  refine ⟨h1, ?_⟩
  have h2 := Ru.decode_encode ((Utf8.decode s k).1 : Int) (Cd.decode_okR s k h) (s.data.toList.drop (k + (Utf8.decode s k).2))
  rw [← h1, hd] at h2
  exact congrArg Prod.snd h2
theorem Cd.utf8_text (s : ByteArray) : ∀ n k, s.size - k ≤ n → Cd.allOk (Cd.utf8U s k) → s.data.toList.drop k = Ru.encs ((Cd.utf8U s k).map (·.1)) := by
  have hl : s.data.toList.length = s.size := by simp
  intro n
  induction n with
  | zero => intro k h _; rw [Cd.utf8U_end s k (by omega), List.drop_eq_nil_of_le (by omega)]; rfl
  | succ n ih =>
    intro k h hok
    by_cases hk : k < s.size
    · have hw := Lib.decode_width_pos s k hk
      rw [Cd.utf8U_one s k hk] at hok ⊢
      have h1 := Cd.utf8_one s k hk (hok _ List.mem_cons_self)
      rw [h1.1, List.map_cons, Ru.encs_cons, ih _ (by omega) (fun u hu => hok u (List.mem_cons_of_mem _ hu))]
    · rw [Cd.utf8U_end s k hk, List.drop_eq_nil_of_le (by omega)]; rfl
/-- The text of characters is read as they are. -/
theorem Cd.utf8_back (s : ByteArray) : ∀ (rs : List Int) (k : Nat), s.data.toList.drop k = Ru.encs rs → (∀ r ∈ rs, Ru.okR r) → (Cd.utf8U s k).map (·.1) = rs ∧ Cd.allOk (Cd.utf8U s k)
  | [], k, h, _ => by
    have hl : s.data.toList.length = s.size := by simp
    have hk : ¬ k < s.size := fun hk => Cd.drop_ne s k hk h
    rw [Cd.utf8U_end s k hk]
    exact ⟨rfl, fun u hu => by cases hu⟩
  | r :: rs, k, h, hok => by
    have hl : s.data.toList.length = s.size := by simp
    rw [Ru.encs_cons] at h
    have hlen := Ru.encode_length r
    have hk : k < s.size := by
      have := congrArg List.length h
      rw [List.length_drop, List.length_append] at this
      omega
    have hr := hok r List.mem_cons_self
    have hd := Ru.decode_encode r hr (Ru.encs rs)
    rw [← h, ← Ru.decode_drop] at hd
    have e1 : ((Utf8.decode s k).1 : Int) = r := by rw [hd]; unfold Ru.okR at hr; simp; omega
    have e2 : (Utf8.decode s k).2 = (encodeRune r).length := by rw [hd]
    have hrest : s.data.toList.drop (k + (Utf8.decode s k).2) = Ru.encs rs := by
      rw [e2, ← List.drop_drop, h, List.drop_left]
    obtain ⟨i1, i2⟩ := Cd.utf8_back s rs _ hrest (fun x hx => hok x (List.mem_cons_of_mem _ hx))
    rw [Cd.utf8U_one s k hk]
    refine ⟨by rw [List.map_cons, i1, e1], fun u hu => ?_⟩
    rcases List.mem_cons.1 hu with rfl | hu
    · refine decide_eq_true ?_
      by_cases h6 : r = 65533
      · right
        rw [e2, h6]
        decide +kernel
      · left
        omega
    · exact i2 u hu
/-- What stands ahead of a unit. -/
theorem Cd.utf8_ahead (s : ByteArray) (u : Cd.U) (post : List Cd.U) : ∀ (pre : List Cd.U) (k : Nat), Cd.utf8U s k = pre ++ u :: post → Cd.allOk pre → ∃ q : Nat, u.2.2 = (q : Int) ∧ k ≤ q ∧ q < s.size ∧ s.data.toList.drop k = Ru.encs (pre.map (·.1)) ++ s.data.toList.drop q
  | [], k, h, _ => by
    by_cases hk : k < s.size
    · rw [Cd.utf8U_one s k hk] at h
      simp only [List.nil_append, List.cons.injEq] at h
      obtain ⟨rfl, _⟩ := h
      exact ⟨k, rfl, Nat.le_refl _, hk, by simp [Ru.encs_nil]⟩
    · rw [Cd.utf8U_end s k hk] at h
      cases h
  | v :: pre, k, h, hok => by
    by_cases hk : k < s.size
    · rw [Cd.utf8U_one s k hk] at h
      simp only [List.cons_append, List.cons.injEq] at h
      obtain ⟨rfl, h⟩ := h
      obtain ⟨q, h1, h2, h3, h4⟩ := Cd.utf8_ahead s u post pre _ h (fun x hx => hok x (List.mem_cons_of_mem _ hx))
      have h5 := Cd.utf8_one s k hk (hok _ List.mem_cons_self)
      refine ⟨q, h1, by omega, h3, ?_⟩
      rw [h5.1, h4, List.map_cons, Ru.encs_cons, List.append_assoc]
    · rw [Cd.utf8U_end s k hk] at h
      cases h
theorem Cd.take_list (s : ByteArray) (q : Nat) : (s.extract 0 q).data.toList = s.data.toList.take q := by
  simp [ByteArray.data_extract]
theorem Cd.utf8_prefix (s : ByteArray) (u : Cd.U) (pre post : List Cd.U) (h : Cd.utf8U s 0 = pre ++ u :: post) (hok : Cd.allOk pre) : ∃ q : Nat, u.2.2 = (q : Int) ∧ q < s.size ∧ Cd.allOk (Cd.utf8U (s.extract 0 q) 0) ∧ (Cd.utf8U (s.extract 0 q) 0).map (·.1) = pre.map (·.1) := by
  obtain ⟨q, h1, h2, h3, h4⟩ := Cd.utf8_ahead s u post pre 0 h hok
  have hl : s.data.toList.length = s.size := by simp
  have hlen : (Ru.encs (pre.map (·.1))).length = q := by
    have := congrArg List.length h4
    rw [List.length_append, List.length_drop, List.length_drop, hl] at this
    omega
  have ht : (s.extract 0 q).data.toList.drop 0 = Ru.encs (pre.map (·.1)) := by
    rw [Cd.take_list, List.drop_zero]
    rw [List.drop_zero] at h4
    rw [h4, ← hlen, List.take_left]
  obtain ⟨i1, i2⟩ := Cd.utf8_back (s.extract 0 q) (pre.map (·.1)) 0 ht (fun r hr => by
    obtain ⟨v, hv, rfl⟩ := List.mem_map.1 hr
    exact (Cd.utf8U_mem s _ 0 (Nat.le_refl _) v (by rw [h]; exact List.mem_append_left _ hv)).1)
  exact ⟨q, h1, h3, i2, i1⟩
end Go.Proofs.YtdpbpkggbgfkgaaDoor
