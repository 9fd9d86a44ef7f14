/-
  What Decode and Encode have to do with one another, in plain Lean: UTF-16, one byte a character, and the whole.
-/
import Derived.Test.YtdpbpkggbgfkgaaDoorCdTheory
namespace Go.Proofs.YtdpbpkggbgfkgaaDoor
open Go.RowKit
open Go.Lib (decodeL encodeRune)
set_option linter.unusedVariables false

/-! ### bytes -/
theorem Cd.byt_list (s : ByteArray) (i : Nat) : Cd.byt s i = ((s.data.toList.getD i 0).toNat : Int) := by
  unfold Cd.byt
  rw [← Lib.getD_get!']
theorem Cd.byt_take (s : ByteArray) (q i : Nat) (h : i < q) : Cd.byt (s.extract 0 q) i = Cd.byt s i := by
  rw [Cd.byt_list, Cd.byt_list, Cd.take_list]
  congr 2
  rw [List.getD_eq_getElem?_getD, List.getD_eq_getElem?_getD, List.getElem?_take, if_pos h]
theorem Cd.size_take (s : ByteArray) (q : Nat) (h : q ≤ s.size) : (s.extract 0 q).size = q := by
  simp
  omega

/-! ### UTF-16 -/
theorem Cd.num_take (s : ByteArray) (low q i : Nat) (hq : q ≤ s.size) (hl : low ≤ 1) (h : i + 2 ≤ q) : Cd.num (s.extract 0 q) low i = Cd.num s low i := by
  unfold Cd.num
  rw [Cd.size_take s q hq, if_neg (by omega), if_neg (by omega), Cd.byt_take s q _ (by omega), Cd.byt_take s q _ (by omega)]
theorem Cd.num_off (s : ByteArray) (low q i : Nat) (hq : q ≤ s.size) (h : ¬ i + 2 ≤ q) : Cd.num (s.extract 0 q) low i = -1 := by
  unfold Cd.num
  rw [Cd.size_take s q hq, if_pos (by omega)]
theorem Cd.wide_prefix (s : ByteArray) (low : Nat) (hl : low ≤ 1) (u : Cd.U) (post : List Cd.U) : ∀ (pre : List Cd.U) (k : Nat), Cd.wideU s low k = pre ++ u :: post → Cd.allOk pre → ∃ q : Nat, u.2.2 = (q : Int) ∧ k ≤ q ∧ q < s.size ∧ Cd.allOk (Cd.wideU (s.extract 0 q) low k)
  | [], k, h, _ => by
    by_cases hk : k < s.size
    · refine ⟨k, ?_, Nat.le_refl _, hk, ?_⟩
      · by_cases hp : Cd.pair (Cd.num s low k) (Cd.num s low (k + 2))
        · rw [Cd.wideU_pair s low k hk hp] at h
          simp only [List.nil_append, List.cons.injEq] at h
          rw [← h.1]
        · rw [Cd.wideU_one s low k hk hp] at h
          simp only [List.nil_append, List.cons.injEq] at h
          rw [← h.1]
      · rw [Cd.wideU_end _ low k (by rw [Cd.size_take s k (by omega)]; omega)]
        intro u hu
        cases hu
    · rw [Cd.wideU_end s low k hk] at h
      cases h
  | v :: pre, k, h, hok => by
    by_cases hk : k < s.size
    · by_cases hp : Cd.pair (Cd.num s low k) (Cd.num s low (k + 2))
      · rw [Cd.wideU_pair s low k hk hp] at h
        simp only [List.cons_append, List.cons.injEq] at h
        obtain ⟨rfl, h⟩ := h
        obtain ⟨q, h1, h2, h3, h4⟩ := Cd.wide_prefix s low hl u post pre _ h (fun x hx => hok x (List.mem_cons_of_mem _ hx))
        refine ⟨q, h1, by omega, h3, ?_⟩
        rw [Cd.wideU_pair _ low k (by rw [Cd.size_take s q (by omega)]; omega) (by rw [Cd.num_take s low q _ (by omega) hl (by omega), Cd.num_take s low q _ (by omega) hl (by omega)]; exact hp)]
        intro u hu
        rcases List.mem_cons.1 hu with rfl | hu
        · rfl
        · exact h4 u hu
      · rw [Cd.wideU_one s low k hk hp] at h
        simp only [List.cons_append, List.cons.injEq] at h
        obtain ⟨rfl, h⟩ := h
        obtain ⟨q, h1, h2, h3, h4⟩ := Cd.wide_prefix s low hl u post pre _ h (fun x hx => hok x (List.mem_cons_of_mem _ hx))
        have hv := hok _ List.mem_cons_self
        have hn := Cd.num_take s low q k (by omega) hl (by omega)
        have hp2 : ¬ Cd.pair (Cd.num (s.extract 0 q) low k) (Cd.num (s.extract 0 q) low (k + 2)) := by
          rw [hn]
          by_cases h5 : k + 2 + 2 ≤ q
          · rw [Cd.num_take s low q _ (by omega) hl h5]
            exact hp
          · rw [Cd.num_off s low q _ (by omega) h5]
            unfold Cd.pair
            omega
        refine ⟨q, h1, by omega, h3, ?_⟩
        rw [Cd.wideU_one _ low k (by rw [Cd.size_take s q (by omega)]; omega) hp2, hn]
        intro u hu
        rcases List.mem_cons.1 hu with rfl | hu
        · exact hv
        · exact h4 u hu
    · rw [Cd.wideU_end s low k hk] at h
      cases h
theorem Cd.bom_prefix (s : ByteArray) (q : Nat) (hq : q ≤ s.size) (h : (Cd.bom s).1 ≤ q) : Cd.bom (s.extract 0 q) = Cd.bom s ∨ q < 2 ∧ Cd.bom s = (0, 0) ∧ Cd.bom (s.extract 0 q) = (0, 0) := by
  by_cases h2 : 2 ≤ q
  · left
    unfold Cd.bom
    rw [Cd.size_take s q hq, Cd.byt_take s q 0 (by omega), Cd.byt_take s q 1 (by omega)]
    have e1 : (2 ≤ q) ↔ (2 ≤ s.size) := ⟨fun _ => by omega, fun _ => h2⟩
    simp only [e1]
  · right
    have e : Cd.bom (s.extract 0 q) = (0, 0) := by
      unfold Cd.bom
      rw [Cd.size_take s q hq, if_neg (by omega), if_neg (by omega)]
    refine ⟨by omega, ?_, e⟩
    rcases Cd.bom_split s with ⟨_, _, _, e2⟩ | ⟨_, _, _, e2⟩ | ⟨_, e2⟩
    · rw [e2] at h; simp at h; omega
    · rw [e2] at h; simp at h; omega
    · exact e2
theorem Cd.bom_low (s : ByteArray) : (Cd.bom s).2 ≤ 1 := by
  rcases Cd.bom_split s with ⟨_, _, _, e2⟩ | ⟨_, _, _, e2⟩ | ⟨_, e2⟩ <;> rw [e2] <;> simp

theorem Cd.latin_ok (s : ByteArray) : ∀ n k, s.size - k ≤ n → Cd.allOk (Cd.latinU s k) := by
  intro n
  induction n with
  | zero => intro k h u hu; rw [Cd.latinU_end s k (by omega)] at hu; cases hu
  | succ n ih =>
    intro k h u hu
    by_cases hk : k < s.size
    · rw [Cd.latinU_one s k hk] at hu
      rcases List.mem_cons.1 hu with rfl | hu
      · rfl
      · exact ih _ (by omega) u hu
    · rw [Cd.latinU_end s k hk] at hu; cases hu

/-- What stands ahead of a fault is read without one. -/
theorem Cd.units_prefix (c : Int) (s : ByteArray) (u : Cd.U) (pre post : List Cd.U) (h : Cd.unitsU c s = pre ++ u :: post) (hok : Cd.allOk pre) (hbad : ¬ u.2.1 = true) : ∃ q : Nat, u.2.2 = (q : Int) ∧ q < s.size ∧ Cd.allOk (Cd.unitsU c (s.extract 0 q)) := by
  unfold Cd.unitsU at h ⊢
  split at h
  · rename_i hc
    obtain ⟨q, h1, h2, h3, _⟩ := Cd.utf8_prefix s u pre post h hok
    exact ⟨q, h1, h2, by rw [if_pos hc]; exact h3⟩
  split at h
  · exact absurd (Cd.latin_ok s _ 0 (Nat.le_refl _) u (by rw [h]; simp)) hbad
  · rename_i hc1 hc2
    obtain ⟨q, h1, h2, h3, h4⟩ := Cd.wide_prefix s _ (Cd.bom_low s) u post pre _ h hok
    refine ⟨q, h1, h3, ?_⟩
    rw [if_neg hc1, if_neg hc2]
    rcases Cd.bom_prefix s q (by omega) h2 with e | ⟨e1, e2, e3⟩
    · rw [e]; exact h4
    · rw [e3]; rw [e2] at h4; exact h4

/-! ### Decode and Encode where a fault is raised -/
theorem Cd.split_bad (P : Cd.U → Prop) (us : List Cd.U) : (∀ u ∈ us, P u) ∨ ∃ pre u post, us = pre ++ u :: post ∧ (∀ v ∈ pre, P v) ∧ ¬ P u := by
  induction us with
  | nil => exact .inl (fun u hu => by cases hu)
  | cons v t ih =>
    by_cases hv : P v
    · rcases ih with h | ⟨pre, u, post, rfl, h1, h2⟩
      · left
        intro u hu
        rcases List.mem_cons.1 hu with rfl | hu
        · exact hv
        · exact h u hu
      · right
        refine ⟨v :: pre, u, post, rfl, ?_, h2⟩
        intro x hx
        rcases List.mem_cons.1 hx with rfl | hx
        · exact hv
        · exact h1 x hx
    · exact .inr ⟨[], v, t, rfl, (fun x hx => by cases hx), hv⟩
theorem Cd.feed_ok (m : Int) : ∀ (us : List Cd.U) (xs : List Int), Cd.allOk us → Cd.feed m us xs 0 0 = (xs ++ us.map (·.1), 0, 0)
  | [], xs, _ => by simp [Cd.feed]
  | (r, ok, p) :: us, xs, h => by
    have h1 : ok = true := h _ List.mem_cons_self
    subst h1
    rw [Cd.feed, if_pos (by rfl)]
    show Cd.feed m us (xs ++ [r]) 0 0 = _
    rw [Cd.feed_ok m us _ (fun u hu => h u (List.mem_cons_of_mem _ hu))]
    simp
theorem Cd.feed_bad (u : Cd.U) (hu : ¬ u.2.1 = true) (post : List Cd.U) : ∀ (pre : List Cd.U) (xs : List Int), Cd.allOk pre → (Cd.feed 0 (pre ++ u :: post) xs 0 0).2 = (u.2.2, 6)
  | [], xs, _ => by
    obtain ⟨r, ok, p⟩ := u
    have h1 : ok = false := by simpa using hu
    subst h1
    rw [List.nil_append, Cd.feed, if_neg (by decide)]
    rfl
  | (r, ok, p) :: pre, xs, h => by
    have h1 : ok = true := h _ List.mem_cons_self
    subst h1
    rw [List.cons_append, Cd.feed, if_pos (by rfl)]
    exact Cd.feed_bad u hu post pre _ (fun x hx => h x (List.mem_cons_of_mem _ hx))
theorem Cd.dec_ok (c l m : Int) (s : ByteArray) (hc : Cd.chkN c l m s.size = 0) (h : Cd.allOk (Cd.unitsU c s)) : Cd.decG c l m s = (Ru.encs (Cd.endsL l ((Cd.unitsU c s).map (·.1))), 0, 0) := by
  unfold Cd.decG
  rw [if_neg (by simp [hc]), Cd.feed_ok m _ _ h, if_neg (by simp)]
  simp
theorem Cd.dec_bad (c l : Int) (s : ByteArray) (hc : Cd.chkN c l 0 s.size = 0) (u : Cd.U) (pre post : List Cd.U) (h : Cd.unitsU c s = pre ++ u :: post) (hok : Cd.allOk pre) (hbad : ¬ u.2.1 = true) : Cd.decG c l 0 s = ([], u.2.2, 6) := by
  have h1 := Cd.feed_bad u hbad post pre [] hok
  unfold Cd.decG
  rw [if_neg (by simp [hc]), h, if_pos (by rw [h1]; exact (show (6 : Int) ≠ 0 by decide)), h1]
def Cd.goodU (c l : Int) (u : Cd.U) : Prop := u.2.1 = true ∧ ∀ x ∈ Cd.charsU l u.1, Cd.okP c x = true
def Cd.bytesU (c l : Int) (r : Int) : List UInt8 := (Cd.charsU l r).flatMap (Cd.putL c)
theorem Cd.steps_ok (c m : Int) : ∀ (xs : List Int) (out : List UInt8), (∀ x ∈ xs, Cd.okP c x = true) → Cd.stepsB c m false xs out = some (out ++ xs.flatMap (Cd.putL c))
  | [], out, _ => by simp [Cd.stepsB]
  | x :: xs, out, h => by
    unfold Cd.stepsB
    rw [Cd.stepB_good c m out x (h x List.mem_cons_self)]
    show Cd.stepsB c m false xs (out ++ Cd.putL c x) = _
    rw [Cd.steps_ok c m xs _ (fun y hy => h y (List.mem_cons_of_mem _ hy))]
    simp
theorem Cd.steps_bad (c : Int) (bad : Bool) : ∀ (xs : List Int) (out : List UInt8), (∃ x ∈ xs, (Cd.okP c x && !bad) = false) → Cd.stepsB c 0 bad xs out = none
  | [], out, h => by obtain ⟨x, hx, _⟩ := h; cases hx
  | x :: xs, out, h => by
    unfold Cd.stepsB
    by_cases hx : (Cd.okP c x && !bad) = false
    · rw [Cd.stepB_bad0 c out x hx]
    · have hx2 : (Cd.okP c x && !bad) = true := by simpa using hx
      have : Cd.stepB c 0 bad out x = some (out ++ Cd.putL c x) := by unfold Cd.stepB; rw [if_pos hx2]
      rw [this]
      obtain ⟨y, hy, h2⟩ := h
      rcases List.mem_cons.1 hy with rfl | hy
      · exact absurd h2 hx
      · exact Cd.steps_bad c bad xs _ ⟨y, hy, h2⟩
theorem Cd.encF_ok (c l m : Int) : ∀ (us : List Cd.U) (out : List UInt8), (∀ u ∈ us, Cd.goodU c l u) → Cd.encF c l m us out = (out ++ (us.map (·.1)).flatMap (Cd.bytesU c l), 0, 0)
  | [], out, _ => by simp [Cd.encF]
  | (r, ok, p) :: us, out, h => by
    obtain ⟨h1, h2⟩ := h _ List.mem_cons_self
    have h1 : ok = true := h1
    subst h1
    unfold Cd.encF
    rw [show (!true) = false from rfl, Cd.steps_ok c m _ _ h2]
    show Cd.encF c l m us (out ++ (Cd.charsU l r).flatMap (Cd.putL c)) = _
    rw [Cd.encF_ok c l m us _ (fun u hu => h u (List.mem_cons_of_mem _ hu))]
    simp [Cd.bytesU]
theorem Cd.encF_bad (c l : Int) (u : Cd.U) (hu : ¬ Cd.goodU c l u) (post : List Cd.U) : ∀ (pre : List Cd.U) (out : List UInt8), (∀ v ∈ pre, Cd.goodU c l v) → Cd.encF c l 0 (pre ++ u :: post) out = ([], u.2.2, 6)
  | [], out, _ => by
    obtain ⟨r, ok, p⟩ := u
    rw [List.nil_append]
    unfold Cd.encF
    rw [Cd.steps_bad c (!ok) (Cd.charsU l r) out ?_]
    have hlen := Cd.charsU_len l r
    by_cases hok : ok = true
    · subst hok
      have : ¬ ∀ x ∈ Cd.charsU l r, Cd.okP c x = true := fun h => hu ⟨rfl, h⟩
      simp only [Classical.not_forall] at this
      obtain ⟨x, hx, h2⟩ := this
      exact ⟨x, hx, by simpa using h2⟩
    · have : ok = false := by simpa using hok
      subst this
      obtain ⟨x, t, e⟩ := List.exists_cons_of_ne_nil (l := Cd.charsU l r) (by intro e; rw [e] at hlen; simp at hlen)
      exact ⟨x, by rw [e]; exact List.mem_cons_self, by simp⟩
  | (r, ok, p) :: pre, out, h => by
    obtain ⟨h1, h2⟩ := h _ List.mem_cons_self
    have h1 : ok = true := h1
    subst h1
    rw [List.cons_append]
    unfold Cd.encF
    rw [show (!true) = false from rfl, Cd.steps_ok c 0 _ _ h2]
    exact Cd.encF_bad c l u hu post pre _ (fun v hv => h v (List.mem_cons_of_mem _ hv))
theorem Cd.enc_ok (c l m : Int) (s : ByteArray) (hc : Cd.chkN c l m s.size = 0) (h : ∀ u ∈ Cd.utf8U s 0, Cd.goodU c l u) : Cd.encG c l m s = (((Cd.utf8U s 0).map (·.1)).flatMap (Cd.bytesU c l), 0, 0) := by
  rw [← Cd.encG_good c l m s hc, Cd.encF_ok c l m _ _ h, List.nil_append]
theorem Cd.enc_bad (c l : Int) (s : ByteArray) (hc : Cd.chkN c l 0 s.size = 0) (u : Cd.U) (pre post : List Cd.U) (h : Cd.utf8U s 0 = pre ++ u :: post) (hok : ∀ v ∈ pre, Cd.goodU c l v) (hbad : ¬ Cd.goodU c l u) : Cd.encG c l 0 s = ([], u.2.2, 6) := by
  rw [← Cd.encG_good c l 0 s hc, h, Cd.encF_bad c l u hbad post pre [] hok]

theorem Cd.chk_take (c l m : Int) (s : ByteArray) (q : Nat) (hq : q ≤ s.size) (h : Cd.chkN c l m s.size = 0) : Cd.chkN c l m (s.extract 0 q).size = 0 := by
  obtain ⟨h1, h2⟩ := Cd.chkN_good c l m _ h
  unfold Cd.chkN
  rw [if_pos h1, Cd.size_take s q hq, if_neg (by omega)]
/-- Decode where a fault is raised: it answers well, or tells where, and what stands ahead of it is read without one. -/
theorem Cd.dec_places (c l : Int) (s : ByteArray) : ((Cd.decG c l 0 s).2.1 = 0 ∧ (Cd.decG c l 0 s).2.2 ≠ 6) ∨ ((Cd.decG c l 0 s).2.2 = 6 ∧ ∃ q : Nat, (Cd.decG c l 0 s).2.1 = (q : Int) ∧ q < s.size ∧ (Cd.decG c l 0 (s.extract 0 q)).2.2 = 0) := by
  by_cases hc : Cd.chkN c l 0 s.size = 0
  · rcases Cd.split_bad (fun u => u.2.1 = true) (Cd.unitsU c s) with h | ⟨pre, u, post, h, hok, hbad⟩
    · left
      rw [Cd.dec_ok c l 0 s hc h]
      exact ⟨rfl, (show (0 : Int) ≠ 6 by decide)⟩
    · right
      obtain ⟨q, h1, h2, h3⟩ := Cd.units_prefix c s u pre post h hok hbad
      rw [Cd.dec_bad c l s hc u pre post h hok hbad]
      refine ⟨rfl, q, h1, h2, ?_⟩
      rw [Cd.dec_ok c l 0 _ (Cd.chk_take c l 0 s q (by omega) hc) h3]
  · left
    have e : Cd.decG c l 0 s = ([], 0, Cd.chkN c l 0 s.size) := by unfold Cd.decG; rw [if_pos hc]
    rw [e]
    refine ⟨rfl, ?_⟩
    show Cd.chkN c l 0 s.size ≠ 6
    unfold Cd.chkN
    repeat' split
    all_goals omega
theorem Cd.enc_places (c l : Int) (s : ByteArray) : ((Cd.encG c l 0 s).2.1 = 0 ∧ (Cd.encG c l 0 s).2.2 ≠ 6) ∨ ((Cd.encG c l 0 s).2.2 = 6 ∧ ∃ q : Nat, (Cd.encG c l 0 s).2.1 = (q : Int) ∧ q < s.size ∧ (Cd.encG c l 0 (s.extract 0 q)).2.2 = 0) := by
  by_cases hc : Cd.chkN c l 0 s.size = 0
  · rcases Cd.split_bad (Cd.goodU c l) (Cd.utf8U s 0) with h | ⟨pre, u, post, h, hok, hbad⟩
    · left
      rw [Cd.enc_ok c l 0 s hc h]
      exact ⟨rfl, (show (0 : Int) ≠ 6 by decide)⟩
    · right
      obtain ⟨q, h1, h2, h3, h4⟩ := Cd.utf8_prefix s u pre post h (fun v hv => (hok v hv).1)
      rw [Cd.enc_bad c l s hc u pre post h hok hbad]
      refine ⟨rfl, q, h1, h2, ?_⟩
      rw [Cd.enc_ok c l 0 _ (Cd.chk_take c l 0 s q (by omega) hc) (fun v hv => ?_)]
      refine ⟨h3 v hv, ?_⟩
      have : v.1 ∈ pre.map (·.1) := by rw [← h4]; exact List.mem_map.2 ⟨v, hv, rfl⟩
      obtain ⟨v2, hv2, e⟩ := List.mem_map.1 this
      rw [← e]
      exact (hok v2 hv2).2
  · left
    rw [Cd.encG_bad c l 0 s hc]
    refine ⟨rfl, ?_⟩
    show Cd.chkN c l 0 s.size ≠ 6
    unfold Cd.chkN
    repeat' split
    all_goals omega
end Go.Proofs.YtdpbpkggbgfkgaaDoor
