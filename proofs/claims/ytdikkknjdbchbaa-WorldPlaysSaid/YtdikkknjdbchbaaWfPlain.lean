/-
  Worlds of up to eight files f0 .. f7, in plain Lean. No program is in sight.
-/
import Derived.Test.YtdikkknjdbchbaaWoLaw
namespace Go.Proofs.Ytdikkknjdbchbaa
open Go.RowKit
set_option linter.unusedVariables false

/-- The name of the file k. -/
def Wf.nm (k : Nat) : ByteArray := ⟨#[102, UInt8.ofNat (48 + k)]⟩
def Wf.one (h : Nat → ByteArray) (t : Nat → Bool) (k : Nat) : Option Wo.F := if t k = true then some (Wf.nm k, h k) else none
def Wf.on (h : Nat → ByteArray) (t : Nat → Bool) (ks : List Nat) : List Wo.F := ks.filterMap (Wf.one h t)
/-- The files that are there. -/
def Wf.fil (h : Nat → ByteArray) (t : Nat → Bool) : List Wo.F := Wf.on h t (List.range 8)
def Wf.upd {α : Type} (h : Nat → α) (k : Nat) (d : α) : Nat → α := fun j => if j = k then d else h j

theorem Wf.lt_nm {i j : Nat} (hi : i < 8) (hj : j < 8) : Wo.lt (Wf.nm i) (Wf.nm j) = decide (i < j) := by
  have key : ∀ i, i < 8 → ∀ j, j < 8 → Op.bytesLess (Wf.nm i).data.toList (Wf.nm j).data.toList = decide (i < j) := by decide
  unfold Wo.lt
  rw [← Wo.toList_eq, ← Wo.toList_eq]
  exact key i hi j hj
theorem Wf.eq_nm {i j : Nat} (hi : i < 8) (hj : j < 8) : ((Wf.nm i).toList == (Wf.nm j).toList) = decide (i = j) := by
  have key : ∀ i, i < 8 → ∀ j, j < 8 → ((Wf.nm i).data.toList == (Wf.nm j).data.toList) = decide (i = j) := by decide
  rw [← Wo.toList_eq, ← Wo.toList_eq]
  exact key i hi j hj
theorem Wf.mem_on {h : Nat → ByteArray} {t : Nat → Bool} {ks : List Nat} {f : Wo.F} (hf : f ∈ Wf.on h t ks) : ∃ j ∈ ks, t j = true ∧ f = (Wf.nm j, h j) := by
  unfold Wf.on at hf
  rw [List.mem_filterMap] at hf
  obtain ⟨j, hj, he⟩ := hf
  unfold Wf.one at he
  split at he
  · rename_i ht
    cases he
    exact ⟨j, hj, ht, rfl⟩
  · cases he
theorem Wf.on_append (h : Nat → ByteArray) (t : Nat → Bool) (a b : List Nat) : Wf.on h t (a ++ b) = Wf.on h t a ++ Wf.on h t b := by simp [Wf.on]
theorem Wf.split (k : Nat) (hk : k < 8) : ∃ A B : List Nat, List.range 8 = A ++ k :: B ∧ (∀ j ∈ A, j < k) ∧ ∀ j ∈ B, k < j ∧ j < 8 := by
  refine ⟨List.range k, (List.range (8 - (k + 1))).map (· + (k + 1)), ?_, fun j hj => List.mem_range.1 hj, fun j hj => ?_⟩
  · match k, hk with
    | 0, _ => decide
    | 1, _ => decide
    | 2, _ => decide
    | 3, _ => decide
    | 4, _ => decide
    | 5, _ => decide
    | 6, _ => decide
    | 7, _ => decide
  · obtain ⟨i, hi, rfl⟩ := List.mem_map.1 hj
    have := List.mem_range.1 hi
    omega
theorem Wf.take_while {p : Wo.F → Bool} : ∀ (a b : List Wo.F), (∀ x ∈ a, p x = true) → (∀ x ∈ b, p x = false) → (a ++ b).takeWhile p = a
  | [], [], _, _ => rfl
  | [], y :: b, _, hb => by
    have := hb y List.mem_cons_self
    simp [this]
  | x :: a, b, ha, hb => by
    have h1 := Wf.take_while a b (fun x hx => ha x (List.mem_cons_of_mem _ hx)) hb
    have h2 := ha x List.mem_cons_self
    simp [h1, h2]
/-- What is needed of the files at the name k. -/
theorem Wf.parts (h : Nat → ByteArray) (t : Nat → Bool) (k : Nat) (hk : k < 8) : ∃ P S : List Wo.F, Wf.fil h t = P ++ (Wf.one h t k).toList ++ S ∧
    (∀ h' t', (∀ j, j ≠ k → h' j = h j) → (∀ j, j ≠ k → t' j = t j) → Wf.fil h' t' = P ++ (Wf.one h' t' k).toList ++ S) ∧
    Wo.cut (Wf.fil h t) (Wf.nm k) = P.length ∧ Wo.hit (Wf.fil h t) (Wf.nm k) P.length = t k := by
  obtain ⟨A, B, hr, hA, hB⟩ := Wf.split k hk
  have e : ∀ h' t', Wf.fil h' t' = Wf.on h' t' A ++ (Wf.one h' t' k).toList ++ Wf.on h' t' B := fun h' t' => by
    unfold Wf.fil
    rw [hr, Wf.on_append, List.append_assoc]
    congr 1
    unfold Wf.on
    cases hx : Wf.one h' t' k <;> simp [hx]
  have same : ∀ h' t', (∀ j, j ≠ k → h' j = h j) → (∀ j, j ≠ k → t' j = t j) → ∀ ks : List Nat, (∀ j ∈ ks, j ≠ k) → Wf.on h' t' ks = Wf.on h t ks := fun h' t' hh ht ks hks => by
    induction ks with
    | nil => rfl
    | cons j ks ih =>
      have e1 : Wf.one h' t' j = Wf.one h t j := by
        unfold Wf.one
        rw [hh j (hks j List.mem_cons_self), ht j (hks j List.mem_cons_self)]
      have e2 := ih (fun i hi => hks i (List.mem_cons_of_mem _ hi))
      unfold Wf.on at *
      rw [List.filterMap_cons, List.filterMap_cons, e1, e2]
  refine ⟨Wf.on h t A, Wf.on h t B, e h t, fun h' t' hh ht => ?_, ?_, ?_⟩
  · rw [e h' t', same h' t' hh ht A (fun j hj => by have := hA j hj; omega), same h' t' hh ht B (fun j hj => by have := (hB j hj).1; omega)]
  · unfold Wo.cut
    rw [e h t, List.append_assoc, Wf.take_while _ _ (fun x hx => ?_) (fun x hx => ?_)]
    · obtain ⟨j, hj, _, rfl⟩ := Wf.mem_on hx
      have := hA j hj
      rw [Wf.lt_nm (by omega) hk]
      simpa using this
    · rw [List.mem_append] at hx
      rcases hx with hx | hx
      · unfold Wf.one at hx
        split at hx
        · simp only [Option.toList_some, List.mem_singleton] at hx
          subst hx
          rw [Wf.lt_nm hk hk]
          simp
        · simp at hx
      · obtain ⟨j, hj, _, rfl⟩ := Wf.mem_on hx
        have := hB j hj
        rw [Wf.lt_nm (by omega) hk]
        simp
        omega
  · unfold Wo.hit
    rw [e h t]
    cases ht : t k with
    | true =>
      have h1 : Wf.one h t k = some (Wf.nm k, h k) := by unfold Wf.one; rw [if_pos ht]
      rw [h1]
      simp [List.getD_eq_getElem?_getD]
    | false =>
      have h1 : Wf.one h t k = none := by unfold Wf.one; rw [ht]; rfl
      rw [h1]
      simp only [Option.toList_none, List.append_nil]
      cases hx : Wf.on h t B with
      | nil => simp
      | cons y l =>
        obtain ⟨j, hj, _, hy⟩ := Wf.mem_on (h := h) (t := t) (ks := B) (f := y) (by rw [hx]; simp)
        have := hB j hj
        have h2 : ((Wf.nm j).toList == (Wf.nm k).toList) = false := by
          rw [Wf.eq_nm (by omega) hk]
          simp
          omega
        simp only [List.getD_eq_getElem?_getD, List.getElem?_append_right (Nat.le_refl _), Nat.sub_self, List.getElem?_cons_zero, Option.getD_some, hy, h2, Bool.and_false]
def Wf.W (h : Nat → ByteArray) (t : Nat → Bool) : Wo.W := (Wf.fil h t, ⟨#[]⟩, ⟨#[]⟩)
theorem Wf.upd_same {α : Type} (h : Nat → α) (k : Nat) (d : α) : Wf.upd h k d k = d := by simp [Wf.upd]
theorem Wf.upd_ne {α : Type} (h : Nat → α) (k : Nat) (d : α) (j : Nat) (hj : j ≠ k) : Wf.upd h k d j = h j := by simp [Wf.upd, hj]
theorem Wf.pairwise (h : Nat → ByteArray) (t : Nat → Bool) : ∀ ks : List Nat, ks.Pairwise (· < ·) → (∀ j ∈ ks, j < 8) → (Wf.on h t ks).Pairwise (fun a b => Wo.lt a.1 b.1 = true)
  | [], _, _ => List.Pairwise.nil
  | k :: ks, hp, hk => by
    rw [List.pairwise_cons] at hp
    have ih := Wf.pairwise h t ks hp.2 (fun j hj => hk j (by simp [hj]))
    have e : Wf.on h t (k :: ks) = (Wf.one h t k).toList ++ Wf.on h t ks := by
      unfold Wf.on
      cases hx : Wf.one h t k <;> simp [hx]
    rw [e]
    unfold Wf.one
    split
    · refine List.Pairwise.cons (fun y hy => ?_) ih
      obtain ⟨j, hj, _, rfl⟩ := Wf.mem_on hy
      rw [Wf.lt_nm (hk k (by simp)) (hk j (by simp [hj]))]
      simpa using hp.1 j hj
    · exact ih
theorem Wf.len_le (h : Nat → ByteArray) (t : Nat → Bool) : (Wf.fil h t).length ≤ 8 := by
  have := List.length_filterMap_le (Wf.one h t) (List.range 8)
  rw [List.length_range] at this
  exact this
theorem Wf.sound (h : Nat → ByteArray) (t : Nat → Bool) (hs : ∀ k, k < 8 → (h k).size ≤ 65536) : Wo.sound (Wf.W h t) = true := by
  have hp := Wf.pairwise h t (List.range 8) (by decide) (fun j hj => List.mem_range.1 hj)
  have hl := Wf.len_le h t
  unfold Wo.sound Wf.W
  simp only [Bool.and_eq_true, decide_eq_true_eq]
  refine ⟨⟨⟨by omega, by decide⟩, by decide⟩, fun k hk => ?_⟩
  have hm : (Wf.fil h t).getD k Wo.e0 = (Wf.fil h t)[k] := by simp [List.getD_eq_getElem?_getD, hk]
  obtain ⟨j, hj, _, he⟩ := Wf.mem_on (List.getElem_mem hk : (Wf.fil h t)[k] ∈ Wf.fil h t)
  unfold Wo.okAt
  rw [hm, he]
  simp only [Bool.and_eq_true, Bool.or_eq_true, decide_eq_true_eq]
  refine ⟨⟨by unfold Wo.named; rfl, hs j (List.mem_range.1 hj)⟩, ?_⟩
  rcases Nat.eq_zero_or_pos k with h0 | h0
  · exact .inl h0
  · right
    have hk1 : k - 1 < (Wf.fil h t).length := by omega
    have hm1 : (Wf.fil h t).getD (k - 1) Wo.e0 = (Wf.fil h t)[k - 1] := by simp [List.getD_eq_getElem?_getD, hk1]
    rw [hm1]
    have := List.pairwise_iff_getElem.1 hp (k - 1) k hk1 hk (by omega)
    change Wo.lt (Wf.fil h t)[k - 1].1 (Wf.fil h t)[k].1 = true at this
    rw [he] at this
    exact this
theorem Wf.named (k : Nat) : Wo.named (Wf.nm k) = true := rfl
theorem Wf.put (h : Nat → ByteArray) (t : Nat → Bool) (k : Nat) (hk : k < 8) (d : ByteArray) (hd : d.size ≤ 65536) (hs : ∀ k, k < 8 → (h k).size ≤ 65536) : Wo.putS (Wf.W h t) (Wf.nm k) d = (Wf.W (Wf.upd h k d) (Wf.upd t k true), 0) := by
  obtain ⟨P, S, hf, hf', hc, hh⟩ := Wf.parts h t k hk
  have hl := Wf.len_le h t
  unfold Wo.putS
  rw [if_pos (Wf.sound h t hs), if_pos (Wf.named k), if_pos hd, if_pos (.inr (by show (Wf.fil h t).length < 64; omega))]
  show ((_, _, _), _) = ((_, _, _), _)
  have e : Wo.put1 (Wf.fil h t) (Wf.nm k) d = Wf.fil (Wf.upd h k d) (Wf.upd t k true) := by
    rw [hf' (Wf.upd h k d) (Wf.upd t k true) (Wf.upd_ne h k d) (Wf.upd_ne t k true)]
    unfold Wo.put1
    rw [hc, hh, hf]
    have h1 : Wf.one (Wf.upd h k d) (Wf.upd t k true) k = some (Wf.nm k, d) := by unfold Wf.one; rw [Wf.upd_same, Wf.upd_same, if_pos rfl]
    rw [h1]
    cases ht : t k with
    | true =>
      have h2 : Wf.one h t k = some (Wf.nm k, h k) := by unfold Wf.one; rw [if_pos ht]
      rw [h2, if_pos rfl]
      simp [List.append_assoc, List.drop_append]
    | false =>
      have h2 : Wf.one h t k = none := by unfold Wf.one; rw [ht]; rfl
      rw [h2]
      simp [List.append_assoc]
  show ((Wo.put1 (Wf.fil h t) (Wf.nm k) d, _, _), _) = _
  rw [e]
  rfl
theorem Wf.get (h : Nat → ByteArray) (t : Nat → Bool) (k : Nat) (hk : k < 8) (hs : ∀ k, k < 8 → (h k).size ≤ 65536) : Wo.getS (Wf.W h t) (Wf.nm k) = if t k = true then (h k, 0) else (⟨#[]⟩, 7) := by
  obtain ⟨P, S, hf, hf', hc, hh⟩ := Wf.parts h t k hk
  unfold Wo.getS
  have hh2 : Wo.has (Wf.W h t) (Wf.nm k) = t k := by
    show Wo.hit (Wf.fil h t) (Wf.nm k) (Wo.cut (Wf.fil h t) (Wf.nm k)) = t k
    rw [hc, hh]
  rw [if_pos (Wf.sound h t hs), hh2]
  cases ht : t k with
  | true =>
    rw [if_pos rfl, if_pos rfl]
    show (((Wf.fil h t).getD (Wo.cut (Wf.fil h t) (Wf.nm k)) Wo.e0).2, _) = _
    have h2 : Wf.one h t k = some (Wf.nm k, h k) := by unfold Wf.one; rw [if_pos ht]
    rw [hc, hf, h2]
    simp [List.getD_eq_getElem?_getD]
  | false => rfl
theorem Wf.del (h : Nat → ByteArray) (t : Nat → Bool) (k : Nat) (hk : k < 8) (hs : ∀ k, k < 8 → (h k).size ≤ 65536) : Wo.delS (Wf.W h t) (Wf.nm k) = if t k = true then (Wf.W h (Wf.upd t k false), 0) else (Wo.w0, 7) := by
  obtain ⟨P, S, hf, hf', hc, hh⟩ := Wf.parts h t k hk
  unfold Wo.delS
  have hh2 : Wo.has (Wf.W h t) (Wf.nm k) = t k := by
    show Wo.hit (Wf.fil h t) (Wf.nm k) (Wo.cut (Wf.fil h t) (Wf.nm k)) = t k
    rw [hc, hh]
  rw [if_pos (Wf.sound h t hs), hh2]
  cases ht : t k with
  | true =>
    rw [if_pos rfl, if_pos rfl]
    have e : (Wf.fil h t).take P.length ++ (Wf.fil h t).drop (P.length + 1) = Wf.fil h (Wf.upd t k false) := by
      rw [hf' h (Wf.upd t k false) (fun _ _ => rfl) (Wf.upd_ne t k false), hf]
      have h1 : Wf.one h (Wf.upd t k false) k = none := by unfold Wf.one; rw [Wf.upd_same]; rfl
      have h2 : Wf.one h t k = some (Wf.nm k, h k) := by unfold Wf.one; rw [if_pos ht]
      rw [h1, h2]
      simp [List.drop_append]
    show (((Wf.fil h t).take (Wo.cut (Wf.fil h t) (Wf.nm k)) ++ (Wf.fil h t).drop (Wo.cut (Wf.fil h t) (Wf.nm k) + 1), _, _), _) = _
    rw [hc, e]
    rfl
  | false => rfl
theorem Wf.splice_size (o : ByteArray) (n : Nat) (d : ByteArray) (hn : n ≤ o.size) : (Wo.splice o n d).size = max o.size (n + d.size) := by
  show (List.toArray _).size = _
  simp only [List.size_toArray, List.length_append, List.length_take, List.length_drop]
  have h1 : o.data.toList.length = o.size := by simp
  have h2 : d.data.toList.length = d.size := by simp
  rw [h1, h2]
  omega
theorem Wf.write (h : Nat → ByteArray) (t : Nat → Bool) (k : Nat) (hk : k < 8) (n : Nat) (d : ByteArray) (hd : d.size ≤ 500) (hn : n ≤ (h k).size) (hn2 : n ≤ 255) (hs : ∀ k, k < 8 → (h k).size ≤ 65536) (ht : t k = true) :
    Wo.writeS (Wf.W h t) (Wf.nm k) n d = (Wf.W (Wf.upd h k (Wo.splice (h k) n d)) t, 0) := by
  unfold Wo.writeS
  rw [Wf.get h t k hk hs, if_pos ht]
  have hz := Wf.splice_size (h k) n d hn
  have := hs k hk
  rw [if_pos rfl, if_pos ⟨by omega, by simpa using hn⟩, if_pos (by omega)]
  have ht2 : Wf.upd t k true = t := by
    funext j
    unfold Wf.upd
    split
    · subst_vars; exact ht.symm
    · rfl
  show Wo.putS (Wf.W h t) (Wf.nm k) (Wo.splice (h k) (Int.toNat n) d) = _
  rw [Int.toNat_natCast, Wf.put h t k hk _ (by omega) hs, ht2]
theorem Wf.count (h : Nat → ByteArray) (t : Nat → Bool) : ∀ n, (Wf.on h t (List.range n)).length = ((List.range n).filter t).length := by
  intro n
  induction n with
  | zero => rfl
  | succ n ih =>
    rw [List.range_succ, Wf.on_append, List.filter_append, List.length_append, List.length_append, ih]
    congr 1
    unfold Wf.on Wf.one
    cases h : t n <;> simp [h]
end Go.Proofs.Ytdikkknjdbchbaa
