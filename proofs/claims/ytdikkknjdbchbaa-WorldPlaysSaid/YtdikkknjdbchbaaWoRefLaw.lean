/-
  The reference's way to find, to leave out and to put in, and the program's: the same, where the names rise. Plain Lean: no program is in sight.
-/
import Derived.Test.YtdikkknjdbchbaaWoRefFind
namespace Go.Proofs.Ytdikkknjdbchbaa
open Go.RowKit
set_option linter.unusedVariables false

theorem Wo.is_lt {name : ByteArray} {f : Wo.F} (h : Wo.lt f.1 name = true) : Wo.is name f = false := by
  cases hi : Wo.is name f with
  | false => rfl
  | true =>
    unfold Wo.is at hi
    have e : f.1.toList = name.toList := by simpa using hi
    unfold Wo.lt at h
    rw [e, Wo.lt_irrefl] at h
    cases h
theorem Wo.is_gt {name : ByteArray} {f : Wo.F} (h : Wo.lt name f.1 = true) : Wo.is name f = false := by
  cases hi : Wo.is name f with
  | false => rfl
  | true =>
    unfold Wo.is at hi
    have e : f.1.toList = name.toList := by simpa using hi
    unfold Wo.lt at h
    rw [e, Wo.lt_irrefl] at h
    cases h
/-- Behind a name that is not less all are greater. -/
theorem Wo.rest_gt {f : Wo.F} {fs : List Wo.F} {name : ByteArray} (h : Wo.rising (f :: fs)) (hl : Wo.lt f.1 name = false) : ∀ x ∈ fs, Wo.lt name x.1 = true := by
  intro x hx
  obtain ⟨j, hj, rfl⟩ := List.getElem_of_mem hx
  have h0 := h 0 (j + 1) (by omega) (by simpa using hj)
  have h0 : Wo.lt f.1 fs[j].1 = true := by simpa [List.getD_eq_getElem?_getD, hj] using h0
  unfold Wo.lt at hl h0 ⊢
  rcases Wo.lt_tri f.1.toList name.toList with h1 | h1 | h1
  · rw [h1] at hl; cases hl
  · rw [← h1]; exact h0
  · exact Wo.lt_trans _ _ _ h1 h0
theorem Wo.cut_lt {f : Wo.F} {fs : List Wo.F} {name : ByteArray} (hl : Wo.lt f.1 name = true) : Wo.cut (f :: fs) name = Wo.cut fs name + 1 := by simp [Wo.cut, hl]
theorem Wo.cut_ge {f : Wo.F} {fs : List Wo.F} {name : ByteArray} (hl : Wo.lt f.1 name = false) : Wo.cut (f :: fs) name = 0 := by simp [Wo.cut, hl]
theorem Wo.hit_succ (f : Wo.F) (fs : List Wo.F) (name : ByteArray) (k : Nat) : Wo.hit (f :: fs) name (k + 1) = Wo.hit fs name k := by simp [Wo.hit]
theorem Wo.hit_zero (f : Wo.F) (fs : List Wo.F) (name : ByteArray) : Wo.hit (f :: fs) name 0 = Wo.is name f := by simp [Wo.hit, Wo.is]
def Wo.behindR (fs : List Wo.F) (name : ByteArray) : Nat := if Wo.hit fs name (Wo.cut fs name) = true then Wo.cut fs name + 1 else Wo.cut fs name
theorem Wo.behindR_lt {f : Wo.F} {fs : List Wo.F} {name : ByteArray} (hl : Wo.lt f.1 name = true) : Wo.behindR (f :: fs) name = Wo.behindR fs name + 1 := by
  unfold Wo.behindR
  rw [Wo.cut_lt hl, Wo.hit_succ]
  split <;> rfl
theorem Wo.filt : ∀ (fs : List Wo.F) (name : ByteArray), Wo.rising fs → fs.filter (fun f => !Wo.is name f) = fs.take (Wo.cut fs name) ++ fs.drop (Wo.behindR fs name)
    ∧ (fs.filter (fun f => !Wo.is name f)).takeWhile (fun f => !Wo.lt name f.1) = fs.take (Wo.cut fs name) ∧ (fs.filter (fun f => !Wo.is name f)).dropWhile (fun f => !Wo.lt name f.1) = fs.drop (Wo.behindR fs name)
  | [], name, _ => by simp
  | f :: fs, name, h => by
    obtain ⟨h1, h2, h3⟩ := Wo.filt fs name (Wo.rising_tail h)
    cases hl : Wo.lt f.1 name with
    | true =>
      have hn : Wo.lt name f.1 = false := by unfold Wo.lt at hl ⊢; exact Wo.lt_asymm _ _ hl
      rw [Wo.cut_lt hl, Wo.behindR_lt hl]
      have e : (f :: fs).filter (fun f => !Wo.is name f) = f :: fs.filter (fun f => !Wo.is name f) := by
        rw [List.filter_cons, Wo.is_lt hl]; rfl
      rw [e]
      refine ⟨?_, ?_, ?_⟩
      · rw [h1]; rfl
      · rw [List.takeWhile_cons, hn]
        simp only [Bool.not_false, if_true, List.take_succ_cons, h2]
      · rw [List.dropWhile_cons, hn]
        simp only [Bool.not_false, if_true, List.drop_succ_cons, h3]
    | false =>
      have hr := Wo.rest_gt h hl
      have e0 : fs.filter (fun f => !Wo.is name f) = fs := List.filter_eq_self.2 fun x hx => by rw [Wo.is_gt (hr x hx)]; rfl
      have et : ∀ l : List Wo.F, (∀ x ∈ l, Wo.lt name x.1 = true) → l.takeWhile (fun f => !Wo.lt name f.1) = [] ∧ l.dropWhile (fun f => !Wo.lt name f.1) = l := by
        intro l hl
        cases l with
        | nil => simp
        | cons x l => simp [hl x (by simp)]
      cases hi : Wo.is name f with
      | true =>
        have hb : Wo.behindR (f :: fs) name = 1 := by unfold Wo.behindR; rw [Wo.cut_ge hl, Wo.hit_zero, hi]; rfl
        have e : (f :: fs).filter (fun f => !Wo.is name f) = fs := by rw [List.filter_cons, hi]; exact e0
        rw [e, hb, Wo.cut_ge hl]
        exact ⟨by simp, (et fs hr).1.trans (by simp), (et fs hr).2.trans (by simp)⟩
      | false =>
        have hb : Wo.behindR (f :: fs) name = 0 := by unfold Wo.behindR; rw [Wo.cut_ge hl, Wo.hit_zero, hi]; rfl
        have e : (f :: fs).filter (fun f => !Wo.is name f) = f :: fs := by rw [List.filter_cons, hi, e0]; rfl
        have hf : Wo.lt name f.1 = true := by
          unfold Wo.lt at hl ⊢
          unfold Wo.is at hi
          rcases Wo.lt_tri f.1.toList name.toList with h1 | h1 | h1
          · rw [h1] at hl; cases hl
          · rw [h1] at hi; simp at hi
          · exact h1
        have ea := et (f :: fs) (fun x hx => by
          rcases List.mem_cons.1 hx with rfl | hx
          · exact hf
          · exact hr x hx)
        rw [e, hb, Wo.cut_ge hl]
        exact ⟨by simp, ea.1.trans (by simp), ea.2.trans (by simp)⟩
theorem Wo.posI_of {fs : List Wo.F} {name : ByteArray} (h : Wo.rising fs) : Wo.posI fs name = if Wo.hit fs name (Wo.cut fs name) = true then (Wo.cut fs name : Int) else -1 := by
  obtain ⟨h1, h2, h3⟩ := Wo.cutAt_of fs name h
  have hlo : ∀ j, j < Wo.cut fs name → Wo.is name (fs.getD j Wo.e0) = false := fun j hj => Wo.is_lt (h2 j hj)
  cases hh : Wo.hit fs name (Wo.cut fs name) with
  | true =>
    have hh2 := hh
    unfold Wo.hit at hh2
    simp only [Bool.and_eq_true, decide_eq_true_eq] at hh2
    rw [if_pos rfl]
    exact Wo.posI_at hh2.1 hlo hh2.2
  | false =>
    rw [if_neg (by simp)]
    refine Wo.posI_no fun j hj => ?_
    rcases Nat.lt_trichotomy j (Wo.cut fs name) with hlt | heq | hgt
    · exact hlo j hlt
    · subst heq
      unfold Wo.hit at hh
      unfold Wo.is
      simpa [hj] using hh
    · have hc := h _ _ hgt hj
      have hn := h3 (Wo.cut fs name) (Nat.le_refl _) (by omega)
      apply Wo.is_gt
      unfold Wo.lt at hc hn ⊢
      rcases Wo.lt_tri (fs.getD (Wo.cut fs name) Wo.e0).1.toList name.toList with h1 | h1 | h1
      · rw [h1] at hn; cases hn
      · rw [← h1]; exact hc
      · exact Wo.lt_trans _ _ _ h1 hc

/-- One round of the reference's Put: f goes ahead of the first that is greater. -/
def Wo.insStep {α : Type} (p : α → Bool) (f : α) (a : List α × Bool) (x : α) : List α × Bool := if (!a.2 && p x) = true then (a.1 ++ [f] ++ [x], true) else (a.1 ++ [x], a.2)
theorem Wo.ins_true {α : Type} (p : α → Bool) (f : α) : ∀ (l acc : List α), l.foldl (Wo.insStep p f) (acc, true) = (acc ++ l, true)
  | [], acc => by simp
  | x :: l, acc => by
    rw [List.foldl_cons]
    have e : Wo.insStep p f (acc, true) x = (acc ++ [x], true) := by simp [Wo.insStep]
    rw [e, Wo.ins_true p f l]
    simp
theorem Wo.ins_all {α : Type} (p : α → Bool) (f : α) : ∀ (l acc : List α), (if (l.foldl (Wo.insStep p f) (acc, false)).2 = true then (l.foldl (Wo.insStep p f) (acc, false)).1 else (l.foldl (Wo.insStep p f) (acc, false)).1 ++ [f]) = acc ++ l.takeWhile (fun x => !p x) ++ [f] ++ l.dropWhile (fun x => !p x)
  | [], acc => by simp
  | x :: l, acc => by
    rw [List.foldl_cons]
    cases hp : p x with
    | true =>
      have e : Wo.insStep p f (acc, false) x = (acc ++ [f] ++ [x], true) := by simp [Wo.insStep, hp]
      rw [e, Wo.ins_true]
      simp [hp]
    | false =>
      have e : Wo.insStep p f (acc, false) x = (acc ++ [x], false) := by simp [Wo.insStep, hp]
      rw [e, Wo.ins_all p f l]
      simp [hp]
theorem Wo.put1_of {g : List (Wo.F × Value)} {fs : List Wo.F} {name d : ByteArray} {vd : Value} (hg : g.map (·.1) = fs.filter (fun f => !Wo.is name f)) (h : Wo.rising fs) :
    (g.takeWhile (fun x => !Wo.lt name x.1.1) ++ [((name, d), vd)] ++ g.dropWhile (fun x => !Wo.lt name x.1.1)).map (·.1) = Wo.put1 fs name d := by
  obtain ⟨_, h2, h3⟩ := Wo.filt fs name h
  rw [← hg] at h2 h3
  rw [List.takeWhile_map] at h2
  rw [List.dropWhile_map] at h3
  unfold Wo.put1
  simp only [List.map_append, List.map_cons, List.map_nil]
  have e : (if Wo.hit fs name (Wo.cut fs name) = true then Wo.cut fs name + 1 else Wo.cut fs name) = Wo.behindR fs name := rfl
  rw [e, ← h2, ← h3]
  rfl
end Go.Proofs.Ytdikkknjdbchbaa
