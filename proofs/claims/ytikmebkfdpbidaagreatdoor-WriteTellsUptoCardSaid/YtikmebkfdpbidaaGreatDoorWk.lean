/-
  What a datum lies in is below the heap's end.
  A row of data that the call owns, and an append to it.
  A list's data, one behind the other; the row of them in memory.
  The document's tell of a pair.
  The writer's pair of a quotation; the writer's datum of any.
  The writer's datum of any; write's tell, Write and Display.
  The reference's units, in plain Lean.
-/
import Derived.Deep.AppendLies
import Derived.Deep.LoopGhost
import Derived.Lib.DecodeN
import Derived.Laws.BitsLemmas
import Derived.Test.YtikmebkfdpbidaaGreatDoorWc
import Derived.Test.YtikmebkfdpbidaaGreatDoorWa
import Derived.Test.YtikmebkfdpbidaaGreatDoorWj
import Derived.Test.YtikmebkfdpbidaaGreatDoorWtPairW
namespace Go.Proofs.YtikmebkfdpbidaaGreatDoor
open Go.RowKit
set_option linter.unusedVariables false

theorem Tr.On.top {w : World} {S : Nat → Prop} {v : Value} {ws : List Nat} (i : Nt.In w v ws) (o : Tr.On S v ws.length) : Tr.On (fun q => S q ∧ q < w.heap.size) v ws.length := by
  rcases i with ⟨_, e⟩ | ⟨_, _, _, e⟩ | ⟨h0, b, off, cap, hv, _, hl, _⟩
  · rw [e]; exact fun h => absurd h (Nat.lt_irrefl 0)
  · rw [e]; exact fun h => absurd h (Nat.lt_irrefl 0)
  · intro _ b' off' l' c' e
    rw [hv] at e
    cases e
    exact ⟨o h0 _ _ _ _ hv, hl⟩
theorem Tr.On.topB {w : World} {S : Nat → Prop} {v : Value} {s : ByteArray} (i : By.In w v s) (o : Tr.On S v s.size) : Tr.On (fun q => S q ∧ q < w.heap.size) v s.size := by
  rcases i with ⟨_, e⟩ | ⟨_, _, _, e⟩ | ⟨h0, b, off, cap, hv, _, hl, _⟩
  · rw [e]; exact fun h => absurd h (Nat.lt_irrefl 0)
  · rw [e]; exact fun h => absurd h (Nat.lt_irrefl 0)
  · intro _ b' off' l' c' e
    rw [hv] at e
    cases e
    exact ⟨o h0 _ _ _ _ hv, hl⟩
/-- What a head lies in is below the heap's end. -/
theorem Tr.Hd.In.top {w : World} {S : Nat → Prop} {h : Tr.Hd} {v3 v4 v6 v7 v9 : Value} (i : Tr.Hd.In w S h v3 v4 v6 v7 v9) : Tr.Hd.In w (fun q => S q ∧ q < w.heap.size) h v3 v4 v6 v7 v9 :=
  ⟨i.ok, i.i3, i.i4, i.i6, i.i7, i.i9, Tr.On.top i.i3 i.o3, Tr.On.top i.i4 i.o4, Tr.On.top i.i6 i.o6, Tr.On.top i.i7 i.o7, Tr.On.topB i.i9 i.o9⟩

mutual
theorem Tr.In.top {w : World} {S : Nat → Prop} : ∀ (t : Tr) (v : Value), Tr.In w S t v → Tr.In w (fun q => S q ∧ q < w.heap.size) t v
  | .mk h l, v, hI => by
    rw [Tr.In_mk] at hI ⊢
    obtain ⟨v3, v4, v6, v7, v9, v10, e, hH, hL⟩ := hI
    refine ⟨v3, v4, v6, v7, v9, v10, e, hH.top, ?_⟩
    rcases hL with h0 | h0 | ⟨h0, b, off, cap, hv, h1, h2, h3, h4, h5⟩
    · exact .inl h0
    · exact .inr (.inl h0)
    · exact .inr (.inr ⟨h0, b, off, cap, hv, h1, h2, h3, ⟨h4, h3⟩, Tr.All.top l b off h5⟩)
theorem Tr.All.top {w : World} {S : Nat → Prop} : ∀ (l : List Tr) (b off : Nat), Tr.All w S l b off → Tr.All w (fun q => S q ∧ q < w.heap.size) l b off
  | [], _, _, _ => Tr.All_nil
  | t :: ts, b, off, h => by
    rw [Tr.All_cons] at h ⊢
    obtain ⟨⟨C, hI, hM⟩, hr⟩ := h
    exact ⟨⟨C, Tr.In.top t _ hI, hM⟩, Tr.All.top ts b (off + 11) hr⟩
end
end Go.Proofs.YtikmebkfdpbidaaGreatDoor
namespace Go.Proofs.YtikmebkfdpbidaaGreatDoor
open Go.RowKit
set_option linter.unusedVariables false

/-- The row of the data l, its cells xs; no datum lies in the row's own block. -/
def Tr.Row (B : Nat) (w : World) (v : Value) (l : List Tr) (xs : List Value) : Prop :=
  w.ownsRow B 30 11 v l.length xs ∧ ∀ k t, l[k]? = some t → ∃ C : Array Value, Tr.In w (fun q => B ≤ q ∧ v.ownBlock ≠ some q) t (.agg C) ∧ ∀ j, j < 11 → xs[11 * k + j]? = C[j]?
theorem Tr.Row.nil (B : Nat) (w : World) : Tr.Row B w (.slice none 0 0) [] [] := ⟨World.ownsRow_nil w B _ _, fun k t h => by simp at h⟩
theorem Tr.In.size11 {w : World} {S : Nat → Prop} {t : Tr} {C : Array Value} (h : Tr.In w S t (.agg C)) : C.size = 11 := by
  obtain ⟨_, _, _, _, _, _, _, _, e⟩ := Tr.In.form h
  rw [e]; rfl
theorem Tr.Row.push {B : Nat} {w w1 w2 : World} {v v' : Value} {l : List Tr} {xs : List Value} {t : Tr} {C : Array Value} (h : Tr.Row B w v l xs) (hb : Below w.heap.size w w1) (hB : B ≤ w.heap.size)
    (hI : Tr.In w1 (fun q => w.heap.size ≤ q) t (.agg C)) (ho : w2.ownsRow B 30 11 v' (l.length + 1) (xs ++ C.toList)) (hg : w1.grownBy w2 v.ownBlock) (hf : Ls.Fresh w1 v v') : Tr.Row B w2 v' (l ++ [t]) (xs ++ C.toList) := by
  refine ⟨by rw [List.length_append]; exact ho, fun k u hk => ?_⟩
  have hz := hb.size
  have hlt := h.1.lt
  rcases Nat.lt_or_ge k l.length with h1 | h1
  · rw [List.getElem?_append_left h1] at hk
    obtain ⟨C', hI', hx⟩ := h.2 k u hk
    have h5 := Tr.In.kept (S := fun q => (B ≤ q ∧ v.ownBlock ≠ some q) ∧ q < w.heap.size) (w' := w2) ⟨Nat.le_trans hz hg.size, fun q hq hl => (hg.block q (Nat.lt_of_lt_of_le hl hz) (fun e => hq.1.2 e.symm)).trans (hb.block q hl)⟩ _ _ (Tr.In.top _ _ hI')
    have h6 : ∀ q, ((B ≤ q ∧ v.ownBlock ≠ some q) ∧ q < w.heap.size) → (B ≤ q ∧ v'.ownBlock ≠ some q) := by
      intro q hq
      refine ⟨hq.1.1, fun he => ?_⟩
      rcases hf q he with h2 | h2
      · exact hq.1.2 h2
      · have := hq.2
        omega
    refine ⟨C', Tr.In.mono h6 _ _ h5, fun j hj => ?_⟩
    rw [List.getElem?_append_left (by rw [h.1.1]; omega)]
    exact hx j hj
  · have hkl : k = l.length := by
      have := (List.getElem?_eq_some_iff.1 hk).1
      simp at this
      omega
    subst hkl
    rw [List.getElem?_append_right (Nat.le_refl _), Nat.sub_self] at hk
    simp only [List.getElem?_cons_zero, Option.some.injEq] at hk
    subst hk
    have h5 := Tr.In.kept (S := fun q => w.heap.size ≤ q ∧ q < w1.heap.size) (w' := w2) ⟨hg.size, fun q hq hl => hg.block q hl (fun e => by have := (hlt q e.symm).2; have := hq.1; omega)⟩ _ _ (Tr.In.top _ _ hI)
    have h6 : ∀ q, (w.heap.size ≤ q ∧ q < w1.heap.size) → (B ≤ q ∧ v'.ownBlock ≠ some q) := by
      intro q hq
      refine ⟨Nat.le_trans hB hq.1, fun he => ?_⟩
      rcases hf q he with h2 | h2
      · have := (hlt q h2).2
        have := hq.1
        omega
      · have := hq.2
        omega
    refine ⟨C, Tr.In.mono h6 _ _ h5, fun j hj => ?_⟩
    rw [List.getElem?_append_right (by rw [h.1.1]; omega), show 11 * l.length + j - xs.length = j by rw [h.1.1]; omega, Array.getElem?_toList]
/-- The row, read as a list. -/
theorem Tr.Row.lin {B : Nat} {w : World} {v : Value} {l : List Tr} {xs : List Value} (h : Tr.Row B w v l xs) : Tr.LIn w (fun q => B ≤ q) l v := by
  obtain ⟨ho, hall⟩ := h
  have hcell := @World.ownsRow.cells w B _ 11 v l.length xs ho
  rcases ho.2 with ⟨rfl, h0⟩ | ⟨g, cap, cur, rfl, hbg, hgc, hnc, hcm, hcs, htake⟩
  · exact .inl ⟨rfl, h0⟩
  · rcases Nat.eq_zero_or_pos l.length with h0 | h0
    · exact .inr (.inl ⟨_, _, by rw [h0], h0⟩)
    · refine .inr (.inr ⟨h0, g, 0, cap, rfl, hnc, by simp only [maxLen] at hcm; omega, (Array.getElem?_eq_some_iff.1 hgc).1, hbg, Tr.All.of l g 0 (fun k t hk => ?_)⟩)
      obtain ⟨C, hI, hx⟩ := hall k t hk
      refine ⟨C, Tr.In.mono (fun q hq => hq.1) _ _ hI, fun j hj => ?_⟩
      have hs := hI.size11
      have hu : C[j]? = some C[j] := Array.getElem?_eq_getElem (by omega)
      refine ⟨C[j], hu, ?_⟩
      have := hcell (g := g) rfl (11 * k + j) C[j] ((hx j hj).trans hu)
      have hadd : (⟨g, 0, none⟩ : Addr).add (11 * k + j) = ⟨g, 11 * k + j, none⟩ := by unfold Addr.add; split <;> simp_all
      rw [hadd] at this
      rw [Nat.zero_add]
      exact this
end Go.Proofs.YtikmebkfdpbidaaGreatDoor
namespace Go.Proofs.YtikmebkfdpbidaaGreatDoor
open Go.RowKit
set_option linter.unusedVariables false
set_option linter.unusedSimpArgs false

/-- Behind the data xs, the list t goes on with u. -/
def Wt.Run : List Tr → Tr → Tr → Prop
  | [], t, u => t = u
  | a :: xs, t, u => ∃ h r, t = .mk h [a, r] ∧ h.k = 8 ∧ Wt.Run xs r u
theorem Wt.Run.snoc : ∀ (xs : List Tr) {t : Tr} {h : Tr.Hd} {a r : Tr}, Wt.Run xs t (.mk h [a, r]) → h.k = 8 → Wt.Run (xs ++ [a]) t r
  | [], t, h, a, r, e, hk => ⟨h, r, e, hk, rfl⟩
  | x :: xs, t, h, a, r, ⟨h0, r0, e, hk0, e2⟩, hk => ⟨h0, r0, e, hk0, Wt.Run.snoc xs e2 hk⟩
theorem Wt.Run.tail (m : Bool) : ∀ (xs : List Tr) {t u : Tr}, Wt.Run xs t u → Wt.tail m t = Wt.row m false xs ++ Wt.tail m u
  | [], t, u, e => by rw [show t = u from e, Wt.row_nil, List.nil_append]
  | x :: xs, t, u, ⟨h, r, e, hk, e2⟩ => by
    rw [e, Wt.tail_pair hk, Wt.Run.tail m xs e2, Wt.row_cons]
    simp
/-- What is known of the data of a list. -/
structure Wt.RunOk (xs : List Tr) (t u : Tr) : Prop where
  gl : Tr.goodL xs
  gu : Tr.good u
  fl : Wt.fitL xs
  fu : Wt.fit u
  sz : Tr.sizeL xs + Tr.size u ≤ Tr.size t
  lt : ∀ (k : Nat) (x : Tr), xs[k]? = some x → Tr.size x < Tr.size t
theorem Wt.Run.ok : ∀ (xs : List Tr) {t u : Tr}, Wt.Run xs t u → Tr.good t → Wt.fit t → Wt.RunOk xs t u
  | [], t, u, e, hg, hf => by
    obtain rfl : t = u := e
    exact ⟨Tr.goodL_nil, hg, Wt.fitL_nil, hf, by rw [Tr.sizeL_nil]; omega, fun k x h => by simp at h⟩
  | x :: xs, t, u, ⟨h, r, e, hk, e2⟩, hg, hf => by
    subst e
    have g1 := Tr.goodL_cons.1 (Tr.good_mk.1 hg).2
    have f1 := Wt.fitL_cons.1 (Wt.fit_mk.1 hf).2
    have ih := Wt.Run.ok xs e2 (Tr.goodL_cons.1 g1.2).1 (Wt.fitL_cons.1 f1.2).1
    have hs : Tr.size (.mk h [x, r]) = 1 + (Tr.size x + Tr.size r) := by rw [Tr.size_mk, Tr.sizeL_cons, Tr.sizeL_cons, Tr.sizeL_nil]; omega
    refine ⟨Tr.goodL_cons.2 ⟨g1.1, ih.gl⟩, ih.gu, Wt.fitL_cons.2 ⟨f1.1, ih.fl⟩, ih.fu, ?_, fun k y hy => ?_⟩
    · have := ih.sz
      rw [Tr.sizeL_cons, hs]
      omega
    · rw [hs]
      cases k with
      | zero =>
        simp only [List.getElem?_cons_zero, Option.some.injEq] at hy
        subst hy
        omega
      | succ k =>
        simp only [List.getElem?_cons_succ] at hy
        have := ih.lt k y hy
        omega
theorem Wt.Run.len_lt : ∀ (xs : List Tr) {t u : Tr}, Wt.Run xs t u → xs.length + Tr.size u ≤ Tr.size t
  | [], t, u, e => by
    obtain rfl : t = u := e
    simp
  | x :: xs, t, u, ⟨h, r, e, hk, e2⟩ => by
    subst e
    have ih := Wt.Run.len_lt xs e2
    have hs : Tr.size (.mk h [x, r]) = 1 + (Tr.size x + Tr.size r) := by rw [Tr.size_mk, Tr.sizeL_cons, Tr.sizeL_cons, Tr.sizeL_nil]; omega
    rw [List.length_cons, hs]
    omega
/-- What a list's text is, by its data. -/
theorem Wt.Run.text (m : Bool) {xs : List Tr} {t u : Tr} (h : Wt.Run xs t u) (ht : t.hd.k = 8) (hu : u.hd.k ≠ 8) : ∃ a ys, xs = a :: ys ∧
    ((∃ b, ys = [b] ∧ u.hd.k = 1 ∧ Wt.isQ a = true ∧ Wt.tell m t = 39 :: Wt.tell m b) ∨
     ((xs.length ≠ 2 ∨ u.hd.k ≠ 1 ∨ Wt.isQ a = false) ∧ Wt.tell m t = 40 :: (Wt.row m true xs ++ (Wt.tail m u ++ [41])))) := by
  cases xs with
  | nil =>
    obtain rfl : t = u := h
    exact absurd ht hu
  | cons a ys =>
    obtain ⟨h0, r, e, hk, e2⟩ := h
    subst e
    refine ⟨a, ys, rfl, ?_⟩
    by_cases hq : (Wt.isQ a && Wt.isOne r) = true
    · obtain ⟨q1, q2⟩ := Bool.and_eq_true_iff.1 hq
      obtain ⟨hr, b, hc, lc, e3, hrk, hck⟩ := Wt.isOne_form q2
      subst e3
      cases ys with
      | nil =>
        obtain rfl : _ = u := e2
        exact absurd hrk hu
      | cons b2 zs =>
        obtain ⟨h2, r2, e4, hk2, e5⟩ := e2
        simp only [Tr.mk.injEq, List.cons.injEq, and_true] at e4
        obtain ⟨rfl, rfl, rfl⟩ := e4
        cases zs with
        | nil =>
          obtain rfl : _ = u := e5
          exact .inl ⟨b, rfl, hck, q1, Wt.tell_quo hk hq⟩
        | cons c zs =>
          obtain ⟨h3, r3, e6, hk3, _⟩ := e5
          simp only [Tr.mk.injEq] at e6
          obtain ⟨rfl, _⟩ := e6
          omega
    · have hq0 : (Wt.isQ a && Wt.isOne r) = false := by simpa using hq
      refine .inr ⟨?_, ?_⟩
      · by_cases h1 : (a :: ys).length = 2
        · by_cases h2 : u.hd.k = 1
          · refine .inr (.inr ?_)
            cases ys with
            | nil => simp at h1
            | cons b zs =>
              cases zs with
              | cons c zs => simp at h1
              | nil =>
                obtain ⟨hr, r2, e4, hk2, e5⟩ := e2
                obtain rfl : r2 = u := e5
                subst e4
                obtain ⟨hu2, lu⟩ := r2
                have ho : Wt.isOne (.mk hr [b, .mk hu2 lu]) = true := by
                  unfold Wt.isOne
                  have h2' : hu2.k = 1 := h2
                  simp [hk2, h2']
                rw [ho, Bool.and_true] at hq0
                exact hq0
          · exact .inr (.inl h2)
        · exact .inl h1
      · rw [Wt.tell_pair hk hq0, Wt.Run.tail m ys e2, Wt.row_cons]
        simp
/-- The row of the data l, which lie below B. -/
def Wt.RRow (B : Nat) (w : World) (v : Value) (l : List Tr) (xs : List Value) : Prop :=
  w.ownsRow B 30 11 v l.length xs ∧ ∀ (k : Nat) (t : Tr), l[k]? = some t → ∃ C : Array Value, Tr.In w (fun q => q < B) t (.agg C) ∧ ∀ j, j < 11 → xs[11 * k + j]? = C[j]?
theorem Wt.RRow.lin {B : Nat} {w : World} {v : Value} {l : List Tr} {xs : List Value} (h : Wt.RRow B w v l xs) : Tr.LIn w (fun _ => True) l v := by
  obtain ⟨ho, hall⟩ := h
  have hcell := @World.ownsRow.cells w B _ 11 v l.length xs ho
  rcases ho.2 with ⟨rfl, h0⟩ | ⟨g, cap, cur, rfl, hbg, hgc, hnc, hcm, hcs, htake⟩
  · exact .inl ⟨rfl, h0⟩
  · rcases Nat.eq_zero_or_pos l.length with h0 | h0
    · exact .inr (.inl ⟨_, _, by rw [h0], h0⟩)
    · refine .inr (.inr ⟨h0, g, 0, cap, rfl, hnc, by simp only [maxLen] at hcm; omega, (Array.getElem?_eq_some_iff.1 hgc).1, trivial, Tr.All.of l g 0 (fun k t hk => ?_)⟩)
      obtain ⟨C, hI, hx⟩ := hall k t hk
      refine ⟨C, Tr.In.mono (fun q hq => trivial) _ _ hI, fun j hj => ?_⟩
      have hs := hI.size11
      have hu : C[j]? = some C[j] := Array.getElem?_eq_getElem (by omega)
      refine ⟨C[j], hu, ?_⟩
      have := hcell (g := g) rfl (11 * k + j) C[j] ((hx j hj).trans hu)
      have hadd : (⟨g, 0, none⟩ : Addr).add (11 * k + j) = ⟨g, 11 * k + j, none⟩ := by unfold Addr.add; split <;> simp_all
      rw [hadd] at this
      rw [Nat.zero_add]
      exact this
theorem Wt.RRow.push {B : Nat} {w w2 : World} {v v' : Value} {l : List Tr} {xs : List Value} {t : Tr} {C : Array Value} (h : Wt.RRow B w v l xs) (hI : Tr.In w (fun q => q < B) t (.agg C))
    (ho : w2.ownsRow B 30 11 v' (l.length + 1) (xs ++ C.toList)) (hb : Below B w w2) : Wt.RRow B w2 v' (l ++ [t]) (xs ++ C.toList) := by
  refine ⟨by rw [List.length_append]; exact ho, fun k u hk => ?_⟩
  have hkp : Tr.Kept (fun q => q < B) w w2 := ⟨hb.size, fun q hq _ => hb.block q hq⟩
  rcases Nat.lt_or_ge k l.length with h1 | h1
  · rw [List.getElem?_append_left h1] at hk
    obtain ⟨C', hI', hx⟩ := h.2 k u hk
    refine ⟨C', Tr.In.kept hkp _ _ hI', fun j hj => ?_⟩
    rw [List.getElem?_append_left (by rw [h.1.1]; omega)]
    exact hx j hj
  · have hkl : k = l.length := by
      have := (List.getElem?_eq_some_iff.1 hk).1
      simp at this
      omega
    subst hkl
    rw [List.getElem?_append_right (Nat.le_refl _), Nat.sub_self] at hk
    simp only [List.getElem?_cons_zero, Option.some.injEq] at hk
    subst hk
    refine ⟨C, Tr.In.kept hkp _ _ hI, fun j hj => ?_⟩
    rw [List.getElem?_append_right (by rw [h.1.1]; omega), show 11 * l.length + j - xs.length = j by rw [h.1.1]; omega, Array.getElem?_toList]
theorem Wt.RRow.keep {B : Nat} {w w2 : World} {v : Value} {l : List Tr} {xs : List Value} (h : Wt.RRow B w v l xs) (hb : Below B w w2) (hv : ∀ g, v.ownBlock = some g → w2.heap[g]? = w.heap[g]?) : Wt.RRow B w2 v l xs := by
  refine ⟨⟨h.1.1, ?_⟩, fun k t hk => ?_⟩
  · rcases h.1.2 with hn | ⟨g, cap, cur, hv', hbg, hgc, rest⟩
    · exact .inl hn
    · exact .inr ⟨g, cap, cur, hv', hbg, by rw [hv g (by rw [hv']; rfl)]; exact hgc, rest⟩
  · obtain ⟨C, hI, hx⟩ := h.2 k t hk
    exact ⟨C, Tr.In.kept ⟨hb.size, fun q hq _ => hb.block q hq⟩ _ _ hI, hx⟩
/-- What holds at each round of the list's loop: the rest lies in block q. -/
structure Wt.ListRel (q : Nat) (w : World) (t : Tr) (xs : List Tr) (hu : Tr.Hd) (lu : List Tr) (u3 u4 u6 u7 u9 u10 : Value) (cs : List Value) (v : Value) (wr : World) : Prop where
  box : wr.heap[q]? = some (.cells (Tr.cells hu u3 u4 u6 u7 u9 u10) 30 (0, 0))
  in_ : Tr.In wr (fun i => i < w.heap.size) (.mk hu lu) (.agg (Tr.cells hu u3 u4 u6 u7 u9 u10))
  row : Wt.RRow w.heap.size wr v xs cs
  ne : v.ownBlock ≠ some q
  bel : Below w.heap.size w wr
  run : Wt.Run xs t (.mk hu lu)
/-- The next datum is appended, and the rest goes on. -/
theorem Wt.ListRel.next {q : Nat} {w : World} {t : Tr} {xs : List Tr} {hu : Tr.Hd} {x : Tr} {hy : Tr.Hd} {ly : List Tr} {u3 u4 u6 u7 u9 u10 y3 y4 y6 y7 y9 y10 : Value} {cs : List Value} {v v' : Value} {wr w1 w2 w3 : World} {Cx : Array Value}
    (h : Wt.ListRel q w t xs hu [x, .mk hy ly] u3 u4 u6 u7 u9 u10 cs v wr) (hk : hu.k = 8) (hq : w.heap.size ≤ q)
    (hIx : Tr.In wr (fun i => i < w.heap.size) x (.agg Cx)) (hIy : Tr.In wr (fun i => i < w.heap.size) (.mk hy ly) (.agg (Tr.cells hy y3 y4 y6 y7 y9 y10)))
    (hb1 : Below wr.heap.size wr w1) (ho : w2.ownsRow w.heap.size 30 11 v' (xs.length + 1) (cs ++ Cx.toList)) (hg : w1.grownBy w2 v.ownBlock) (hf : Ls.Fresh w1 v v')
    (hw3 : w3.heap[q]? = some (.cells (Tr.cells hy y3 y4 y6 y7 y9 y10) 30 (0, 0))) (hz3 : w3.heap.size = w2.heap.size) (ho3 : ∀ i, i ≠ q → w3.heap[i]? = w2.heap[i]?) (hbl : Below w.heap.size w2 w3) :
    Wt.ListRel q w t (xs ++ [x]) hy ly y3 y4 y6 y7 y9 y10 (cs ++ Cx.toList) v' w3 := by
  have hqlt : q < wr.heap.size := (Array.getElem?_eq_some_iff.1 h.box).1
  have hb2 : Below w.heap.size wr w2 := (hb1.mono h.bel.size).grown hg (Nat.le_trans h.bel.size hb1.size) (fun g hgv => (h.row.1.lt g hgv).1)
  have hb3 := hb2.trans hbl
  have hne : v'.ownBlock ≠ some q := fun e => by
    rcases hf q e with h1 | h1
    · exact h.ne h1
    · have := hb1.size
      omega
  refine ⟨hw3, Tr.In.kept ⟨hb3.size, fun i hi _ => hb3.block i hi⟩ _ _ hIy, ?_, hne, h.bel.trans hb3, Wt.Run.snoc xs h.run hk⟩
  exact (h.row.push hIx ho hb2).keep hbl (fun g hgv => ho3 g (fun e => hne (by rw [hgv, e])))
end Go.Proofs.YtikmebkfdpbidaaGreatDoor
namespace Go.Proofs.YtikmebkfdpbidaaGreatDoor
open Go.RowKit
set_option linter.unusedVariables false
set_option linter.unusedSimpArgs false

set_option maxHeartbeats 4000000 in
set_option maxRecDepth 1000000 in
theorem Wt.tell_list (m : Bool) (h : Tr.Hd) (l : List Tr) (h8 : h.k = 8) (IH : ∀ u, Tr.size u < Tr.size (.mk h l) → Wt.TSays m u) : Wt.TSays m (.mk h l) := by
  intro S C w hI hg hf hlen
  obtain ⟨h', l', a3, a4, a6, a7, a9, a10, n3, n4, n6, n7, n9, n10, c3, c4, c6, c7, c9, c10, eC, et, _, _⟩ := Tr.In.form2 hI
  simp only [Tr.mk.injEq] at et
  obtain ⟨rfl, rfl⟩ := et
  subst eC
  obtain ⟨i0, hi, hz0, hz1, hz2⟩ := info_parts Tr.infoD
  obtain ⟨A, hA⟩ : ∃ z, z = Tr.cells h (.slice a3 n3 c3) (.slice a4 n4 c4) (.slice a6 n6 c6) (.slice a7 n7 c7) (.slice a9 n9 c9) (.slice a10 n10 c10) := ⟨_, rfl⟩
  obtain ⟨W0, hW0⟩ : ∃ z, w.alloc (.cells A 30) = z := ⟨_, rfl⟩
  obtain ⟨W1, hW1⟩ : ∃ z, W0.alloc (.cells #[] 30) = z := ⟨_, rfl⟩
  obtain ⟨W2, hW2⟩ : ∃ z, W1.alloc (.cells A 30) = z := ⟨_, rfl⟩
  have hs0 : W0.heap.size = w.heap.size + 1 := by rw [← hW0]; simp
  have hs1 : W1.heap.size = w.heap.size + 2 := by rw [← hW1]; simp [hs0]
  have hs2 : W2.heap.size = w.heap.size + 3 := by rw [← hW2]; simp [hs1]
  have hq0 : W0.heap[w.heap.size]? = some (.cells A 30 (0, 0)) := by rw [← hW0]; exact heap_alloc_new w _
  have hb0 : Below w.heap.size w W0 := by rw [← hW0]; exact (Below.refl _ _).alloc (Nat.le_refl _) _
  have hb1 : Below W0.heap.size W0 W1 := by rw [← hW1]; exact (Below.refl _ _).alloc (Nat.le_refl _) _
  have hb2 : Below W1.heap.size W1 W2 := by rw [← hW2]; exact (Below.refl _ _).alloc (Nat.le_refl _) _
  have hq1 : W1.heap[w.heap.size]? = some (.cells A 30 (0, 0)) := (hb1.block _ (by omega)).trans hq0
  have hq2 : W2.heap[W1.heap.size]? = some (.cells A 30 (0, 0)) := by rw [← hW2]; exact heap_alloc_new W1 _
  have hbw : Below w.heap.size w W2 := (hb0.trans (hb1.mono hb0.size)).trans (hb2.mono (by omega))
  have hown : W2.ownsRow w.heap.size 30 11 (.slice (some ⟨W0.heap.size, 0, none⟩) 0 0) 0 [] := by
    have h1 : W1.ownsRow w.heap.size 30 11 (.slice (some ⟨W0.heap.size, 0, none⟩) 0 0) 0 [] := by
      rw [← hW1]
      exact World.ownsRow_made W0 #[] 0 (by omega) (by decide) rfl
    exact Rn.own_below h1 hb2 (Nat.le_refl _)
  have hIn : Tr.In W2 (fun i => i < w.heap.size) (.mk h l) (.agg A) := by
    rw [hA]
    exact Tr.In.below (Tr.In.mono (fun i hi => hi.2) _ _ (Tr.In.top _ _ hI)) hbw (Nat.le_refl _)
  rw [hA] at hIn
  have H0 : Wt.ListRel W1.heap.size w (.mk h l) [] h l (.slice a3 n3 c3) (.slice a4 n4 c4) (.slice a6 n6 c6) (.slice a7 n7 c7) (.slice a9 n9 c9) (.slice a10 n10 c10) [] (.slice (some ⟨W0.heap.size, 0, none⟩) 0 0) W2 :=
    ⟨by rw [← hA]; exact hq2, hIn, ⟨hown, fun k t hk => by simp at hk⟩, by simp only [Value.ownBlock]; intro e; injection e with e; omega, hbw, rfl⟩
  obtain ⟨R, hR⟩ : ∃ R, Tx.str (Wt.tell m (.mk h l)) = R := ⟨_, rfl⟩
  rw [hR]
  have HRR := Lib.hid hR
  have HIH := Lib.hid IH
  have HG := Lib.hid (And.intro hg hf)
  have HK8 := Lib.hid h8
  have h8b := h8
  obtain ⟨q, hq⟩ : ∃ z, W1.heap.size = z := ⟨_, rfl⟩
  obtain ⟨p9, hp9⟩ : ∃ z, W0.heap.size = z := ⟨_, rfl⟩
  rw [hq, hp9] at H0
  have HQ : Hid (w.heap.size ≤ q) := Lib.hid (by omega)
  have dd := Lib.cell_of_heap hq0
  have ee := Lib.cell_of_heap hq1
  obtain ⟨Z, hZ⟩ : ∃ z, Tr.size (.mk h l) = z := ⟨_, rfl⟩
  have HZ := Lib.hid hZ
  rw [hZ] at hlen
  clear hR IH hg hf h8 hI hIn hown hbw hq0 hq1 hq2 hb0 hb1 hb2 hs0 hs1 hs2 hZ
  unfold Tr.cells at hA ⊢
  subst hA
  have q0 := dd 0
  have q1 := dd 1
  have q2 := dd 2
  have q3 := dd 3
  have q4 := dd 4
  have q5 := dd 5
  have q6 := dd 6
  have q7 := dd 7
  have q8 := dd 8
  have q9 := dd 9
  have q10 := dd 10
  have p0 := ee 0
  have p1 := ee 1
  have p2 := ee 2
  have p3 := ee 3
  have p4 := ee 4
  have p5 := ee 5
  have p6 := ee 6
  have p7 := ee 7
  have p8 := ee 8
  have p9' := ee 9
  have p10 := ee 10
  rw [h8b] at hW0 hW2 q0 p0 ⊢
  have H0 := Lib.hid H0
  clear dd ee h8b
  go_enter Tryz.func41, Tryz.ntmps41
  go_wp2_with fail
  clear q0 q1 q2 q3 q4 q5 q6 q7 q8 q9 q10 p0 p1 p2 p3 p4 p5 p6 p7 p8 p9' p10
  go_loopg [9] Z (fun g v wr => ∃ (xs : List Tr) (hu : Tr.Hd) (lu : List Tr) (u3 u4 u6 u7 u9 u10 : Value) (cs : List Value), Tr.size (.mk hu lu) = g ∧ Wt.ListRel q w (.mk h l) xs hu lu u3 u4 u6 u7 u9 u10 cs v wr)
  case atStart => exact ⟨[], h, l, _, _, _, _, _, _, [], HZ.out, H0.out⟩
  case round =>
    obtain ⟨xs, hu, lu, u3, u4, u6, u7, u9, u10, cs, hgk, hR⟩ := hrel
    clear H0
    obtain ⟨wo, hwo⟩ : ∃ z, z = wr := ⟨_, rfl⟩
    subst hwo
    have hlo : w.heap.size ≤ wo.heap.size := hR.bel.size
    have hok := Wt.Run.ok xs hR.run HG.out.1 HG.out.2
    have hxl := Wt.Run.len_lt xs hR.run
    have hbox := hR.box
    have hqlt : q < wo.heap.size := (Array.getElem?_eq_some_iff.1 hbox).1
    obtain ⟨K, hK⟩ : ∃ z, z = xs.length := ⟨_, rfl⟩
    obtain ⟨oa, oc, rfl⟩ := Rn.own_slice hR.row.1
    have hown := hR.row.1
    rw [← hK] at hown hxl hR ⊢
    rw [HZ.out] at hxl
    have hsz := hok.sz
    rw [HZ.out] at hsz
    by_cases hu8 : hu.k = 8
    · obtain ⟨x, y, bb, off, cap2, z3, z4, z6, z7, z9, Cx, Cy, e1, e2, hbb, hc2, hIx, hMx, hIy, hMy⟩ := Wt.two hR.in_ hok.gu hu8
      subst e1
      have e3 := congrArg (fun (A : Array Value) => A[10]?) e2
      simp only [Tr.cells] at e3
      simp at e3
      subst e3
      clear e2
      obtain ⟨hx2, lx, ax3, ax4, ax6, ax7, ax9, ax10, nx3, nx4, nx6, nx7, nx9, nx10, cx3, cx4, cx6, cx7, cx9, cx10, eCx, ext, _, _⟩ := Tr.In.form2 hIx
      subst eCx
      obtain ⟨hy, ly, ay3, ay4, ay6, ay7, ay9, ay10, ny3, ny4, ny6, ny7, ny9, ny10, cy3, cy4, cy6, cy7, cy9, cy10, eCy, eyt, _, _⟩ := Tr.In.form2 hIy
      subst eCy
      subst ext eyt
      have hsu : Tr.size (.mk hu [.mk hx2 lx, .mk hy ly]) = 1 + (Tr.size (.mk hx2 lx) + Tr.size (.mk hy ly)) := by rw [Tr.size_mk, Tr.sizeL_cons, Tr.sizeL_cons, Tr.sizeL_nil]; omega
      have hbc := Lib.cell_of_heap hbox
      have hc2I : (2 : Int) ≤ cap2 := by omega
      have HNX := Lib.hid (fun (w1 w2 w3 : World) (v' : Value) => hR.next (q := q) (y3 := .slice ay3 ny3 cy3) (y4 := .slice ay4 ny4 cy4) (y6 := .slice ay6 ny6 cy6) (y7 := .slice ay7 ny7 cy7) (y9 := .slice ay9 ny9 cy9) (y10 := .slice ay10 ny10 cy10) (w1 := w1) (w2 := w2) (w3 := w3) (v' := v') hu8 HQ.out hIx hIy)
      have HBX := Lib.hid (fun (w1 w2 : World) (hb : Below wo.heap.size wo w1) (hg : w1.grownBy w2 (Value.slice oa K oc).ownBlock) => (show w2.heap[q]? = some (.cells (Tr.cells hu u3 u4 u6 u7 u9 (.slice (some ⟨bb, off, none⟩) 2 cap2)) 30 (0, 0)) ∧ Tr.Mem w2 bb (off + 11) (Tr.cells hy (.slice ay3 ny3 cy3) (.slice ay4 ny4 cy4) (.slice ay6 ny6 cy6) (.slice ay7 ny7 cy7) (.slice ay9 ny9 cy9) (.slice ay10 ny10 cy10)) by
        have hbz := hb.size
        refine ⟨(hg.block q (by omega) (fun e => hR.ne e.symm)).trans ((hb.block q hqlt).trans hbox), fun j hj => ?_⟩
        obtain ⟨u, h1, h2⟩ := hMy j hj
        have hblt : bb < wo.heap.size := by omega
        refine ⟨u, h1, ?_⟩
        rw [World.cell?_of_block (w := w1) (hg.block bb (by omega) (fun e => by have := (hown.lt bb e.symm).1; omega)), hb.cell (p := ⟨bb, off + 11 + j, none⟩) hblt]
        exact h2))
      unfold Tr.cells at hbc hMx HBX HNX
      have d0 := hbc 0
      have d10 := hbc 10
      rw [hu8] at d0
      obtain ⟨e0, e1, e2, e3, e4, e5, e6, e7, e8, e9, e10⟩ := Tr.Mem.cells hMx
      have HOWN := Lib.hid hown
      have HHK := Lib.hid hK
      have HHG := Lib.hid hgk
      have HSU := Lib.hid hsu
      have HLO := Lib.hid hlo
      clear hR hIx hMx hIy hMy hbox hbc hok hgk hsu hown hlo hK
      go_wp2_with (at_builtin; refine Ls.wpList_append _ rfl _ _ 28 rfl w.heap.size 30 i0 Tr.zeroV 11 192 Tryz.underlying28 hi hz0 hz1 hz2 rfl (by decide) _ K cs rfl (Rn.own_below HOWN.out ((Below.refl _ _).alloc (Nat.le_refl _) _) (Nat.le_refl _)) (.slice (some ⟨wo.heap.size, 0, none⟩) 1 1) 1 [.int .i64 hx2.k, .int .i64 hx2.n, .bool hx2.s1, .slice ax3 nx3 cx3, .slice ax4 nx4 cx4, .bool hx2.s2, .slice ax6 nx6 cx6, .slice ax7 nx7 cx7, .string hx2.x, .slice ax9 nx9 cx9, .slice ax10 nx10 cx10] rfl (.inr ⟨_, _, rfl, rfl, World.news_of_block (heap_alloc_new _ _)⟩) (by intro u hu; simp only [List.mem_cons, List.not_mem_nil, or_false] at hu; rcases hu with rfl | rfl | rfl | rfl | rfl | rfl | rfl | rfl | rfl | rfl | rfl <;> rfl) (by simp only [maxLen]; omega) (by omega) (by have := HLO.out; simp; omega) ?_)
      intro v7 w7 hown7 hgr7 hfr7
      have hbA : Below wo.heap.size wo (wo.alloc (.cells #[.int .i64 hx2.k, .int .i64 hx2.n, .bool hx2.s1, .slice ax3 nx3 cx3, .slice ax4 nx4 cx4, .bool hx2.s2, .slice ax6 nx6 cx6, .slice ax7 nx7 cx7, .string hx2.x, .slice ax9 nx9 cx9, .slice ax10 nx10 cx10] 30)) := (Below.refl _ _).alloc (Nat.le_refl _) _
      obtain ⟨HXB, hMy7⟩ := HBX.out _ _ hbA hgr7
      have hown8 := hown7
      rw [HHK.out] at hown8
      obtain ⟨a7', c7', rfl⟩ := Rn.own_slice hown7
      clear e0 e1 e2 e3 e4 e5 e6 e7 e8 e9 e10 d0 d10
      have b10 := Lib.cell_of_heap HXB 10
      obtain ⟨e0, e1, e2, e3, e4, e5, e6, e7, e8, e9, e10⟩ := Tr.Mem.cells hMy7
      have hput := Dt.put11 HXB (.int .i64 hy.k) (.int .i64 hy.n) (.bool hy.s1) (.slice ay3 ny3 cy3) (.slice ay4 ny4 cy4) (.bool hy.s2) (.slice ay6 ny6 cy6) (.slice ay7 ny7 cy7) (.string hy.x) (.slice ay9 ny9 cy9) (.slice ay10 ny10 cy10)
      obtain ⟨X1, X2, X3, X4, X5, X6, X7, X8, X9, X10, X11, ⟨f0, y0, s0, _⟩, ⟨f1, y1, s1, _⟩, ⟨f2, y2, s2, _⟩, ⟨f3, y3, s3, _⟩, ⟨f4, y4, s4, _⟩, ⟨f5, y5, s5, _⟩, ⟨f6, y6, s6, _⟩, ⟨f7, y7, s7, _⟩, ⟨f8, y8, s8, _⟩, ⟨f9, y9, s9, _⟩, ⟨f10, y10, s10, _⟩, hX, hXz, hXo, hXb⟩ := hput
      have HFIN := Lib.hid (HNX.out _ w7 X11 _ hbA hown8 hgr7 hfr7 hX hXz hXo (hXb _ w7 (Below.refl _ _) HQ.out))
      clear HXB hMy7 hX hXz hXo hXb hown7 hown8 hgr7 hfr7 hbA
      go_wp2_with fail
      go_roundg (Tr.size (.mk hy ly))
      case measure => have := HSU.out; have := HHG.out; omega
      case rel => exact ⟨_, hy, ly, _, _, _, _, _, _, _, rfl, HFIN.out⟩
    · have h8I : (hu.k == 8) = false := beq_eq_false_iff_ne.2 hu8
      obtain ⟨a, ys, hxs, hT⟩ := Wt.Run.text m hR.run HK8.out hu8
      have hlin := hR.row.lin
      have hKp : 0 < K := by rw [hK, hxs]; simp
      obtain ⟨bb, off, e, hnm, hcapL, _, hblt, _, hall⟩ := Tr.Sl.at hlin (by rw [← hK]; exact hKp)
      clear hnm
      subst e
      rw [← hK] at hcapL
      obtain ⟨Ca, hIa, hMa⟩ := Tr.All.at _ _ _ hall 0 a (by rw [hxs]; rfl)
      rw [Nat.mul_zero, Nat.add_zero] at hMa
      obtain ⟨ha, la, aa3, aa4, aa6, aa7, aa9, aa10, na3, na4, na6, na7, na9, na10, ca3, ca4, ca6, ca7, ca9, ca10, eCa, eat, _, _⟩ := Tr.In.form2 hIa
      subst eCa eat
      unfold Tr.cells at hMa
      obtain ⟨e0, e1, e2, e3, e4, e5, e6, e7, e8, e9, e10⟩ := Tr.Mem.cells hMa
      have HROW := Lib.hid (Wt.row_step m xs (fun k t ht => HIH.out t (hok.lt k t ht)) (fun _ => True) _ wo hlin hok.gl hok.fl (by omega))
      have hrs := Wt.row_small m true xs (fun k t e => Wt.small m t) hok.gl hok.fl
      have htu := (Wt.small m (.mk hu lu) hok.gu hok.fu).1
      have hult : Tr.size (.mk hu lu) < Tr.size (.mk h l) := by
        have := hR.run
        have := Wt.Run.len_lt xs this
        omega
      have HRU := Lib.hid (fun w5 (hb5 : Below wo.heap.size wo w5) => HIH.out (.mk hu lu) hult (fun i => i < w.heap.size) _ w5 (Tr.In.below hR.in_ hb5 (Nat.le_refl _)) hok.gu hok.fu (by omega))
      have HBX := Lib.hid (fun w5 (hb5 : Below wo.heap.size wo w5) => (hb5.block q hqlt).trans hbox)
      have HBW := Lib.hid hR.bel
      have hbc := Lib.cell_of_heap hbox
      obtain ⟨T, hTT⟩ : ∃ z, Tx.str (Wt.row m true xs) = z := ⟨_, rfl⟩
      have hTs : T.size = (Wt.row m true xs).length := by rw [← hTT, Wt.str_size]
      obtain ⟨U, hUU⟩ : ∃ z, Tx.str (Wt.tell m (.mk hu lu)) = z := ⟨_, rfl⟩
      have hUs : U.size = (Wt.tell m (.mk hu lu)).length := by rw [← hUU, Wt.str_size]
      rw [hTT] at HROW
      rw [hUU] at HRU
      obtain ⟨n1, hn1⟩ : ∃ z, T.size = z := ⟨_, rfl⟩
      obtain ⟨n2, hn2⟩ : ∃ z, U.size = z := ⟨_, rfl⟩
      have hs1 : (9223372036854775807 < 1 + n1) = False := eq_false (by omega)
      have hs2 : (9223372036854775807 < 1 + n1 + 1) = False := eq_false (by omega)
      have hs3 : (9223372036854775807 < 3 + n2) = False := eq_false (by omega)
      have hs4 : (9223372036854775807 < 1 + n1 + (3 + n2)) = False := eq_false (by omega)
      have hs5 : (9223372036854775807 < 1 + n1 + (3 + n2) + 1) = False := eq_false (by omega)
      unfold Tr.cells at hbc HBX HRU
      have d0 := hbc 0
      have h8b := Lib.hid hu8
      rcases hT with ⟨b, rfl, hu1, hqa, htell⟩ | ⟨hno, htell⟩
      · rw [hxs] at hK
        simp only [List.length_cons, List.length_nil] at hK
        have hK2 : K = 2 := by omega
        subst hK2
        unfold Wt.isQ at hqa
        simp only [Bool.and_eq_true, decide_eq_true_eq] at hqa
        have h6 : (ha.k == 6) = true := by rw [hqa.1]; rfl
        have hx : (ha.x.toList == [113, 117, 111, 116, 101]) = true := by rw [ByteArray.toList_eq, hqa.2]; rfl
        have hu1 : hu.k = 1 := hu1
        have hu1I : (hu.k == 1) = true := by rw [hu1]; rfl
        obtain ⟨Cb, hIb, hMb⟩ := Tr.All.at _ _ _ hall 1 b (by rw [hxs]; rfl)
        rw [Nat.mul_one] at hMb
        obtain ⟨hb, lb, ab3, ab4, ab6, ab7, ab9, ab10, nb3, nb4, nb6, nb7, nb9, nb10, cb3, cb4, cb6, cb7, cb9, cb10, eCb, ebt, _, _⟩ := Tr.In.form2 hIb
        subst eCb ebt
        have hlb := hok.lt 1 (.mk hb lb) (by rw [hxs]; rfl)
        have hlbZ := hlb
        rw [HZ.out] at hlbZ
        have hgb := Tr.goodL_at xs hok.gl 1 (.mk hb lb) (by rw [hxs]; rfl)
        have hfb := Wt.fitL_at hok.fl (k := 1) (t := .mk hb lb) (by rw [hxs]; rfl)
        have HRB := Lib.hid (HIH.out (.mk hb lb) hlb (fun _ => True) _ wo hIb hgb hfb (by omega))
        have htb := (Wt.small m (.mk hb lb) hgb hfb).1
        obtain ⟨V, hVV⟩ : ∃ z, Tx.str (Wt.tell m (.mk hb lb)) = z := ⟨_, rfl⟩
        have hVs : V.size = (Wt.tell m (.mk hb lb)).length := by rw [← hVV, Wt.str_size]
        rw [hVV] at HRB
        obtain ⟨n3, hn3⟩ : ∃ z, V.size = z := ⟨_, rfl⟩
        have hs6 : (9223372036854775807 < 1 + n3) = False := eq_false (by omega)
        have HE : Hid (R = ⟨#[39]⟩ ++ V) := Lib.hid (by
          rw [← HRR.out, htell, ← hVV]
          simp [Tx.str]
          first | done | (apply ByteArray.ext; simp))
        unfold Tr.cells at hMb HRB
        obtain ⟨f0, f1, f2, f3, f4, f5, f6, f7, f8, f9, f10⟩ := Tr.Mem.cells hMb
        clear hR hlin hall hIa hMa hIb hMb hbox hbc hok hown hrs htu hTs hUs hVs htb htell hxs hqa hu1 hu8 hTT hUU hVV hgk hK hlb hlbZ hgb hfb hult hxl hsz
        go_wp2_with fail
        refine HRB.out.mono ?_
        rintro e w5 ⟨rfl, hb5⟩
        go_wp2_with fail
        go_ret
        exact ⟨Wt.ret1 HE.out.symm, HBW.out.trans (hb5.mono HBW.out.size)⟩
      · have hq0 : Wt.isQ (.mk ha la) = (decide (ha.k = 6) && decide (ha.x.data.toList = [113, 117, 111, 116, 101])) := rfl
        have hcase : ((K : Int) == 2) = false ∨ (K = 2 ∧ (hu.k == 1) = false) ∨ (K = 2 ∧ hu.k = 1 ∧ (ha.k == 6) = false) ∨ (K = 2 ∧ hu.k = 1 ∧ (ha.k == 6) = true ∧ (ha.x.toList == [113, 117, 111, 116, 101]) = false) := by
          by_cases k2 : K = 2
          · by_cases u1 : hu.k = 1
            · by_cases a6 : ha.k = 6
              · refine .inr (.inr (.inr ⟨k2, u1, by rw [a6]; rfl, ?_⟩))
                rw [ByteArray.toList_eq, beq_eq_false_iff_ne]
                intro e
                rcases hno with h1 | h1 | h1
                · exact h1 (by rw [← hK]; exact k2)
                · exact h1 u1
                · rw [hq0, a6, e] at h1
                  simp at h1
              · exact .inr (.inr (.inl ⟨k2, u1, beq_eq_false_iff_ne.2 a6⟩))
            · exact .inr (.inl ⟨k2, beq_eq_false_iff_ne.2 u1⟩)
          · exact .inl (beq_eq_false_iff_ne.2 (by omega))
        have HE1 : Hid (hu.k = 1 → R = ⟨#[40]⟩ ++ T ++ ⟨#[41]⟩) := Lib.hid (fun h1 => by
          rw [← HRR.out, htell, ← hTT, Wt.tail_nil h1]
          simp [Tx.str]
          first | done | (apply ByteArray.ext; simp))
        have HE2 : Hid (hu.k ≠ 1 → R = ⟨#[40]⟩ ++ T ++ (⟨#[32, 46, 32]⟩ ++ U) ++ ⟨#[41]⟩) := Lib.hid (fun h1 => by
          rw [← HRR.out, htell, ← hTT, ← hUU, Wt.tail_atom hu8 h1]
          simp [Tx.str]
          first | done | (apply ByteArray.ext; simp))
        clear hR hlin hall hIa hMa hbox hbc hok hown hrs htu hTs hUs htell hxs hu8 hTT hUU hgk hK hno hq0 hult hxl hsz
        rcases hcase with hk2 | ⟨rfl, h1⟩ | ⟨rfl, h1, h2⟩ | ⟨rfl, h1, h2, h3⟩
        · by_cases u1 : hu.k = 1
          · have h1I : (hu.k == 1) = true := by rw [u1]; rfl
            have U1 := Lib.hid u1
            clear u1
            go_wp2_with fail
            refine HROW.out.mono ?_
            rintro e w5 ⟨rfl, hb5⟩
            clear d0
            have d0 := Lib.cell_of_heap (HBX.out w5 hb5) 0
            have HB5 := Lib.hid hb5
            clear hb5
            go_wp2_with fail
            go_ret
            exact ⟨Wt.ret1 (HE1.out U1.out).symm, HBW.out.trans (HB5.out.mono HBW.out.size)⟩
          · have h1I : (hu.k == 1) = false := beq_eq_false_iff_ne.2 u1
            have U1 := Lib.hid u1
            clear u1
            go_wp2_with fail
            refine HROW.out.mono ?_
            rintro e w5 ⟨rfl, hb5⟩
            clear d0
            obtain ⟨b0, b1, b2, b3, b4, b5, b6, b7, b8, b9, b10⟩ := Dt.cells11 (HBX.out w5 hb5)
            have HR5 := Lib.hid (HRU.out w5 hb5)
            have HB5 := Lib.hid hb5
            clear hb5
            go_wp2_with fail
            refine HR5.out.mono ?_
            rintro e w6 ⟨rfl, hb6⟩
            have HB6 := Lib.hid (HB5.out.trans (hb6.mono HB5.out.size))
            clear hb6
            go_wp2_with fail
            go_ret
            exact ⟨Wt.ret1 (HE2.out U1.out).symm, HBW.out.trans (HB6.out.mono HBW.out.size)⟩
        · have U1 := Lib.hid (beq_eq_false_iff_ne.1 h1)
          go_wp2_with fail
          refine HROW.out.mono ?_
          rintro e w5 ⟨rfl, hb5⟩
          clear d0
          obtain ⟨b0, b1, b2, b3, b4, b5, b6, b7, b8, b9, b10⟩ := Dt.cells11 (HBX.out w5 hb5)
          have HR5 := Lib.hid (HRU.out w5 hb5)
          have HB5 := Lib.hid hb5
          clear hb5
          go_wp2_with fail
          refine HR5.out.mono ?_
          rintro e w6 ⟨rfl, hb6⟩
          have HB6 := Lib.hid (HB5.out.trans (hb6.mono HB5.out.size))
          clear hb6
          go_wp2_with fail
          go_ret
          exact ⟨Wt.ret1 (HE2.out U1.out).symm, HBW.out.trans (HB6.out.mono HBW.out.size)⟩
        · have h1I : (hu.k == 1) = true := by rw [h1]; rfl
          have U1 := Lib.hid h1
          clear h1
          go_wp2_with fail
          refine HROW.out.mono ?_
          rintro e w5 ⟨rfl, hb5⟩
          clear d0
          have d0 := Lib.cell_of_heap (HBX.out w5 hb5) 0
          have HB5 := Lib.hid hb5
          clear hb5
          go_wp2_with fail
          go_ret
          exact ⟨Wt.ret1 (HE1.out U1.out).symm, HBW.out.trans (HB5.out.mono HBW.out.size)⟩
        · have h1I : (hu.k == 1) = true := by rw [h1]; rfl
          have U1 := Lib.hid h1
          clear h1
          go_wp2_with fail
          refine HROW.out.mono ?_
          rintro e w5 ⟨rfl, hb5⟩
          clear d0
          have d0 := Lib.cell_of_heap (HBX.out w5 hb5) 0
          have HB5 := Lib.hid hb5
          clear hb5
          go_wp2_with fail
          go_ret
          exact ⟨Wt.ret1 (HE1.out U1.out).symm, HBW.out.trans (HB5.out.mono HBW.out.size)⟩
end Go.Proofs.YtikmebkfdpbidaaGreatDoor
namespace Go.Proofs.YtikmebkfdpbidaaGreatDoor
open Go.RowKit
set_option linter.unusedVariables false
set_option linter.unusedSimpArgs false

set_option maxHeartbeats 8000000 in
set_option maxRecDepth 1000000 in
theorem Wt.pair_quote (m : Bool) (h : Tr.Hd) (a r : Tr) (h8 : h.k = 8) (hq : (Wt.isQ a && Wt.isOne r) = true) (IH : ∀ u, Tr.size u < Tr.size (.mk h [a, r]) → Wt.Says m u) : Wt.PSays m (.mk h [a, r]) := by
  intro B b bs C w hW hI hE hg hf hlen
  obtain ⟨a', r', bL, oL, cap, v3, v4, v6, v7, v9, Ca, Cr, e1, eC, hbB, hcap, hIa, hMa, hIr, hMr⟩ := Wt.two hI hg h8
  simp only [List.cons.injEq, and_true] at e1
  obtain ⟨rfl, rfl⟩ := e1
  obtain ⟨hBb, hblt⟩ := hW.blk
  have g1 := Tr.goodL_cons.1 (Tr.good_mk.1 hg).2
  have g2 := (Tr.goodL_cons.1 g1.2).1
  have f1 := Wt.fitL_cons.1 (Wt.fit_mk.1 hf).2
  have f2 := (Wt.fitL_cons.1 f1.2).1
  have hsz : Tr.size (.mk h [a, r]) = 1 + (Tr.size a + Tr.size r) := by rw [Tr.size_mk, Tr.sizeL_cons, Tr.sizeL_cons, Tr.sizeL_nil]; omega
  obtain ⟨ha, la, aa3, aa4, aa6, aa7, aa9, aa10, na3, na4, na6, na7, na9, na10, ca3, ca4, ca6, ca7, ca9, ca10, eCa, eat, _, _⟩ := Tr.In.form2 hIa
  subst eCa
  obtain ⟨hr, lr, ar3, ar4, ar6, ar7, ar9, ar10, nr3, nr4, nr6, nr7, nr9, nr10, cr3, cr4, cr6, cr7, cr9, cr10, eCr, ert, _, _⟩ := Tr.In.form2 hIr
  subst eCr
  subst eat ert
  subst eC
  obtain ⟨hqa, hqr⟩ := Bool.and_eq_true_iff.1 hq
  obtain ⟨hr', b', hc, lc, e5, hrk, hck⟩ := Wt.isOne_form hqr
  simp only [Tr.mk.injEq] at e5
  obtain ⟨rfl, rfl⟩ := e5
  rw [Wt.tell_quo h8 hq]
  unfold Wt.isQ at hqa
  simp only [Bool.and_eq_true, decide_eq_true_eq] at hqa
  rw [hsz] at hlen
  obtain ⟨P, hP⟩ : ∃ z, w.heap.size = z := ⟨_, rfl⟩
  obtain ⟨hIs, hEn, hKe⟩ := Wt.boxed hW hE (Tr.cells h v3 v4 v6 v7 v9 (.slice (some ⟨bL, oL, none⟩) 2 cap))
  obtain ⟨W0, hW0⟩ : ∃ z, w.alloc (.cells (Tr.cells h v3 v4 v6 v7 v9 (.slice (some ⟨bL, oL, none⟩) 2 cap)) 30) = z := ⟨_, rfl⟩
  have hz0 : W0.heap.size = w.heap.size + 1 := by rw [← hW0]; simp
  rw [hW0] at hIs hEn hKe
  obtain ⟨hIs1, hEn1, hKe1⟩ := Wt.boxed hIs hEn (Tr.cells hr (.slice ar3 nr3 cr3) (.slice ar4 nr4 cr4) (.slice ar6 nr6 cr6) (.slice ar7 nr7 cr7) (.slice ar9 nr9 cr9) (.slice ar10 nr10 cr10))
  obtain ⟨W1, hW1⟩ : ∃ z, W0.alloc (.cells (Tr.cells hr (.slice ar3 nr3 cr3) (.slice ar4 nr4 cr4) (.slice ar6 nr6 cr6) (.slice ar7 nr7 cr7) (.slice ar9 nr9 cr9) (.slice ar10 nr10 cr10)) 30) = z := ⟨_, rfl⟩
  have hq1 : W1.heap[W0.heap.size]? = some (.cells (Tr.cells hr (.slice ar3 nr3 cr3) (.slice ar4 nr4 cr4) (.slice ar6 nr6 cr6) (.slice ar7 nr7 cr7) (.slice ar9 nr9 cr9) (.slice ar10 nr10 cr10)) 30 (0, 0)) := by rw [← hW1]; exact heap_alloc_new W0 _
  rw [hW1] at hIs1 hEn1 hKe1
  have k00 := (hKe W0 (Wt.Kept.refl _ _ _)).2
  have k11 := (hKe1 W1 (Wt.Kept.refl _ _ _)).2
  have hz1 := k11.size
  have KALL : ∀ w', Wt.Kept B b W1 w' → (∀ j, w'.cell? ⟨w.heap.size, j, none⟩ = (Tr.cells h v3 v4 v6 v7 v9 (.slice (some ⟨bL, oL, none⟩) 2 cap))[j]?) ∧ w'.heap[W0.heap.size]? = some (.cells (Tr.cells hr (.slice ar3 nr3 cr3) (.slice ar4 nr4 cr4) (.slice ar6 nr6 cr6) (.slice ar7 nr7 cr7) (.slice ar9 nr9 cr9) (.slice ar10 nr10 cr10)) 30 (0, 0)) ∧ Wt.Kept B b w w' := fun w' hk =>
    ⟨(hKe w' (k11.trans hk)).1, hk.box hq1 (by omega) (by decide), (hKe w' (k11.trans hk)).2⟩
  have KA : ∀ w', Wt.Kept B b W1 w' → Tr.Mem w' bL oL (Tr.cells ha (.slice aa3 na3 ca3) (.slice aa4 na4 ca4) (.slice aa6 na6 ca6) (.slice aa7 na7 ca7) (.slice aa9 na9 ca9) (.slice aa10 na10 ca10)) := fun w' hk => Wt.mem_kept hMa hbB (KALL w' hk).2.2
  obtain ⟨r0, r1, r2, r3, r4, r5, r6, r7, r8, r9, r10⟩ := Tr.Mem.cells (Wt.mem_kept hMr hbB k00)
  have KB := Lib.hid (Wt.writeByte B b m bs 39 W1 hIs1 (by omega) (by omega))
  obtain ⟨x, y, bR, oR, capR, _, _, _, _, _, Cx, Cy, e1, e2, hbR, hcR, hIx, hMx, hIy, hMy⟩ := Wt.two hIr g2 hrk
  simp only [List.cons.injEq, and_true] at e1
  obtain ⟨rfl, rfl⟩ := e1
  have e3 := congrArg (fun (A : Array Value) => A[10]?) e2
  simp only [Tr.cells] at e3
  simp at e3
  obtain ⟨rfl, rfl, rfl⟩ := e3
  clear e2
  obtain ⟨y3, y4, y6, y7, y9, y10, eCy⟩ := Wt.own_hd hIy
  subst eCy
  obtain ⟨c0, _⟩ := Tr.Mem.cells (Wt.mem_kept hMy hbR (k00.trans k11))
  have gx := (Tr.goodL_cons.1 (Tr.good_mk.1 g2).2).1
  have fx := (Wt.fitL_cons.1 (Wt.fit_mk.1 f2).2).1
  have hsx : Tr.size b' < Tr.size (.mk hr [b', .mk hc lc]) := Tr.size_lt (t := .mk hr [b', .mk hc lc]) (k := 0) rfl
  have KREC : ∀ w2, Wt.Kept B b W1 w2 → Wr.At B b (.pointer (some ⟨b, 0, none⟩)) m (bs ++ Lib.byteCells [39]) w2 → _ := fun w2 hk hAt => IH b' (by omega) B b (bs ++ Lib.byteCells [39]) _ w2 hAt.is (Wt.in_kept hIx (KALL w2 hk).2.2) (hE.kept (KALL w2 hk).2.2) gx fx (by rw [List.length_append, Lib.byteCells_length]; simp only [List.length_cons, List.length_nil]; omega)
  have KX : ∀ w', Wt.Kept B b W1 w' → Tr.Mem w' bR oR Cx := fun w' hk => Wt.mem_kept hMx hbR (KALL w' hk).2.2
  obtain ⟨hx2, lx, ax3, ax4, ax6, ax7, ax9, ax10, nx3, nx4, nx6, nx7, nx9, nx10, cx3, cx4, cx6, cx7, cx9, cx10, eCx, ext, _, _⟩ := Tr.In.form2 hIx
  subst eCx
  obtain ⟨pc, hpc, _⟩ := KALL W1 (Wt.Kept.refl _ _ _)
  have p10 := pc 10
  have p10a := (hKe W0 (Wt.Kept.refl _ _ _)).1 10
  have hbc := Lib.cell_of_heap hpc
  have d0 := hbc 0
  have d10 := hbc 10
  have ma := KA W1 (Wt.Kept.refl _ _ _)
  obtain ⟨e0, e1, e2, e3, e4, e5, e6, e7, e8, e9, e10⟩ := Tr.Mem.cells ma
  obtain ⟨q, hq0⟩ : ∃ z, W0.heap.size = z := ⟨_, rfl⟩
  rw [hq0] at KALL d0 d10
  have HALL := Lib.hid KALL
  have HX := Lib.hid KX
  have HREC := Lib.hid KREC
  have h6 : (ha.k == 6) = true := by rw [hqa.1]; rfl
  have hx : (ha.x.toList == [113, 117, 111, 116, 101]) = true := by rw [ByteArray.toList_eq, hqa.2]; rfl
  have hk8 : (hr.k == 8) = true := by rw [hrk]; rfl
  have hkc : (hc.k == 1) = true := by rw [hck]; rfl
  have hcapI : (2 : Int) ≤ cap := by omega
  have hcRI : (2 : Int) ≤ cr10 := by omega
  clear h8 hKe hKe1 hIs hIs1 hEn hEn1 hq1 k00 k11 KALL KA KREC KX hIa hIr hMa hMr hI hq hg hf g1 f1 g2 f2 IH hsz hlen hW hE hz0 hpc hbc ma pc hP hqa hqr hrk hck hIx hMx hIy hMy hsx gx fx ext
  unfold Tr.cells at p10 p10a hW0 hW1 d0 d10 HX HALL HREC ⊢
  go_enter Tryz.func102, Tryz.ntmps102
  go_wp2_with fail
  refine KB.out.mono ?_
  rintro e w2 ⟨rfl, h2, k2⟩
  clear e0 e1 e2 e3 e4 e5 e6 e7 e8 e9 e10 d0 d10 p10 p10a r0 r1 r2 r3 r4 r5 r6 r7 r8 r9 r10 c0
  obtain ⟨_, hbx, _⟩ := HALL.out w2 k2
  have d10 := Lib.cell_of_heap hbx 10
  obtain ⟨e0, e1, e2, e3, e4, e5, e6, e7, e8, e9, e10⟩ := Tr.Mem.cells (HX.out w2 k2)
  have HR2 := Lib.hid (HREC.out w2 k2 h2)
  have HK2 := Lib.hid (HALL.out w2 k2).2.2
  clear h2 k2 hbx
  go_wp2_with fail
  refine HR2.out.mono ?_
  rintro e w3 ⟨rfl, h3, k3⟩
  rw [Wt.cells_app] at h3
  go_wp2_with fail
  refine bodyPost_ret (results_none rfl _ _ _) rfl ?_
  exact ⟨rfl, h3, HK2.out.trans k3⟩
theorem Wt.pair_step (m : Bool) (h : Tr.Hd) (l : List Tr) (h8 : h.k = 8) (IH : ∀ u, Tr.size u < Tr.size (.mk h l) → Wt.Says m u) : Wt.PSays m (.mk h l) := by
  intro B b bs C w hW hI hE hg hf hlen
  have hl := Tr.Hd.shape_pair (Tr.good_mk.1 hg).1 h8
  match l, hl, IH, hI, hg, hf, hlen with
  | [a, r], _, IH, hI, hg, hf, hlen =>
    cases hq : Wt.isQ a && Wt.isOne r
    · exact Wt.pair_list m h a r h8 hq IH B b bs C w hW hI hE hg hf hlen
    · exact Wt.pair_quote m h a r h8 hq IH B b bs C w hW hI hE hg hf hlen
end Go.Proofs.YtikmebkfdpbidaaGreatDoor
namespace Go.Proofs.YtikmebkfdpbidaaGreatDoor
open Go.RowKit
set_option linter.unusedVariables false
set_option linter.unusedSimpArgs false

set_option maxHeartbeats 4000000 in
set_option maxRecDepth 1000000 in
theorem Wt.datum_pair (m : Bool) (h : Tr.Hd) (l : List Tr) (h8 : h.k = 8) (IH : ∀ u, Tr.size u < Tr.size (.mk h l) → Wt.Says m u) : Wt.Says m (.mk h l) := by
  intro B b bs C w hW hI hE hg hf hlen
  have hI2 := hI
  rw [Tr.In_mk] at hI2
  obtain ⟨v3, v4, v6, v7, v9, v10, e, hH, hL⟩ := hI2
  cases e
  obtain ⟨hBb, hblt⟩ := hW.blk
  obtain ⟨W0, hW0⟩ : ∃ z, w.alloc (.cells (Tr.cells h v3 v4 v6 v7 v9 v10) 30) = z := ⟨_, rfl⟩
  obtain ⟨hIs, hEn, hKe⟩ := Wt.boxed hW hE (Tr.cells h v3 v4 v6 v7 v9 v10)
  rw [hW0] at hIs hEn hKe
  obtain ⟨dd, k0⟩ := hKe W0 (Wt.Kept.refl _ _ _)
  have KP := Lib.hid (Wt.pair_step m h l h8 IH B b bs _ W0 hIs (Wt.in_kept hI k0) hEn hg hf hlen)
  have HKE := Lib.hid (fun w' hk => (hKe w' hk).2)
  obtain ⟨k, n, s1, t1, b1, s2, t2, b2, x, raw⟩ := h
  simp only at h8
  subst h8
  unfold Tr.cells at dd hW0 KP ⊢
  have q0 := dd 0
  have q1 := dd 1
  have q2 := dd 2
  have q3 := dd 3
  have q4 := dd 4
  have q5 := dd 5
  have q6 := dd 6
  have q7 := dd 7
  have q8 := dd 8
  have q9 := dd 9
  have q10 := dd 10
  clear dd hKe hIs hEn hW hI hE hg hf hlen hH hL IH
  go_enter Tryz.func68, Tryz.ntmps68
  go_wp2_with fail
  refine KP.out.mono ?_
  rintro e w2 ⟨rfl, h2, k2⟩
  go_wp2_with fail
  go_end0
  exact ⟨rfl, h2, HKE.out _ k2⟩
theorem Wt.says_step (m : Bool) (t : Tr) (IH : ∀ u, Tr.size u < Tr.size t → Wt.Says m u) : Wt.Says m t := by
  obtain ⟨h, l⟩ := t
  by_cases h7 : h.k = 7
  · exact Wt.datum_bytes m h l h7
  by_cases h8 : h.k = 8
  · exact Wt.datum_pair m h l h8 IH
  by_cases h9 : h.k = 9
  · exact Wt.datum_vec m h l h9 IH
  exact Wt.datum_leaf m h l h7 h8 h9
/-- THE WRITER'S DATUM, OF ANY. -/
theorem Wt.says (m : Bool) (t : Tr) : Wt.Says m t := Wt.says_step m t (fun u _ => Wt.says m u)
termination_by Tr.size t
decreasing_by assumption
/-- What tell asks of the world. -/
structure Wt.Tabs (w : World) : Prop where
  utf : Tr.Tabs w
  bits : Wt.Bits w
  tab : Lib.TabIs Tryz.prog w "internal/strconv.uint64pow10" .u64 Lib.pow10Tab
theorem Wt.Tabs.lt {w : World} (h : Wt.Tabs w) : 5 < w.heap.size ∧ 2 < w.heap.size := by
  refine ⟨World.block_lt_of_cell? w _ h.bits, ?_⟩
  have h1 := h.tab
  unfold Lib.TabIs World.var? at h1
  rw [Wt.named] at h1
  simp only [Option.bind_some] at h1
  cases e : w.heap[2]? with
  | none => rw [e] at h1; cases h1
  | some o => exact (Array.getElem?_eq_some_iff.1 e).1
theorem Wt.Tabs.below {w w' : World} (h : Wt.Tabs w) (hb : Below w.heap.size w w') : Wt.Tabs w' :=
  ⟨h.utf.below hb, h.bits.below hb, Wt.tabIs_block h.tab (hb.block _ h.lt.2)⟩
/-- What tell answers. -/
def Wt.answer (m : Bool) (t : Tr) : Value := if Tr.sound t = true then .tuple #[.string (Tx.str (Wt.tell m t)), .int .i64 0] else .tuple #[.string ⟨#[]⟩, .int .i64 2]
set_option maxHeartbeats 4000000 in
set_option maxRecDepth 1000000 in
theorem Wt.tell_any (m : Bool) (t : Tr) (S : Nat → Prop) (v : Value) (w : World) (hI : Tr.In w S t v) (hT : Wt.Tabs w) (hf : Wt.fit t) :
    Calls Tryz.prog 40 #[v, .bool m] w fun e w' => e = .returned (Wt.answer m t) ∧ Below w.heap.size w w' := by
  obtain ⟨C, rfl⟩ := hI.agg
  obtain ⟨h, l⟩ := t
  have hI2 := hI
  rw [Tr.In_mk] at hI2
  obtain ⟨v3, v4, v6, v7, v9, v10, e, hH, hL⟩ := hI2
  cases e
  have HB0 : Hid (∀ o, Below w.heap.size w (w.alloc o)) := Lib.hid (fun o => (Below.refl _ _).alloc (Nat.le_refl _) o)
  have hq0 : (w.alloc (.cells (Tr.cells h v3 v4 v6 v7 v9 v10) 30)).heap[w.heap.size]? = some (.cells (Tr.cells h v3 v4 v6 v7 v9 v10) 30 (0, 0)) := heap_alloc_new w _
  obtain ⟨W0, hW0⟩ : ∃ z, w.alloc (.cells (Tr.cells h v3 v4 v6 v7 v9 v10) 30) = z := ⟨_, rfl⟩
  have hz0 : W0.heap.size = w.heap.size + 1 := by rw [← hW0]; simp
  have hb0 : Below w.heap.size w W0 := by rw [← hW0]; exact HB0.out _
  rw [hW0] at hq0
  have KS := Lib.hid (Tr.Sound_any (.mk h l) S _ W0 (hI.below hb0 (Nat.le_refl _)) (hT.utf.below hb0))
  have hdd := Lib.cell_of_heap hq0
  obtain ⟨sd, hsd⟩ : ∃ z, Tr.sound (.mk h l) = z := ⟨_, rfl⟩
  have HANS : Hid (Wt.answer m (.mk h l) = if sd = true then .tuple #[.string (Tx.str (Wt.tell m (.mk h l))), .int .i64 0] else .tuple #[.string ⟨#[]⟩, .int .i64 2]) := Lib.hid (by unfold Wt.answer; rw [hsd])
  have HTOP := Lib.hid (Tr.In.top _ _ hI)
  have HT := Lib.hid hT
  have HF := Lib.hid hf
  have HSD := Lib.hid hsd
  have HBB := Lib.hid hb0
  have HQ := Lib.hid hq0
  rw [hsd] at KS
  unfold Tr.cells at hdd hW0 KS ⊢
  have q0 := hdd 0
  have q1 := hdd 1
  have q2 := hdd 2
  have q3 := hdd 3
  have q4 := hdd 4
  have q5 := hdd 5
  have q6 := hdd 6
  have q7 := hdd 7
  have q8 := hdd 8
  have q9 := hdd 9
  have q10 := hdd 10
  clear hdd hI hT hf hH hL hsd hb0 hq0
  go_enter Tryz.func40, Tryz.ntmps40
  go_wp2_with fail
  refine KS.out.mono ?_
  rintro e w1 ⟨rfl, hb1⟩
  have HB1 := Lib.hid hb1
  clear q0 q1 q2 q3 q4 q5 q6 q7 q8 q9 q10 hb1
  cases sd
  · go_wp2_with fail
    go_ret2
    refine ⟨?_, HBB.out.trans (HB1.out.mono HBB.out.size)⟩
    rw [HANS.out]
    rfl
  · have hz1 := HB1.out.size
    have hbw : Below w.heap.size w w1 := HBB.out.trans (HB1.out.mono HBB.out.size)
    obtain ⟨W2, hW2⟩ : ∃ z, w1.alloc (.cells #[.pointer none, .slice none 0 0, .bool m] 128) = z := ⟨_, rfl⟩
    have hnew : W2.heap[w1.heap.size]? = some (.cells #[.pointer none, .slice none 0 0, .bool m] 128 (0, 0)) := by rw [← hW2]; exact heap_alloc_new w1 _
    have hb2 : Below w1.heap.size w1 W2 := by rw [← hW2]; exact (Below.refl _ _).alloc (Nat.le_refl _) _
    have hz2 : w1.heap.size < W2.heap.size := (Array.getElem?_eq_some_iff.1 hnew).1
    have hq2 : W2.heap[w.heap.size]? = some (.cells (Tr.cells h v3 v4 v6 v7 v9 v10) 30 (0, 0)) := by
      rw [hb2.block _ (by omega), HB1.out.block _ (by omega)]
      exact HQ.out
    have hbW2 : Below w.heap.size w W2 := hbw.trans (hb2.mono hbw.size)
    have hIs : Wr.Is w1.heap.size w1.heap.size m [] W2 := .inl ⟨Nat.le_refl _, .slice none 0 0, hnew, World.ownsRowF_nil _ _ _ _, by simp [Value.ownBlock]⟩
    have hTT := HT.out.below hbW2
    have hEn : Wt.Env w1.heap.size W2 := ⟨hTT.bits, hTT.tab, by have := HT.out.lt; have := hbw.size; omega⟩
    have hIn : Tr.In W2 (fun q => q < w1.heap.size) (.mk h l) (.agg (Tr.cells h v3 v4 v6 v7 v9 v10)) :=
      Tr.In.below (Tr.In.mono (fun q hq => by have := hbw.size; omega) _ _ HTOP.out) hbW2 (Nat.le_refl _)
    have hsz := Tr.sound_size HSD.out
    have KD := Lib.hid (Wt.says m (.mk h l) w1.heap.size w1.heap.size [] _ W2 hIs hIn hEn (Tr.sound_good HSD.out) HF.out (by simp only [List.length_nil]; omega))
    have hdd := Lib.cell_of_heap hq2
    have HBW2 := Lib.hid hbW2
    unfold Tr.cells at hdd KD
    have q0 := hdd 0
    have q1 := hdd 1
    have q2 := hdd 2
    have q3 := hdd 3
    have q4 := hdd 4
    have q5 := hdd 5
    have q6 := hdd 6
    have q7 := hdd 7
    have q8 := hdd 8
    have q9 := hdd 9
    have q10 := hdd 10
    have hwz := hbw.size
    clear hdd hq2 hnew hb2 hbW2 hIs hTT hEn hIn hbw
    go_wp2_with fail
    refine KD.out.mono ?_
    rintro e w3 ⟨rfl, h3, k3⟩
    rw [List.nil_append] at h3
    have KST := Lib.hid (Wt.string w1.heap.size w1.heap.size m (Wt.tell m (.mk h l)) _ w3 h3 (by have := k3.size; omega))
    have HK3 := Lib.hid (HBW2.out.trans (k3.1.mono hwz))
    clear h3 k3 q0 q1 q2 q3 q4 q5 q6 q7 q8 q9 q10
    go_wp2_with fail
    refine KST.out.mono ?_
    rintro e w4 ⟨rfl, hb4⟩
    go_wp2_with fail
    go_ret2
    refine ⟨?_, HK3.out.trans (hb4.mono hwz)⟩
    rw [HANS.out]
    rfl
theorem Wt.answer_form (m : Bool) (t : Tr) : ∃ (x : ByteArray) (e : Int), Wt.answer m t = .tuple #[.string x, .int .i64 e] := by
  unfold Wt.answer
  split
  · exact ⟨_, _, rfl⟩
  · exact ⟨_, _, rfl⟩
set_option maxHeartbeats 1000000 in
theorem Wt.Write_any (t : Tr) (S : Nat → Prop) (v : Value) (w : World) (hI : Tr.In w S t v) (hT : Wt.Tabs w) (hf : Wt.fit t) :
    Calls Tryz.prog 9 #[v] w fun e w' => e = .returned (Wt.answer true t) ∧ Below w.heap.size w w' := by
  obtain ⟨C, rfl⟩ := hI.agg
  obtain ⟨h, l⟩ := t
  have hI2 := hI
  rw [Tr.In_mk] at hI2
  obtain ⟨v3, v4, v6, v7, v9, v10, e, hH, hL⟩ := hI2
  cases e
  obtain ⟨x, en, hans⟩ := Wt.answer_form true (.mk h l)
  obtain ⟨W0, hW0⟩ : ∃ z, w.alloc (.cells (Tr.cells h v3 v4 v6 v7 v9 v10) 30) = z := ⟨_, rfl⟩
  have hb0 : Below w.heap.size w W0 := by rw [← hW0]; exact (Below.refl _ _).alloc (Nat.le_refl _) _
  have hq0 : W0.heap[w.heap.size]? = some (.cells (Tr.cells h v3 v4 v6 v7 v9 v10) 30 (0, 0)) := by rw [← hW0]; exact heap_alloc_new w _
  have KT := Lib.hid (Wt.tell_any true (.mk h l) S _ W0 (hI.below hb0 (Nat.le_refl _)) (hT.below hb0) hf)
  rw [hans] at KT
  have hdd := Lib.cell_of_heap hq0
  have HB := Lib.hid hb0
  have HA := Lib.hid hans
  unfold Tr.cells at hdd hW0 KT ⊢
  have q0 := hdd 0
  have q1 := hdd 1
  have q2 := hdd 2
  have q3 := hdd 3
  have q4 := hdd 4
  have q5 := hdd 5
  have q6 := hdd 6
  have q7 := hdd 7
  have q8 := hdd 8
  have q9 := hdd 9
  have q10 := hdd 10
  clear hdd hq0 hb0 hans hI hT hf hH hL
  go_enter Tryz.func9, Tryz.ntmps9
  go_wp2_with fail
  refine KT.out.mono ?_
  rintro e w1 ⟨rfl, hb1⟩
  go_wp2_with fail
  go_ret2
  exact ⟨by rw [HA.out]; rfl, HB.out.trans (hb1.mono HB.out.size)⟩
set_option maxHeartbeats 1000000 in
theorem Wt.Display_any (t : Tr) (S : Nat → Prop) (v : Value) (w : World) (hI : Tr.In w S t v) (hT : Wt.Tabs w) (hf : Wt.fit t) :
    Calls Tryz.prog 11 #[v] w fun e w' => e = .returned (Wt.answer false t) ∧ Below w.heap.size w w' := by
  obtain ⟨C, rfl⟩ := hI.agg
  obtain ⟨h, l⟩ := t
  have hI2 := hI
  rw [Tr.In_mk] at hI2
  obtain ⟨v3, v4, v6, v7, v9, v10, e, hH, hL⟩ := hI2
  cases e
  obtain ⟨x, en, hans⟩ := Wt.answer_form false (.mk h l)
  obtain ⟨W0, hW0⟩ : ∃ z, w.alloc (.cells (Tr.cells h v3 v4 v6 v7 v9 v10) 30) = z := ⟨_, rfl⟩
  have hb0 : Below w.heap.size w W0 := by rw [← hW0]; exact (Below.refl _ _).alloc (Nat.le_refl _) _
  have hq0 : W0.heap[w.heap.size]? = some (.cells (Tr.cells h v3 v4 v6 v7 v9 v10) 30 (0, 0)) := by rw [← hW0]; exact heap_alloc_new w _
  have KT := Lib.hid (Wt.tell_any false (.mk h l) S _ W0 (hI.below hb0 (Nat.le_refl _)) (hT.below hb0) hf)
  rw [hans] at KT
  have hdd := Lib.cell_of_heap hq0
  have HB := Lib.hid hb0
  have HA := Lib.hid hans
  unfold Tr.cells at hdd hW0 KT ⊢
  have q0 := hdd 0
  have q1 := hdd 1
  have q2 := hdd 2
  have q3 := hdd 3
  have q4 := hdd 4
  have q5 := hdd 5
  have q6 := hdd 6
  have q7 := hdd 7
  have q8 := hdd 8
  have q9 := hdd 9
  have q10 := hdd 10
  clear hdd hq0 hb0 hans hI hT hf hH hL
  go_enter Tryz.func11, Tryz.ntmps11
  go_wp2_with fail
  refine KT.out.mono ?_
  rintro e w1 ⟨rfl, hb1⟩
  go_wp2_with fail
  go_ret2
  exact ⟨by rw [HA.out]; rfl, HB.out.trans (hb1.mono HB.out.size)⟩
end Go.Proofs.YtikmebkfdpbidaaGreatDoor
namespace Go.Proofs.YtikmebkfdpbidaaGreatDoor
open Go.RowKit

/-- A unit of the reference: the character (0: none), whether there is none, where it begins. -/
def Cd.refU (u : Cd.U) : Int × Bool × Int := if u.2.1 then (u.1, false, u.2.2) else (0, true, u.2.2)
def Cd.cellsU (us : List (Int × Bool × Int)) : List Value := us.flatMap fun u => [.int .i32 u.1, .bool u.2.1, .int .i64 u.2.2]
theorem Cd.cellsU_append (a b : List (Int × Bool × Int)) : Cd.cellsU (a ++ b) = Cd.cellsU a ++ Cd.cellsU b := by simp [Cd.cellsU]
theorem Cd.cellsU_len (a : List (Int × Bool × Int)) : (Cd.cellsU a).length = a.length * 3 := by
  induction a with
  | nil => rfl
  | cons u t ih => simp only [Cd.cellsU, List.flatMap_cons, List.length_append, List.length_cons, List.length_nil] at *; omega

theorem Cd.and31 (x : Int) (h0 : 0 ≤ x) (h1 : x < 256) : bits .and .u8 x 31 = x % 32 := bits_mask .u8 8 (by decide) wraps_u8 5 (by decide) x h0 h1
theorem Cd.and15 (x : Int) (h0 : 0 ≤ x) (h1 : x < 256) : bits .and .u8 x 15 = x % 16 := bits_mask .u8 8 (by decide) wraps_u8 4 (by decide) x h0 h1
theorem Cd.and7 (x : Int) (h0 : 0 ≤ x) (h1 : x < 256) : bits .and .u8 x 7 = x % 8 := bits_mask .u8 8 (by decide) wraps_u8 3 (by decide) x h0 h1
theorem Cd.and63 (x : Int) (h0 : 0 ≤ x) (h1 : x < 256) : bits .and .u8 x 63 = x % 64 := bits_mask .u8 8 (by decide) wraps_u8 6 (by decide) x h0 h1

theorem Cd.utf8U_at (s : ByteArray) (k : Nat) (h : k < s.size) (V W : Nat) (hd : Lib.decodeN (s.size - k) (s.get! k).toNat (s.get! (k + 1)).toNat (s.get! (k + 2)).toNat (s.get! (k + 3)).toNat = (V, W)) (F : Bool) (hF : F = !decide (V ≠ 65533 ∨ 1 < W)) :
    (Cd.utf8U s k).map Cd.refU = (if F then ((0 : Int), true, (k : Int)) else ((V : Int), false, (k : Int))) :: (Cd.utf8U s (k + W)).map Cd.refU := by
  have e := Lib.decode_at s k
  rw [hd] at e
  rw [Cd.utf8U_one s k h, e, List.map_cons]
  subst hF
  unfold Cd.refU
  by_cases hc : V ≠ 65533 ∨ 1 < W <;> simp [hc]
end Go.Proofs.YtikmebkfdpbidaaGreatDoor
