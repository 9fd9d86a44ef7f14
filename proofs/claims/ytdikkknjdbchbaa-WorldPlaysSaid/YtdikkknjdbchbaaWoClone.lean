/-
  bytes.Clone of any bytes; files that a call owns.
-/
import Derived.Test.YtdikkknjdbchbaaWoSound
import Derived.Laws.AppendOwn
namespace Go.Proofs.Ytdikkknjdbchbaa
open Go.RowKit
set_option linter.unusedVariables false

theorem Wo.infoByte : (Try.prog.info? 5).map (fun i => (i.zero, i.size, i.bytes)) = some (some (.int .u8 0), 1, 1) := by kernel_rfl
theorem Wo.infoFile : (Try.prog.info? 53).map (fun i => (i.zero, i.size, i.bytes)) = some (some (.agg #[.string ⟨#[]⟩, .slice none 0 0]), 2, 40) := by kernel_rfl

/-- Bytes in a row of their own. -/
def Wo.InU (w : World) (v : Value) (s : ByteArray) : Prop := By.In w v s ∧ w.ownsRow 0 5 1 v s.size (By.vals s)
/-- A value's block, if it has one, is not ahead of B. -/
def Wo.Ge (B : Nat) (v : Value) : Prop := ∀ k, v.ownBlock = some k → B ≤ k
/-- Two values lie in two blocks. -/
def Wo.Ap (u v : Value) : Prop := ∀ k, u.ownBlock = some k → v.ownBlock ≠ some k
theorem Wo.Ge.mono {B B' : Nat} {v : Value} (h : Wo.Ge B v) (hB : B' ≤ B) : Wo.Ge B' v := fun k hk => Nat.le_trans hB (h k hk)
theorem Wo.Ge.nil (B : Nat) : Wo.Ge B (.slice none 0 0) := fun k hk => by simp [Value.ownBlock] at hk
theorem Wo.InU.of_own {w : World} {B : Nat} {v : Value} {s : ByteArray} (h : w.ownsRow B 5 1 v s.size (By.vals s)) : Wo.InU w v s := by
  refine ⟨By.In.of_own h, h.1, ?_⟩
  rcases h.2 with h1 | ⟨g, c, cur, hv2, _, rest⟩
  · exact .inl h1
  · exact .inr ⟨g, c, cur, hv2, Nat.zero_le _, rest⟩
theorem Wo.InU.nil (w : World) : Wo.InU w (.slice none 0 0) ⟨#[]⟩ := Wo.InU.of_own (B := 0) ⟨rfl, .inl ⟨rfl, rfl⟩⟩
theorem Wo.InU.own {w : World} {B : Nat} {v : Value} {s : ByteArray} (h : Wo.InU w v s) (hg : Wo.Ge B v) : w.ownsRow B 5 1 v s.size (By.vals s) := by
  refine ⟨h.2.1, ?_⟩
  rcases h.2.2 with h1 | ⟨g, c, cur, hv2, _, rest⟩
  · exact .inl h1
  · exact .inr ⟨g, c, cur, hv2, hg g (by rw [hv2]; rfl), rest⟩
theorem Wo.InU.lt {w : World} {v : Value} {s : ByteArray} (h : Wo.InU w v s) : ∀ k, v.ownBlock = some k → k < w.heap.size := fun k hk => (h.2.lt k hk).2
theorem Wo.InU.ap {w : World} {u v : Value} {s : ByteArray} {B : Nat} (h : Wo.InU w u s) (hg : Wo.Ge B v) (hB : w.heap.size ≤ B) : Wo.Ap u v := fun k hk hk2 => by
  have := h.lt k hk
  have := hg k hk2
  omega
theorem Wo.Ap.symm {u v : Value} (h : Wo.Ap u v) : Wo.Ap v u := fun k hk hk2 => h k hk2 hk
theorem Wo.InU.same {w w' : World} {v : Value} {s : ByteArray} (h : Wo.InU w v s) (hk : ∀ b, v.ownBlock = some b → b < w.heap.size → w'.heap[b]? = w.heap[b]?) : Wo.InU w' v s := by
  refine Wo.InU.of_own (B := 0) ⟨h.2.1, ?_⟩
  rcases h.2.2 with h1 | ⟨g, c, cur, hv2, hz, hg, rest⟩
  · exact .inl h1
  · exact .inr ⟨g, c, cur, hv2, hz, (hk g (by rw [hv2]; rfl) (Array.getElem?_eq_some_iff.1 hg).1).trans hg, rest⟩
theorem Wo.InU.below {w w' : World} {v : Value} {s : ByteArray} {B : Nat} (h : Wo.InU w v s) (hb : Below B w w') (hB : w.heap.size ≤ B) : Wo.InU w' v s :=
  h.same fun b _ hlt => hb.block b (by omega)
/-- What holds bytes still does, when another thing than bytes has been written. -/
theorem Wo.InU.kept {w w' : World} {v : Value} {s : ByteArray} {g : Nat} {cur : Array Value} {t : TypeId} {fz : Nat × Nat} (h : Wo.InU w v s) (ht : t ≠ 5) (hg : w.heap[g]? = some (.cells cur t fz)) (hk : ∀ b, b ≠ g → b < w.heap.size → w'.heap[b]? = w.heap[b]?) (hs : w.heap.size ≤ w'.heap.size) : Wo.InU w' v s := by
  refine h.same fun b hb hlt => hk b (fun e => ?_) hlt
  subst e
  rcases h.2.2 with ⟨h1, _⟩ | ⟨g, c, cur2, hv2, _, hg2, _⟩
  · subst h1; simp [Value.ownBlock] at hb
  · subst hv2
    simp only [Value.ownBlock, Option.some.injEq] at hb
    subst hb
    rw [hg] at hg2
    simp only [Option.some.injEq, Obj.cells.injEq] at hg2
    exact ht hg2.2.1
/-- .. and when files that the call owns have been written. -/
theorem Wo.InU.grown {w w9 : World} {B n : Nat} {v u : Value} {s : ByteArray} {xs : List Value} {t : TypeId} (hu : Wo.InU w u s) (ht : t ≠ 5) (h : w.ownsRow B t 2 v n xs) (hg : w.grownBy w9 v.ownBlock) : Wo.InU w9 u s := by
  rcases h.2 with ⟨hv, _⟩ | ⟨b, cap, cur, hv, hB, hb, _⟩
  · subst hv
    exact hu.same fun b _ hlt => hg.block b hlt (by simp [Value.ownBlock])
  · subst hv
    exact hu.kept ht hb (fun k hk hlt => hg.block k hlt (by simp [Value.ownBlock]; exact hk)) hg.size
set_option maxHeartbeats 4000000 in
set_option maxRecDepth 1000000 in
theorem Wo.clone_any (s : ByteArray) (v : Value) (w : World) (h : By.In w v s) (hs : s.size ≤ 140737488355328) : Calls Try.prog 26 #[v] w fun e w' => ∃ v', e = .returned v' ∧ Wo.InU w' v' s ∧ Below w.heap.size w w' ∧ Wo.Ge w.heap.size v' := by
  obtain ⟨i0, hi, hz0, hz1, hz2⟩ := info_parts Wo.infoByte
  have heq := fun (w : World) (a : Option Addr) (n c n' c' : Nat) => Lib.run_eql_slice_nil (P := Try.prog) w 22 5 a n c n' c' Try.underlying22
  by_cases hv : v = .slice none 0 0
  · subst hv
    go_enter Try.func26, Try.ntmps26
    go_wp2
    go_ret
    have h0 : s.size = 0 := by
      rcases h with ⟨_, h0⟩ | ⟨_, _, hv, _⟩ | ⟨_, _, _, _, hv, _⟩
      · exact h0
      · cases hv
      · cases hv
    exact ⟨_, rfl, Wo.InU.of_own (B := 0) ⟨by rw [By.vals_len, h0], .inl ⟨rfl, h0⟩⟩, Below.refl _ _, Wo.Ge.nil _⟩
  · obtain ⟨ad, cap, rfl⟩ := h.slice
    obtain ⟨a, rfl⟩ : ∃ a, ad = some a := by
      rcases h with ⟨h1, h2⟩ | ⟨a, c, h1, h2⟩ | ⟨h0, b, off, c, h1, _⟩
      · rw [h1] at hv; exact absurd rfl hv
      · simp only [Value.slice.injEq] at h1; exact ⟨a, h1.1⟩
      · simp only [Value.slice.injEq] at h1; exact ⟨_, h1.1⟩
    have H := Lib.hid h
    have hb0 : ∀ o, Below w.heap.size w (w.alloc o) := fun o => (Below.refl _ _).alloc (Nat.le_refl _) _
    clear h hv
    go_enter Try.func26, Try.ntmps26
    go_wp2_with (at_builtin; refine By.wpList_append_bytes rfl _ _ 22 rfl w.heap.size 5 i0 (.int .u8 0) Try.underlying22 hi hz0 hz1 hz2 rfl _ 0 [] rfl (Sl.own_empty w 5) _ s rfl (H.out.below (hb0 _) (Nat.le_refl _)) ?c3 ?c4 ?c5 ?_)
    case c3 => unfold maxLen; omega
    case c4 => omega
    case c5 => simp
    intro v' w1 hown hgrow _
    have HGE : Hid (Wo.Ge w.heap.size v') := Lib.hid (fun k hk => (hown.lt k hk).1)
    have HIN : Hid (Wo.InU w1 v' s) := Lib.hid (Wo.InU.of_own (B := w.heap.size) (by simpa using hown))
    have HB := Lib.hid ((hb0 _).grown hgrow (by simp) (fun k hk => by simp [Value.ownBlock] at hk; omega))
    clear hown hgrow hb0
    go_wp2
    go_ret
    exact ⟨_, rfl, HIN.out, HB.out, HGE.out⟩

/-- The cells of files, each with where its data lie. -/
def Wo.cellsG (g : List (Wo.F × Value)) : List Value := g.flatMap fun x => [.string x.1.1, x.2]
theorem Wo.cellsG_len (g : List (Wo.F × Value)) : (Wo.cellsG g).length = g.length * 2 := by
  induction g with
  | nil => rfl
  | cons x g ih => simp only [Wo.cellsG, List.flatMap_cons, List.length_append, List.length_cons, List.length_nil] at *; omega
theorem Wo.cellsG_append (g h : List (Wo.F × Value)) : Wo.cellsG (g ++ h) = Wo.cellsG g ++ Wo.cellsG h := by simp [Wo.cellsG]
theorem Wo.cellsG_at (g : List (Wo.F × Value)) : ∀ (k : Nat) (x : Wo.F × Value), g[k]? = some x → (Wo.cellsG g)[k * 2]? = some (.string x.1.1) ∧ (Wo.cellsG g)[k * 2 + 1]? = some x.2 := by
  induction g with
  | nil => intro k x h; simp at h
  | cons u g ih =>
    intro k x h
    rcases k with _ | k
    · simp only [List.getElem?_cons_zero, Option.some.injEq] at h
      subst h
      exact ⟨rfl, rfl⟩
    · obtain ⟨h1, h2⟩ := ih k x (by simpa using h)
      have e : Wo.cellsG (u :: g) = .string u.1.1 :: u.2 :: Wo.cellsG g := rfl
      rw [e, show (k + 1) * 2 = k * 2 + 1 + 1 by omega]
      exact ⟨by simpa using h1, by rw [show k * 2 + 1 + 1 + 1 = (k * 2 + 1) + 1 + 1 by omega]; simpa using h2⟩
/-- Files that the call owns. -/
def Wo.Own (w : World) (B : Nat) (v : Value) (g : List (Wo.F × Value)) : Prop := w.ownsRow B 53 2 v g.length (Wo.cellsG g) ∧ ∀ x ∈ g, Wo.InU w x.2 x.1.2
theorem Wo.Own.fs {w : World} {B : Nat} {v : Value} {g : List (Wo.F × Value)} (h : Wo.Own w B v g) : Wo.Fs w v (g.map (·.1)) := by
  rcases h.1.2 with ⟨hv, h0⟩ | ⟨b, cap, cur, rfl, hB, hg, hn, _⟩
  · exact .inl ⟨hv, by have := List.length_eq_zero_iff.1 h0; rw [this]; rfl⟩
  · rcases Nat.eq_zero_or_pos g.length with h0 | h0
    · exact .inr (.inl ⟨_, cap, by rw [h0], by have := List.length_eq_zero_iff.1 h0; rw [this]; rfl⟩)
    · refine .inr (.inr ⟨by simpa using h0, b, 0, cap, by simp, by simpa using hn, (Array.getElem?_eq_some_iff.1 hg).1, fun k hk => ?_⟩)
      have hk' : k < g.length := by simpa using hk
      have hx : g[k]? = some g[k] := List.getElem?_eq_getElem hk'
      obtain ⟨c0, c1⟩ := Wo.cellsG_at g k _ hx
      have e := fun j u hj => h.1.cells (g := b) rfl j u hj
      simp only [Sl.addr_add, Nat.zero_add] at e
      have hget : (g.map (·.1)).getD k Wo.e0 = g[k].1 := by simp [List.getD_eq_getElem?_getD, hk']
      rw [hget, Nat.zero_add]
      exact ⟨e _ _ c0, _, e _ _ c1, (h.2 _ (List.getElem_mem hk')).1⟩
theorem Wo.Own.below {w w' : World} {B B2 : Nat} {v : Value} {g : List (Wo.F × Value)} (h : Wo.Own w B v g) (hb : Below B2 w w') (hB : w.heap.size ≤ B2) : Wo.Own w' B v g := by
  refine ⟨⟨h.1.1, ?_⟩, fun x hx => (h.2 x hx).below hb hB⟩
  rcases h.1.2 with hv | ⟨b, cap, cur, hv, hB', hg, rest⟩
  · exact .inl hv
  · have hlt := (Array.getElem?_eq_some_iff.1 hg).1
    exact .inr ⟨b, cap, cur, hv, hB', by rw [hb.block b (by omega)]; exact hg, rest⟩
theorem Wo.Own.slice {w : World} {B : Nat} {v : Value} {g : List (Wo.F × Value)} (h : Wo.Own w B v g) : ∃ ad cap, v = .slice ad g.length cap := by
  rcases h.1.2 with ⟨hv, h0⟩ | ⟨b, cap, cur, hv, _⟩
  · exact ⟨none, 0, by rw [hv, h0]⟩
  · exact ⟨_, cap, hv⟩
theorem Wo.Own.nil (w : World) (B : Nat) (hB : B ≤ w.heap.size) : Wo.Own w B (.slice none 0 0) [] := ⟨⟨rfl, .inl ⟨rfl, rfl⟩⟩, fun x hx => by cases hx⟩
end Go.Proofs.Ytdikkknjdbchbaa
