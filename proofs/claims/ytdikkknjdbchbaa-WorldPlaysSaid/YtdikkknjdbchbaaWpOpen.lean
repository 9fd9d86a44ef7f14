/-
  Arguments that are a world, and a script, opened.
-/
import Derived.Test.YtdikkknjdbchbaaWpSt
import Derived.ChangeArms
import Derived.ChangeSlices
import Derived.SizedLaws
import Derived.Lib.SmallJoins
namespace Go.Proofs.Ytdikkknjdbchbaa
open Go.RowKit
set_option linter.unusedVariables false
set_option linter.unusedSimpArgs false

theorem Wp.weights_all {H : Type} {P : Program} {e : TypeId} : ∀ {ds : List (DataW H)} {k : Nat} {d : DataW H}, ds[k]? = some d → ∀ n ∈ d.weights P e, n ∈ DataW.weightsAll P e ds
  | d0 :: ds, 0, d, hd, n, hn => by
    simp only [List.getElem?_cons_zero, Option.some.injEq] at hd
    subst hd
    simp only [DataW.weightsAll, List.mem_append]
    exact Or.inl hn
  | d0 :: ds, k + 1, d, hd, n, hn => by
    simp only [List.getElem?_cons_succ] at hd
    simp only [DataW.weightsAll, List.mem_append]
    exact Or.inr (Wp.weights_all hd n hn)
  | [], _, _, hd, _, _ => by simp at hd

section
variable {H : Type} {enc : TypeId × Value → H} {P : Program} {w : World} {base : Nat} {spare : Nat → Bool} {held : Bool}

/-- A slice of structs, opened. -/
theorem Wp.elems {t e : TypeId} {fs : Array Field} {K : Nat} {v : Value} {d : DataW H} {ps : List MemPlace} (ht : P.underlying t = some (.slice e)) (he : P.underlying e = some (.struct fs)) (hK : P.cellsOf e = K) (hK0 : 0 < K)
    (hv : ∃ a len cap, v = .slice a len cap) (hj : DataW.Trod enc P w base spare held t v d ps) :
    (v = .slice none 0 0) ∨ (∃ a cap, v = .slice (some a) 0 cap) ∨
    ∃ (b off len cap : Nat) (elems sp : List (DataW H)) (n : Nat), 0 < len ∧ v = .slice (some ⟨b, off, none⟩) len cap ∧ len ≤ cap ∧ b < w.heap.size ∧ d = .slice elems sp ∧ elems.length = len ∧
      ∀ k, k < len → ∃ (cs : List Value) (xs : List (DataW H × List MemPlace)), cs.length = K ∧ (∀ j, j < K → w.cell? ⟨b, off + k * K + j, none⟩ = cs[j]?) ∧ elems[k]? = some (.agg (xs.map (·.1))) ∧ xs.length = fs.size ∧
        ∀ (i : Nat) (f : Field), fs[i]? = some f → DataW.trod enc P w base spare held n f.type ((cs.drop f.offset).take (P.cellsOf f.type)) = xs[i]? := by
  obtain ⟨a0, len, cap, rfl⟩ := hv
  obtain ⟨fuel, hf⟩ := hj
  rcases DataW.trod_slice ht hf with ⟨hcs, _⟩ | ⟨a, len', cap', elems, rest, n, _, hcs, hx, hb, hl, hm, hlen, hel, _, _⟩
  · exact .inl (by simpa [Value.cells] using hcs)
  · have hva : (Value.slice a0 len cap) = .slice (some a) len' cap' := by simpa [Value.cells] using hcs
    rcases Nat.eq_zero_or_pos len' with h0 | h0
    · exact .inr (.inl ⟨a, cap', by rw [hva, h0]⟩)
    · have each : ∀ k, k < len' → ∃ (cs : List Value) (xs : List (DataW H × List MemPlace)), cs.length = K ∧ (∀ j, j < K → w.cell? ((a.add (k * K)).add j) = cs[j]?) ∧ (elems.map (·.1))[k]? = some (.agg (xs.map (·.1))) ∧ xs.length = fs.size ∧
          ∀ (i : Nat) (f : Field), fs[i]? = some f → DataW.trod enc P w base spare held (n - 1) f.type ((cs.drop f.offset).take (P.cellsOf f.type)) = xs[i]? := by
        intro k hk
        have h1 := hel k hk
        have hy : elems[k]? = some elems[k] := List.getElem?_eq_getElem (by omega)
        rw [hy, hK, Option.bind_eq_some_iff] at h1
        obtain ⟨cs, hcs', hy'⟩ := h1
        obtain ⟨_, hl1, hc1⟩ := World.cells?_some hcs'
        obtain ⟨xs, m, hm', hx', _, hxl, hft⟩ := DataW.trod_struct he hy'
        subst hm'
        exact ⟨cs, xs, hl1, hc1, by rw [List.getElem?_map, hy, Option.map_some, hx'], hxl, hft⟩
      obtain ⟨b, off, spot⟩ := a
      obtain ⟨cs0, _, hl0, hc0, _⟩ := each 0 h0
      have hc00 := hc0 0 hK0
      rw [List.getElem?_eq_getElem (by omega)] at hc00
      have hspot : spot = none := by simpa [Addr.add] using World.cell?_spot hc00
      subst hspot
      have hbl : b < w.heap.size := by
        have h1 := hc00
        rcases Nat.lt_or_ge b w.heap.size with h | h
        · exact h
        · simp [World.cell?, Addr.add, Array.getElem?_eq_none h] at h1
      simp only [Prod.mk.injEq] at hx
      refine .inr (.inr ⟨b, off, len', cap', elems.map (·.1), rest.map (·.1), n - 1, h0, hva, hl, hbl, hx.1, by simpa using hlen, fun k hk => ?_⟩)
      obtain ⟨cs, xs, h1, h2, h3, h4, h5⟩ := each k hk
      refine ⟨cs, xs, h1, fun j hj => ?_, h3, h4, h5⟩
      have := h2 j hj
      rwa [Go.WideShapes.add_plain, Go.WideShapes.add_plain] at this
/-- One cell that reads as bytes. -/
theorem Wp.bytes_open {t e : TypeId} {n : Nat} {c : Value} {x : DataW H × List MemPlace} (ht : P.underlying t = some (.slice e)) (he : P.underlying e = some (.int .u8)) (hc : P.cellsOf e = 1) (hb : P.bytesOf e = 1) (h : DataW.trod enc P w base spare held n t [c] = some x) :
    ∃ s : ByteArray, By.In w c s ∧ ((∀ m ∈ x.1.weights P t, m ≤ reachBytes) → s.size ≤ reachBytes) := by
  have key : ∀ a l cp, c = .slice a l cp → ∃ s : ByteArray, By.In w c s ∧ ((∀ m ∈ x.1.weights P t, m ≤ reachBytes) → s.size ≤ reachBytes) := by
    rintro a l cp rfl
    obtain ⟨s, hs, hd⟩ := By.In.open (enc := enc) (base := base) (spare := spare) (held := held) (d := x.1) (ps := x.2) ht he hc ⟨_, _, _, rfl⟩ ⟨n, h⟩
    refine ⟨s, hs, fun hw => ?_⟩
    rcases hd with ⟨_, h0⟩ | ⟨elems, sp, hx, hl⟩
    · omega
    · rw [hx] at hw
      have := hw ((elems.length + sp.length) * P.bytesOf e) (by simp [DataW.weights, ht])
      rw [hb] at this
      omega
  rcases DataW.trod_slice ht h with ⟨hcs, _⟩ | ⟨a1, l1, c1, _, _, _, _, hcs, _⟩
  · exact key _ _ _ (by simpa using hcs)
  · exact key _ _ _ (by simpa using hcs)
end

theorem Wp.cellsF : Try.prog.cellsOf 53 = 2 := by kernel_rfl
theorem Wp.cellsO : Try.prog.cellsOf 42 = 4 := by kernel_rfl
theorem Wp.cellsU : Try.prog.cellsOf 5 = 1 := by kernel_rfl
theorem Wp.bytesU : Try.prog.bytesOf 5 = 1 := by kernel_rfl
theorem Wp.bytesF : Try.prog.bytesOf 53 = 40 := by kernel_rfl
theorem Wp.bytesO : Try.prog.bytesOf 42 = 56 := by kernel_rfl

section
variable {H : Type} {enc : TypeId × Value → H} {w : World} {base : Nat} {spare : Nat → Bool} {held : Bool}
theorem Wp.two_of {α : Type} {l : List α} (h : l.length = 2) : ∃ a b, l = [a, b] := by
  match l, h with
  | [a, b], _ => exact ⟨a, b, rfl⟩
theorem Wp.four_of {α : Type} {l : List α} (h : l.length = 4) : ∃ a b c d, l = [a, b, c, d] := by
  match l, h with
  | [a, b, c, d], _ => exact ⟨a, b, c, d, rfl⟩
/-- The files of a world. -/
theorem Wp.files_open {n : Nat} {c : Value} {x : DataW H × List MemPlace} (h : DataW.trod enc Try.prog w base spare held n 24 [c] = some x) (hw : ∀ m ∈ x.1.weights Try.prog 24, m ≤ reachBytes) :
    ∃ fs, Wo.Fs w c fs ∧ fs.length * 40 ≤ reachBytes ∧ ∀ k, k < fs.length → (fs.getD k Wo.e0).2.size ≤ reachBytes := by
  have key : ∀ a l cp, c = .slice a l cp → ∃ fs, Wo.Fs w c fs ∧ fs.length * 40 ≤ reachBytes ∧ ∀ k, k < fs.length → (fs.getD k Wo.e0).2.size ≤ reachBytes := by
    rintro a l cp rfl
    rcases Wp.elems (d := x.1) (ps := x.2) Try.underlying24 Try.underlying53 Wp.cellsF (by decide) ⟨_, _, _, rfl⟩ ⟨n, h⟩ with hv | ⟨a', c', hv⟩ | ⟨b, off, len, cap, elems, sp, m, h0, hv, hcap, hbl, hd, hel, each⟩
    · exact ⟨[], .inl ⟨hv, rfl⟩, Nat.zero_le _, fun k hk => by cases hk⟩
    · exact ⟨[], .inr (.inl ⟨a', c', hv, rfl⟩), Nat.zero_le _, fun k hk => by cases hk⟩
    · rw [hd] at hw
      have hlen : len * 40 ≤ reachBytes := by
        have := hw ((elems.length + sp.length) * Try.prog.bytesOf 53) (by simp [DataW.weights, Try.underlying24])
        rw [Wp.bytesF] at this
        omega
      have hch : ∀ k : Nat, ∃ f : Wo.F, k < len → w.cell? ⟨b, off + k * 2, none⟩ = some (.string f.1) ∧ (∃ dv, w.cell? ⟨b, off + k * 2 + 1, none⟩ = some dv ∧ By.In w dv f.2) ∧ f.2.size ≤ reachBytes := fun k => by
        by_cases hk : k < len
        · obtain ⟨cs, xs, h1, h2, h3, h4, h5⟩ := each k hk
          obtain ⟨c0, c1, rfl⟩ := Wp.two_of h1
          obtain ⟨x0, x1, rfl⟩ := Wp.two_of h4
          have e0 : Try.prog.cellsOf 9 = 1 := by kernel_rfl
          have e1 : Try.prog.cellsOf 22 = 1 := by kernel_rfl
          have t0 : DataW.trod enc Try.prog w base spare held m 9 ([c0, c1].take (Try.prog.cellsOf 9)) = some x0 := h5 0 _ rfl
          have t1 : DataW.trod enc Try.prog w base spare held m 22 ([c1].take (Try.prog.cellsOf 22)) = some x1 := h5 1 _ rfl
          rw [e0] at t0
          rw [e1] at t1
          simp only [List.take_succ_cons, List.take_zero] at t0 t1
          obtain ⟨s, hs, _, _⟩ := DataW.trod_string Try.underlying9 t0
          obtain ⟨dt, hdt, hsz⟩ := Wp.bytes_open Try.underlying22 Try.underlying5 Wp.cellsU Wp.bytesU t1
          simp only [List.cons.injEq, and_true] at hs
          subst hs
          refine ⟨(s, dt), fun _ => ⟨by simpa using h2 0 (by decide), ⟨c1, by simpa using h2 1 (by decide), hdt⟩, hsz fun m hm => hw m ?_⟩⟩
          have g1 : m ∈ (DataW.agg ([x0, x1].map (·.1))).weights Try.prog 53 := by
            simp only [DataW.weights, Try.underlying53]
            exact DataW.weights_mem_each (j := 1) (d := x1.1) rfl rfl m hm
          have g2 := Wp.weights_all h3 m g1
          simp only [DataW.weights, Try.underlying24, List.mem_cons, List.mem_append]
          exact .inr (.inl g2)
        · exact ⟨Wo.e0, fun h => absurd h hk⟩
      have hget : ∀ k, k < len → ((List.range len).map fun i => (hch i).choose).getD k Wo.e0 = (hch k).choose := fun k hk => by simp [List.getD_eq_getElem?_getD, hk]
      have hll : ((List.range len).map fun i => (hch i).choose).length = len := by simp
      refine ⟨(List.range len).map fun i => (hch i).choose, .inr (.inr ⟨by omega, b, off, cap, by rw [hv, hll], by omega, hbl, fun k hk => ?_⟩), by rw [hll]; exact hlen, fun k hk => ?_⟩
      · rw [hll] at hk
        obtain ⟨g0, g1, _⟩ := (hch k).choose_spec hk
        rw [hget k hk]
        exact ⟨g0, g1⟩
      · rw [hll] at hk
        obtain ⟨_, _, g2⟩ := (hch k).choose_spec hk
        rw [hget k hk]
        exact g2
  rcases DataW.trod_slice Try.underlying24 h with ⟨hcs, _⟩ | ⟨a1, l1, c1, _, _, _, _, hcs, _⟩
  · exact key _ _ _ (by simpa using hcs)
  · exact key _ _ _ (by simpa using hcs)
/-- A world that is handed in. -/
theorem Wp.world_open {r : Reach} {b0 : Nat} {v : Value} {d : DataW H} {ps : List MemPlace} (hv : Value.okWide Try.prog w r b0 26 v) (hj : DataW.Trod enc Try.prog w base spare held 26 v d ps) (hw : ∀ m ∈ d.weights Try.prog 26, m ≤ reachBytes) :
    ∃ W, Wo.In w v W ∧ Wo.Fit W := by
  obtain ⟨v0, v1, v2, y0, y1, y2, n, rfl, rfl, rfl, h0, h1, h2⟩ := Joins.open_agg3 Try.underlying26 (by kernel_rfl) (by kernel_rfl) hv hj
  have hsub : ∀ (j : Nat) (t : TypeId) (dd : DataW H), [24, 22, 22][j]? = some t → [y0.1, y1.1, y2.1][j]? = some dd → ∀ m ∈ dd.weights Try.prog t, m ≤ reachBytes := fun j t dd ht hd m hm => by
    refine hw m ?_
    simp only [DataW.weights, Try.underlying26]
    exact DataW.weights_mem_each (ts := [24, 22, 22]) ht hd m hm
  obtain ⟨fs, hf, hl, hs⟩ := Wp.files_open h0 (hsub 0 _ _ rfl rfl)
  obtain ⟨inp, hi, hiz⟩ := Wp.bytes_open Try.underlying22 Try.underlying5 Wp.cellsU Wp.bytesU h1
  obtain ⟨out, ho, hoz⟩ := Wp.bytes_open Try.underlying22 Try.underlying5 Wp.cellsU Wp.bytesU h2
  have hi1 := hiz (hsub 1 _ _ rfl rfl)
  have ho1 := hoz (hsub 2 _ _ rfl rfl)
  refine ⟨(fs, inp, out), ⟨v0, v1, v2, rfl, hf, hi, ho⟩, ?_⟩
  simp only [reachBytes] at hl hs hi1 ho1
  exact ⟨by show fs.length * 40 ≤ _; omega, by show inp.size ≤ _; omega, by show out.size ≤ _; omega, fun k hk => hs k hk⟩
/-- A script that is handed in. -/
theorem Wp.ops_open {v : Value} {d : DataW H} {ps : List MemPlace} (hv : ∃ a len cap, v = .slice a len cap) (hj : DataW.Trod enc Try.prog w base spare held 39 v d ps) (hw : ∀ m ∈ d.weights Try.prog 39, m ≤ reachBytes) :
    ∃ os, Wp.Ops w v os ∧ os.length ≤ 140737488355328 ∧ ∀ k, k < os.length → Wp.Ok (os.getD k Wp.o0) := by
  rcases Wp.elems Try.underlying39 Try.underlying42 Wp.cellsO (by decide) hv hj with hv | ⟨a', c', hv⟩ | ⟨b, off, len, cap, elems, sp, m, h0, hv, hcap, hbl, hd, hel, each⟩
  · exact ⟨[], ⟨none, 0, hv, fun h => by cases h⟩, Nat.zero_le _, fun k hk => by cases hk⟩
  · exact ⟨[], ⟨some a', c', hv, fun h => by cases h⟩, Nat.zero_le _, fun k hk => by cases hk⟩
  · rw [hd] at hw
    have hlen : len * 56 ≤ reachBytes := by
      have := hw ((elems.length + sp.length) * Try.prog.bytesOf 42) (by simp [DataW.weights, Try.underlying39])
      rw [Wp.bytesO] at this
      omega
    simp only [reachBytes] at hlen
    have hch : ∀ k : Nat, ∃ o : Wp.O, k < len → (∃ dv, w.cell? ⟨b, off + k * 4, none⟩ = some (.int .i64 o.kind) ∧ w.cell? ⟨b, off + k * 4 + 1, none⟩ = some (.int .i64 o.n) ∧ w.cell? ⟨b, off + k * 4 + 2, none⟩ = some (.string o.name) ∧ w.cell? ⟨b, off + k * 4 + 3, none⟩ = some dv ∧ By.In w dv o.data) ∧ Wp.Ok o := fun k => by
      by_cases hk : k < len
      · obtain ⟨cs, xs, h1, h2, h3, h4, h5⟩ := each k hk
        obtain ⟨c0, c1, c2, c3, rfl⟩ := Wp.four_of h1
        obtain ⟨x0, x1, x2, x3, rfl⟩ := Wp.four_of h4
        have e0 : Try.prog.cellsOf 9 = 1 := by kernel_rfl
        have e1 : Try.prog.cellsOf 22 = 1 := by kernel_rfl
        have e2 : Try.prog.cellsOf 3 = 1 := by kernel_rfl
        have t0 : DataW.trod enc Try.prog w base spare held m 3 ([c0, c1, c2, c3].take (Try.prog.cellsOf 3)) = some x0 := h5 0 _ rfl
        have t1 : DataW.trod enc Try.prog w base spare held m 3 ([c1, c2, c3].take (Try.prog.cellsOf 3)) = some x1 := h5 1 _ rfl
        have t2 : DataW.trod enc Try.prog w base spare held m 9 ([c2, c3].take (Try.prog.cellsOf 9)) = some x2 := h5 2 _ rfl
        have t3 : DataW.trod enc Try.prog w base spare held m 22 ([c3].take (Try.prog.cellsOf 22)) = some x3 := h5 3 _ rfl
        rw [e2] at t0 t1
        rw [e0] at t2
        rw [e1] at t3
        simp only [List.take_succ_cons, List.take_zero] at t0 t1 t2 t3
        obtain ⟨z0, hz0, _, _⟩ := DataW.trod_int Try.underlying3 t0
        obtain ⟨z1, hz1, _, hwf⟩ := DataW.trod_int Try.underlying3 t1
        obtain ⟨s, hs, _, _⟩ := DataW.trod_string Try.underlying9 t2
        obtain ⟨dt, hdt, hsz⟩ := Wp.bytes_open Try.underlying22 Try.underlying5 Wp.cellsU Wp.bytesU t3
        simp only [List.cons.injEq, and_true] at hs hz0 hz1
        subst hs hz0 hz1
        have hsz2 := hsz fun m hm => hw m (by
          have g1 : m ∈ (DataW.agg ([x0, x1, x2, x3].map (·.1))).weights Try.prog 42 := by
            simp only [DataW.weights, Try.underlying42]
            exact DataW.weights_mem_each (j := 3) (d := x3.1) rfl rfl m hm
          have g2 := Wp.weights_all h3 m g1
          simp only [DataW.weights, Try.underlying39, List.mem_cons, List.mem_append]
          exact .inr (.inl g2))
        simp only [reachBytes] at hsz2
        exact ⟨⟨z0, z1, s, dt⟩, fun _ => ⟨⟨c3, by simpa using h2 0 (by decide), by simpa using h2 1 (by decide), by simpa using h2 2 (by decide), by simpa using h2 3 (by decide), hdt⟩, hwf, by show dt.size ≤ _; omega⟩⟩
      · exact ⟨Wp.o0, fun h => absurd h hk⟩
    have hget : ∀ k, k < len → ((List.range len).map fun i => (hch i).choose).getD k Wp.o0 = (hch k).choose := fun k hk => by simp [List.getD_eq_getElem?_getD, hk]
    have hll : ((List.range len).map fun i => (hch i).choose).length = len := by simp
    refine ⟨(List.range len).map fun i => (hch i).choose, ⟨some ⟨b, off, none⟩, cap, by rw [hv, hll], fun _ => ⟨b, off, rfl, by omega, hbl, fun k hk => ?_⟩⟩, by rw [hll]; omega, fun k hk => ?_⟩
    · rw [hll] at hk
      rw [hget k hk]
      exact ((hch k).choose_spec hk).1
    · rw [hll] at hk
      rw [hget k hk]
      exact ((hch k).choose_spec hk).2
end
end Go.Proofs.Ytdikkknjdbchbaa
