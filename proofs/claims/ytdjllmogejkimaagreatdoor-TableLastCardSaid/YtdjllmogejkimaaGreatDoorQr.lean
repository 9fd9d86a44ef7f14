/-
  The law TableLast: the state of its loop, and what Set and Delete make of it. Keys of a table: copies of the keys, in the order in which they came. The fixed fact of layer 13's laws: it is true.
-/
import Derived.Deep.AppendLies
import Derived.Test.YtdjllmogejkimaaGreatDoorQm
import Derived.Test.YtdjllmogejkimaaGreatDoorQq
import Derived.Test.YtdjllmogejkimaaGreatDoorQp
import Derived.Test.YtdjllmogejkimaaGreatDoorQg
import Derived.Test.YtdjllmogejkimaaGreatDoorQh
set_option linter.unusedVariables false
set_option linter.unusedSimpArgs false
namespace Go.Proofs.YtdjllmogejkimaaGreatDoor
open Go.RowKit

/-- What the table's data stay out of: the row of what is held, and the row of the order. -/
def Tm.Dm (hb : Nat) (o : Value) (q : Nat) : Prop := q ≠ hb ∧ o.ownBlock ≠ some q
/-- The row of what the keys hold. -/
def Tm.Hb (w : World) (hb : Nat) (f : Nat → Nat) : Prop := ∃ C : Array Value, w.heap[hb]? = some (.cells C 3 (0, 0)) ∧ C.size = 256 ∧ ∀ q, q < 256 → C[q]? = some (.int .i64 (f q : Nat))
theorem Tm.Hb.lt {w : World} {hb : Nat} {f : Nat → Nat} (h : Tm.Hb w hb f) : hb < w.heap.size := by
  obtain ⟨C, h1, _⟩ := h
  exact (Array.getElem?_eq_some_iff.1 h1).1
theorem Tm.Hb.cell {w : World} {hb : Nat} {f : Nat → Nat} (h : Tm.Hb w hb f) {q : Nat} (hq : q < 256) : w.cell? ⟨hb, q, none⟩ = some (.int .i64 (f q : Nat)) := by
  obtain ⟨C, h1, _, h3⟩ := h
  exact (Rt.cell_of h1 q).trans (h3 q hq)
theorem Tm.Hb.kept {w w' : World} {hb : Nat} {f : Nat → Nat} (h : Tm.Hb w hb f) (hk : w'.heap[hb]? = w.heap[hb]?) : Tm.Hb w' hb f := by
  obtain ⟨C, h1, h2⟩ := h
  exact ⟨C, hk.trans h1, h2⟩
theorem Tm.Hb.put {w : World} {hb : Nat} {f : Nat → Nat} (h : Tm.Hb w hb f) (q : Nat) (hq : q < 256) (x : Nat) : ∃ W, w.setCell ⟨hb, q, none⟩ (.int .i64 (x : Nat)) = W ∧ w.frozen? ⟨hb, q, none⟩ = false ∧ Tm.Hb W hb (fun y => if y = q then x else f y) ∧ W.heap.size = w.heap.size ∧ (∀ z, z ≠ hb → W.heap[z]? = w.heap[z]?) ∧ ∀ (B : Nat) (w0 : World), Below B w0 w → B ≤ hb → Below B w0 W := by
  obtain ⟨C, h1, h2, h3⟩ := h
  refine ⟨_, rfl, Rt.frozen_of h1 q, ⟨C.set! q (.int .i64 (x : Nat)), Rt.setCells h1 q _, by simp [h2], fun y hy => ?_⟩, by simp, fun z hz => Below.heap_setCell w ⟨hb, q, none⟩ _ z hz, fun B w0 hB hb' => hB.setCell (p := ⟨hb, q, none⟩) hb' _⟩
  show _ = some (Value.int .i64 ((if y = q then x else f y : Nat) : Int))
  rw [Array.set!_eq_setIfInBounds, Array.getElem?_setIfInBounds]
  by_cases e : q = y
  · subst e
    rw [if_pos rfl, if_pos (by omega), if_pos rfl]
  · rw [if_neg e, if_neg (Ne.symm e)]
    exact h3 y hy
/-- The loop's state: the table holds the rows L, which are M; the order's row o holds ks, the block hb what is held. -/
structure Tm.Ls (w0 w : World) (p r hb : Nat) (o : Value) (ks : List Nat) (f : Nat → Nat) (M : List (Nat × Nat)) (L : List Tm.Row) (last k : Nat) : Prop where
  st : Tm.St (Tm.Dm hb o) 1 p r last w0.heap.size w L
  rel : Tm.Rel M L
  la : last ≤ k
  lo : p < hb ∧ r < hb ∧ w0.heap.size ≤ hb
  hd : Tm.Hb w hb f
  row : w.ownsRow (hb + 1) 3 1 o ks.length (Tm.ints ks)
  bel : Below w0.heap.size w0 w
/-- What a step makes of the keys: b: the key goes. -/
def Tm.ord (ks : List Nat) (K : Nat) (b : Bool) : List Nat := if b = true then ks.filter (fun q => q != K) else if K ∈ ks then ks else ks ++ [K]
structure Tm.Step (M M' : List (Nat × Nat)) (K k : Nat) (b : Bool) : Prop where
  held : ∀ q, Tm.held M' q = if q = K then (if b = true then 0 else k + 1) else Tm.held M q
  ord : M'.map (·.1) = Tm.ord (M.map (·.1)) K b
theorem Tm.held_mem {M : List (Nat × Nat)} {K : Nat} (h : K ∈ M.map (·.1)) : 0 < Tm.held M K := by
  unfold Tm.held
  cases hf : M.find? (fun q => q.1 == K) with
  | some q => exact Nat.succ_pos _
  | none =>
    rw [List.find?_eq_none] at hf
    obtain ⟨q, hq, rfl⟩ := List.mem_map.1 h
    exact absurd (hf q hq) (by simp)
theorem Tm.Rel.len256 {M : List (Nat × Nat)} {L : List Tm.Row} (h : Tm.Rel M L) : M.length ≤ 256 := by
  have := List.Nodup.length_le_of_subset (l₂ := List.range 256) h.nd (fun a ha => by
    obtain ⟨q, hq, rfl⟩ := List.mem_map.1 ha
    exact List.mem_range.2 (h.lt q hq).1)
  simpa using this
theorem Tm.Ls.hb_lt {w0 w : World} {p r hb last k : Nat} {o : Value} {ks : List Nat} {f : Nat → Nat} {M : List (Nat × Nat)} {L : List Tm.Row} (h : Tm.Ls w0 w p r hb o ks f M L last k) : hb < w.heap.size := h.hd.lt
theorem Tm.Ls.dm_new {w0 w : World} {p r hb last k : Nat} {o : Value} {ks : List Nat} {f : Nat → Nat} {M : List (Nat × Nat)} {L : List Tm.Row} (h : Tm.Ls w0 w p r hb o ks f M L last k) : ∀ q, w.heap.size ≤ q → Tm.Dm hb o q :=
  fun q hq => ⟨by have := h.hb_lt; omega, fun e => by have := (h.row.lt q e).2; omega⟩
theorem Tm.Ls.below {w0 w w' : World} {p r hb last k : Nat} {o : Value} {ks : List Nat} {f : Nat → Nat} {M : List (Nat × Nat)} {L : List Tm.Row} (h : Tm.Ls w0 w p r hb o ks f M L last k) (hb' : Below w.heap.size w w') : Tm.Ls w0 w' p r hb o ks f M L last k :=
  ⟨h.st.below hb', h.rel, h.la, h.lo, h.hd.kept (hb'.block hb h.hb_lt), Tm.row_kept h.row (fun q _ hq => hb'.block q hq), h.bel.trans (hb'.mono h.bel.size)⟩
theorem Tm.types_ne {w : World} {a b : Nat} {C C' : Array Value} (h1 : w.heap[a]? = some (.cells C 68 (0, 0))) (h2 : w.heap[b]? = some (.cells C' 3 (0, 0))) : a ≠ b := by
  rintro rfl
  rw [h1] at h2
  have h3 : (68 : TypeId) = 3 := congrArg (fun o : Option Obj => match o with | some (.cells _ t _) => t | _ => 0) h2
  exact absurd h3 (by decide)
theorem Tm.Ls.hb_ne {w0 w : World} {p r hb last k : Nat} {o : Value} {ks : List Nat} {f : Nat → Nat} {M : List (Nat × Nat)} {L : List Tm.Row} (h : Tm.Ls w0 w p r hb o ks f M L last k) {row : Tm.Row} (hr : row ∈ L) : row.e.x ≠ hb := by
  obtain ⟨CK, CV, h1, _⟩ := h.st.ents row hr
  obtain ⟨C, h2, _⟩ := h.hd
  exact Tm.types_ne h1 h2
theorem Tm.own_type {w : World} {B sz : Nat} {t : TypeId} {v : Value} {n : Nat} {xs : List Value} (h : w.ownsRow B t sz v n xs) {g : Nat} (hg : v.ownBlock = some g) : ∃ C, w.heap[g]? = some (.cells C t (0, 0)) := by
  rcases h.2 with ⟨rfl, _⟩ | ⟨g', cap, cur, rfl, _, hgc, _⟩
  · simp [Value.ownBlock] at hg
  · simp only [Value.ownBlock, Option.some.injEq] at hg
    subst hg
    exact ⟨_, hgc⟩
theorem Tm.own_one {w w' : World} {B sz : Nat} {t : TypeId} {v : Value} {n : Nat} {xs : List Value} (h : w.ownsRow B t sz v n xs) (hk : ∀ q, v.ownBlock = some q → w'.heap[q]? = w.heap[q]?) : w'.ownsRow B t sz v n xs := by
  refine ⟨h.1, ?_⟩
  rcases h.2 with h0 | ⟨g, cap, cur, rfl, hbg, hgc, hr⟩
  · exact .inl h0
  · exact .inr ⟨g, cap, cur, rfl, hbg, (hk g rfl).trans hgc, hr⟩
theorem Tm.Ls.own_ne {w0 w : World} {p r hb last k : Nat} {o : Value} {ks : List Nat} {f : Nat → Nat} {M : List (Nat × Nat)} {L : List Tm.Row} (h : Tm.Ls w0 w p r hb o ks f M L last k) {row : Tm.Row} (hr : row ∈ L) {g : Nat} (hg : o.ownBlock = some g) : row.e.x ≠ g := by
  obtain ⟨CK, CV, h1, _⟩ := h.st.ents row hr
  obtain ⟨C, h2⟩ := Tm.own_type h.row hg
  exact Tm.types_ne h1 h2
/-- What a block of the table's turning leaves of the rest. -/
theorem Tm.Ls.after {w0 w w' : World} {p r hb last k last' k' : Nat} {o : Value} {ks : List Nat} {f : Nat → Nat} {M M' : List (Nat × Nat)} {L L' : List Tm.Row} (h : Tm.Ls w0 w p r hb o ks f M L last k) (hst : Tm.St (Tm.Dm hb o) 1 p r last' w0.heap.size w' L') (hrel : Tm.Rel M' L') (hla : last' ≤ k') (hk : ∀ q, q < w.heap.size → (q = hb ∨ o.ownBlock = some q) → w'.heap[q]? = w.heap[q]?) (hb' : Below w0.heap.size w w') : Tm.Ls w0 w' p r hb o ks f M' L' last' k' :=
  ⟨hst, hrel, hla, h.lo, h.hd.kept (hk hb h.hb_lt (.inl rfl)), Tm.own_one h.row (fun q hq => hk q (h.row.lt q hq).2 (.inr hq)), h.bel.trans hb'⟩

theorem Tm.names_key {K : Nat} (hK : K < 256) (p : Nat) (last mp : Value) (more : List Tr) (hm : ∀ t ∈ more, Tr.sound t = true) : Tm.Names 1 p last mp (Tm.keyT K) more (Tm.nmK K) 0 := by
  intro w vk vm hk hm' hp hT
  have hfit : Wt.fit (Tm.keyT K) := by
    unfold Tm.keyT Tm.chT
    exact Wt.fit_mk.2 ⟨⟨Nat.zero_le _, Nat.zero_le _⟩, Wt.fitL_cons.2 ⟨Wt.fit_mk.2 ⟨⟨Nat.zero_le _, Nat.zero_le _⟩, Wt.fitL_nil⟩, Wt.fitL_nil⟩⟩
  have h := Tb.name1_any (Tm.keyT K) more p last mp vk vm w hk hm' hp hT hfit
  have e : Tb.nm1 (more ++ [Tm.keyT K]) (Tm.keyT K) = (Tm.nmK K, 0) := by
    unfold Tb.nm1
    rw [if_neg (by
      rw [List.all_eq_true.2 (fun t ht => ?_)]
      · decide
      · rcases List.mem_append.1 ht with ht | ht
        · exact hm t ht
        · rw [List.mem_singleton.1 ht]
          exact Tm.key_sound (by omega))]
    rfl
  rwa [e] at h
theorem Tm.Ls.set {w0 w : World} {p r hb last k : Nat} {o : Value} {ks : List Nat} {f : Nat → Nat} {M : List (Nat × Nat)} {L : List Tm.Row} (h : Tm.Ls w0 w p r hb o ks f M L last k) (hT : Wt.Tabs w) {K : Nat} (hK : K < 256) (hk : k < 300) {vk vv : Value} (hvk : Tr.In w (fun _ => True) (Tm.keyT K) vk) (hvv : Tr.In w (fun _ => True) (Tm.chT k) vv) :
    Calls Tryz.prog 8 #[.pointer (some ⟨p, 0, none⟩), vk, vv] w fun e w' => e = .returned (.int .i64 0) ∧ ∃ M' L' last', Tm.Ls w0 w' p r hb o ks f M' L' last' (k + 1) ∧ Tm.Step M M' K k false := by
  have hs1 : Tr.sound (Tm.keyT K) = true := Tm.key_sound (by omega)
  have hs2 : Tr.sound (Tm.chT k) = true := Tm.ch_sound (by omega)
  have KN := Tm.names_key hK p (.int .i64 last) (.map (some r)) [Tm.chT k] (fun t ht => by rw [List.mem_singleton.1 ht]; exact hs2)
  have hlen := h.rel.len
  have h256 := h.rel.len256
  have hlo := h.lo
  have hla := h.la
  cases hpos : Tm.pos (L.map (·.e)) (Tm.nmK K) with
  | none =>
    have hmem : K ∉ M.map (·.1) := (h.rel.miss hK).1 hpos
    refine (Tm.Set_new (Tm.Dm hb o) 1 p r last w0.heap.size L _ _ _ vk vv w h.st h.dm_new hvk hvv hs1 hs2 hT KN hpos (by omega) (by omega)).mono ?_
    rintro e w' ⟨rfl, ⟨x, clock, hst⟩, hold, hbel⟩
    refine ⟨rfl, M ++ [(K, k)], _, last + 1, h.after hst (h.rel.push hK hk hmem x clock (last + 1)) (by omega) (fun q hq hor => hold q hq ?_ ?_) hbel, ⟨fun q => ?_, ?_⟩⟩
    · rcases hor with rfl | hg
      · omega
      · have := (h.row.lt q hg).1; omega
    · rcases hor with rfl | hg
      · omega
      · have := (h.row.lt q hg).1; omega
    · rw [Tm.held_push hmem]
      simp
    · rw [List.map_append]
      unfold Tm.ord
      rw [if_neg (by decide), if_neg hmem]
      rfl
  | some q =>
    obtain ⟨j, x⟩ := q
    obtain ⟨i0, row, hm, hl, hx, hnm, hkey, hval⟩ := h.rel.hit hK hpos
    have hmem : K ∈ M.map (·.1) := List.mem_map.2 ⟨_, List.mem_of_getElem? hm, rfl⟩
    have hrow : row ∈ L := List.mem_of_getElem? hl
    refine (Tm.Set_old (Tm.Dm hb o) 1 p r last w0.heap.size L _ _ _ vk vv w h.st h.dm_new hvk hvv hs2 hT KN j x row hpos hl hx).mono ?_
    rintro e w' ⟨rfl, hst, hold, hbel⟩
    refine ⟨rfl, M.set j (K, k), _, last, h.after hst (h.rel.turn hm hl hk) (by omega) (fun q hq hor => hold q hq ?_) hbel, ⟨fun q => ?_, ?_⟩⟩
    · rw [← hx]
      rcases hor with rfl | hg
      · exact (h.hb_ne hrow).symm
      · exact (h.own_ne hrow hg).symm
    · rw [Tm.held_turn h.rel.nd hm]
      simp
    · unfold Tm.ord
      rw [if_neg (by decide), if_pos hmem]
      rw [List.map_set]
      apply List.ext_getElem?
      intro n
      rw [List.getElem?_set]
      split
      · rename_i e
        subst e
        have hjl := (List.getElem?_eq_some_iff.1 hm).1
        rw [if_pos (by rw [List.length_map]; exact hjl), List.getElem?_map, hm]
        rfl
      · rfl
theorem Tm.filter_out {ks : List Nat} {K : Nat} (h : K ∉ ks) : ks.filter (fun q => q != K) = ks := by
  rw [List.filter_eq_self]
  intro x hx
  have : x ≠ K := by rintro rfl; exact h hx
  simpa using this
theorem Tm.Ls.del {w0 w : World} {p r hb last k : Nat} {o : Value} {ks : List Nat} {f : Nat → Nat} {M : List (Nat × Nat)} {L : List Tm.Row} (h : Tm.Ls w0 w p r hb o ks f M L last k) (hT : Wt.Tabs w) {K : Nat} (hK : K < 256) {vk : Value} (hvk : Tr.In w (fun _ => True) (Tm.keyT K) vk) (er : Int) (her : (K ∈ M.map (·.1) ∧ er = 0) ∨ (K ∉ M.map (·.1) ∧ er = 7)) :
    Calls Tryz.prog 7 #[.pointer (some ⟨p, 0, none⟩), vk] w fun e w' => e = .returned (.int .i64 er) ∧ ∃ M' L' last', Tm.Ls w0 w' p r hb o ks f M' L' last' (k + 1) ∧ Tm.Step M M' K k true := by
  have KN := Tm.names_key hK p (.int .i64 last) (.map (some r)) [] (fun t ht => by simp at ht)
  have hlo := h.lo
  have hla := h.la
  cases hpos : Tm.pos (L.map (·.e)) (Tm.nmK K) with
  | none =>
    have hmem : K ∉ M.map (·.1) := (h.rel.miss hK).1 hpos
    have he7 : er = 7 := by rcases her with ⟨h1, _⟩ | ⟨_, h2⟩; exact absurd h1 hmem; exact h2
    subst he7
    refine (Tm.Delete_none h.st hvk hT KN hpos).mono ?_
    rintro e w' ⟨rfl, hbel⟩
    have h2 := h.below hbel
    refine ⟨rfl, M, L, last, ⟨h2.st, h2.rel, by omega, h2.lo, h2.hd, h2.row, h2.bel⟩, ⟨fun q => ?_, ?_⟩⟩
    · by_cases e : q = K
      · subst e
        rw [if_pos rfl, Tm.held_none hmem]
        rfl
      · rw [if_neg e]
    · unfold Tm.ord
      rw [if_pos rfl, Tm.filter_out hmem]
  | some q =>
    obtain ⟨j, x⟩ := q
    obtain ⟨i0, row, hm, hl, hx, hnm, hkey, hval⟩ := h.rel.hit hK hpos
    have hmem : K ∈ M.map (·.1) := List.mem_map.2 ⟨_, List.mem_of_getElem? hm, rfl⟩
    have he0 : er = 0 := by rcases her with ⟨_, h2⟩ | ⟨h1, _⟩; exact h2; exact absurd hmem h1
    subst he0
    refine (Tm.Delete_found h.st hvk hT KN hpos).mono ?_
    rintro e w' ⟨rfl, hst, hold, hbel⟩
    refine ⟨rfl, M.eraseIdx j, _, last, h.after hst (h.rel.drop j) (by omega) (fun q hq hor => hold q hq ?_) hbel, ⟨fun q => ?_, ?_⟩⟩
    · rcases hor with rfl | hg
      · omega
      · have := (h.row.lt q hg).1; omega
    · rw [Tm.held_drop h.rel.nd hm]
      simp
    · unfold Tm.ord
      rw [if_pos rfl]
      exact (Tm.order_drop h.rel.nd hm).symm
/-- A character as a value. -/
def Tm.chV (k : Nat) : Array Value := #[.int .i64 4, .int .i64 (k : Nat), .bool false, .slice none 0 0, .slice none 0 0, .bool false, .slice none 0 0, .slice none 0 0, .string ⟨#[]⟩, .slice none 0 0, .slice none 0 0]
theorem Tm.ch_in (k : Nat) (hk : k < 300) (w : World) : Tr.In w (fun _ => True) (Tm.chT k) (.agg (Tm.chV k)) := Tb.leaf_in 4 (k : Nat) ⟨#[]⟩ w (by decide) (by omega) (by decide)
theorem Tm.key_in (K : Nat) (hK : K < 256) (w : World) (b : Nat) (t : TypeId) (h : w.heap[b]? = some (.cells (Tm.chV K) t (0, 0))) : Tr.In w (fun _ => True) (Tm.keyT K) (.agg #[.int .i64 9, .int .i64 0, .bool false, .slice none 0 0, .slice none 0 0, .bool false, .slice none 0 0, .slice none 0 0, .string ⟨#[]⟩, .slice none 0 0, .slice (some ⟨b, 0, none⟩) 1 1]) := by
  unfold Tm.keyT
  rw [Tr.In_mk]
  refine ⟨.slice none 0 0, .slice none 0 0, .slice none 0 0, .slice none 0 0, .slice none 0 0, .slice (some ⟨b, 0, none⟩) 1 1, rfl, ⟨⟨by decide, by decide, by decide, by decide, fun x h => by simp at h, fun x h => by simp at h, fun x h => by simp at h, fun x h => by simp at h, Nat.zero_le _, Nat.zero_le _, Nat.zero_le _, Nat.zero_le _, by decide, Nat.zero_le _⟩, .inl ⟨rfl, rfl⟩, .inl ⟨rfl, rfl⟩, .inl ⟨rfl, rfl⟩, .inl ⟨rfl, rfl⟩, .inl ⟨rfl, rfl⟩, fun h => absurd h (Nat.lt_irrefl 0), fun h => absurd h (Nat.lt_irrefl 0), fun h => absurd h (Nat.lt_irrefl 0), fun h => absurd h (Nat.lt_irrefl 0), fun h => absurd h (Nat.lt_irrefl 0)⟩, ?_⟩
  refine .inr (.inr ⟨Nat.zero_lt_one, b, 0, 1, rfl, Nat.le_refl _, by decide, (Array.getElem?_eq_some_iff.1 h).1, trivial, Tr.All.of _ b 0 (fun k u hk => ?_)⟩)
  match k, hk with
  | 0, hk =>
    simp only [List.getElem?_cons_zero, Option.some.injEq] at hk
    subst hk
    refine ⟨Tm.chV K, Tm.ch_in K (by omega) w, fun j hj => ?_⟩
    have hz : (Tm.chV K).size = 11 := rfl
    refine ⟨(Tm.chV K)[j]'(by omega), Array.getElem?_eq_getElem (by omega), ?_⟩
    rw [Nat.mul_zero, Nat.zero_add]
    exact (Rt.cell_of h j).trans (Array.getElem?_eq_getElem (by omega))
  | k + 1, hk => simp at hk
end Go.Proofs.YtdjllmogejkimaaGreatDoor
namespace Go.Proofs.YtdjllmogejkimaaGreatDoor
open Go.RowKit
open Go.ChangeMaps (setBlock)

theorem Tm.infoP : (Tryz.prog.info? 64).map (fun i => (i.zero, i.size, i.bytes)) = some (some (.pointer none), 1, 8) := by kernel_rfl
theorem Tm.infoD : (Tryz.prog.info? 37).map (fun i => (i.zero, i.size, i.bytes)) = some (some (.agg #[.int .i64 0, .int .i64 0, .bool false, .slice none 0 0, .slice none 0 0, .bool false, .slice none 0 0, .slice none 0 0, .string ⟨#[]⟩, .slice none 0 0, .slice none 0 0]), 11, 192) := by kernel_rfl
theorem Tm.own_slice {w : World} {B sz : Nat} {t : TypeId} {v : Value} {n : Nat} {xs : List Value} (h : w.ownsRow B t sz v n xs) : ∃ a c, v = .slice a n c := by
  rcases h.2 with ⟨rfl, h0⟩ | ⟨g, cap, cur, rfl, _⟩
  · exact ⟨none, 0, by rw [h0]⟩
  · exact ⟨_, _, rfl⟩
theorem Tm.own_kept {w w' : World} {B sz : Nat} {t : TypeId} {v : Value} {n : Nat} {xs : List Value} (h : w.ownsRow B t sz v n xs) (hk : ∀ q, B ≤ q → q < w.heap.size → w'.heap[q]? = w.heap[q]?) : w'.ownsRow B t sz v n xs := by
  refine ⟨h.1, ?_⟩
  rcases h.2 with h0 | ⟨g, cap, cur, rfl, hbg, hgc, hr⟩
  · exact .inl h0
  · exact .inr ⟨g, cap, cur, rfl, hbg, (hk g hbg (Array.getElem?_eq_some_iff.1 hgc).1).trans hgc, hr⟩
/-- The world behind a step of a range over a map: the range's own block has turned. -/
theorem Tm.turned {w w1 : World} {it : Nat} {o o' : Obj} (h : w.heap[it]? = some o) (hw : w1 = w ∨ w1 = w.drew) : (setBlock w1 it o').heap[it]? = some o' ∧ (∀ q, q ≠ it → (setBlock w1 it o').heap[q]? = w.heap[q]?) ∧ (setBlock w1 it o').heap.size = w.heap.size ∧ ∀ (B : Nat) (w0 : World), Below B w0 w → B ≤ it → Below B w0 (setBlock w1 it o') := by
  have hlt := (Array.getElem?_eq_some_iff.1 h).1
  have hh : w1.heap = w.heap := by rcases hw with rfl | rfl <;> rfl
  have hs : (setBlock w1 it o').heap.size = w.heap.size := by
    show (w1.heap.setIfInBounds it o').size = _
    rw [Array.size_setIfInBounds, hh]
  have hne : ∀ q, q ≠ it → (setBlock w1 it o').heap[q]? = w.heap[q]? := fun q hq => by
    show (w1.heap.setIfInBounds it o')[q]? = _
    rw [Array.getElem?_setIfInBounds, hh]
    simp [Ne.symm hq]
  refine ⟨?_, hne, hs, fun B w0 hB hb => ?_⟩
  · show (w1.heap.setIfInBounds it o')[it]? = _
    rw [Array.getElem?_setIfInBounds, hh]
    simp [hlt]
  · have hB1 : Below B w0 w1 := by
      rcases hw with rfl | rfl
      · exact hB
      · exact hB.drew
    exact ⟨hB1.os, hB1.tape, hB1.output, by rw [hs, ← hh]; exact hB1.size, fun q hq => by rw [hne q (by omega), ← hh]; exact hB1.block q hq⟩
set_option maxHeartbeats 2000000 in
set_option maxRecDepth 1000000 in
theorem Tm.Keys_any {D : Nat → Prop} {K : Int} {p r last B : Nat} {w : World} {L : List Tm.Row} (hST : Tm.St D K p r last B w L) (hlen : L.length ≤ 4096) (hla : last < 4611686018427387904) :
    Calls Tryz.prog 10 #[.pointer (some ⟨p, 0, none⟩)] w fun e w' => ∃ v, e = .returned v ∧ Tr.LIn w' (fun q => w.heap.size ≤ q) (L.map (·.key)) v ∧ Below w.heap.size w w' := by
  have hp := hST.tab
  obtain ⟨es, clock, hr, hes, hborn⟩ := hST.mp
  have hpl : p < w.heap.size := (Array.getElem?_eq_some_iff.1 hp).1
  have hrl : r < w.heap.size := (Array.getElem?_eq_some_iff.1 hr).1
  have p2 : w.cell? ⟨p, 2, none⟩ = some (.map (some r)) := Rt.cell_of hp 2
  have hrg := run_range_map (P := Tryz.prog) w 59 9 64 r es clock Tryz.underlying59 hr
  obtain ⟨W0, hW0⟩ : ∃ z, w.alloc (.mapIter (some r) clock #[] clock) = z := ⟨_, rfl⟩
  have hb0 : Below w.heap.size w W0 := by rw [← hW0]; exact (Below.refl _ _).alloc (Nat.le_refl _) _
  have hi0 : W0.heap[w.heap.size]? = some (.mapIter (some r) clock #[] clock) := by rw [← hW0]; exact heap_alloc_new w _
  have hz0 : W0.heap.size = w.heap.size + 1 := by rw [← hW0]; simp
  rw [hW0] at hrg
  obtain ⟨i8, hi8, hzp, hs8, hy8⟩ := info_parts Tm.infoP
  obtain ⟨i0, hi, hzd, hsd, hyd⟩ := info_parts Tm.infoD
  obtain ⟨N, hN⟩ : ∃ z, z = L.length := ⟨_, rfl⟩
  have HST := Lib.hid hST
  have HES := Lib.hid (And.intro hes hborn)
  have HN := Lib.hid hN
  have HLN := Lib.hid hlen
  have HLA := Lib.hid hla
  have HR := Lib.hid hr
  have HNODUP : Hid ((es.toList.map (·.born)).Nodup) := Lib.hid (by
    rw [hes]
    unfold Tm.ents
    rw [List.map_map, List.map_map]
    exact List.pairwise_map.2 hST.borns)
  have HSTART : Hid (∃ (js : List (Fin L.length)) (seen : Array Nat), js.length + N = N ∧ Tm.Gone L seen js ∧ W0.ownsRow (w.heap.size + 1) 64 1 (.slice none 0 0) js.length (js.map (Tm.ptr L)) ∧ W0.heap[w.heap.size]? = some (.mapIter (some r) clock seen clock) ∧ w.heap.size < W0.heap.size ∧ Below w.heap.size w W0) := Lib.hid ⟨[], #[], by simp, Tm.Gone.nil L, World.ownsRow_nil _ _ _ _, hi0, by omega, hb0⟩
  clear hST hes hborn hp hr hb0 hi0 hz0 hlen hla hN hW0
  go_enter Tryz.func10, Tryz.ntmps10
  go_wp2_with fail
  go_loopg [3] N (fun g s wr => ∃ (js : List (Fin L.length)) (seen : Array Nat), js.length + g = N ∧ Tm.Gone L seen js ∧ wr.ownsRow (w.heap.size + 1) 64 1 s js.length (js.map (Tm.ptr L)) ∧ wr.heap[w.heap.size]? = some (.mapIter (some r) clock seen clock) ∧ w.heap.size < wr.heap.size ∧ Below w.heap.size w wr)
  case atStart => exact HSTART.out
  case round =>
    obtain ⟨js, seen, hjg, hgone, hown, hit, hsz, hbw⟩ := hrel
    obtain ⟨wo, hwo⟩ : ∃ z, z = wr := ⟨_, rfl⟩
    subst hwo
    clear HSTART
    obtain ⟨oa, oc, rfl⟩ := Tm.own_slice hown
    obtain ⟨k, hk⟩ : ∃ z, js.length = z := ⟨_, rfl⟩
    have HG := Lib.hid hgone
    have HK := Lib.hid hk
    rw [hk] at hown hjg ⊢
    have hmap : wo.heap[r]? = some (.map es clock) := (hbw.block r hrl).trans HR.out
    have law := run_next_at (P := Tryz.prog) wo 0 w.heap.size r clock clock seen es clock hit hmap (fun x hx => by
      rw [HES.out.1] at hx
      unfold Tm.ents at hx
      rw [List.map_map, List.mem_map] at hx
      obtain ⟨row, hrow, rfl⟩ := hx
      exact HES.out.2 row hrow) (Nat.le_refl _)
    have HOWN := Lib.hid hown
    have HIT := Lib.hid hit
    have HBW := Lib.hid hbw
    have HSZ := Lib.hid hsz
    clear hgone hown hit hbw hk hmap
    rcases law with ⟨h0, hrun⟩ | ⟨e, he, w1, hal, hrun⟩
    · have hnx : ∀ ty, (Instr.next (.pointer (some ⟨w.heap.size, 0, none⟩)) false ty).run Tryz.prog wo = .ok (.tuple #[.bool false]) wo := fun _ => hrun
      have hperm := HG.out.all HES.out.1 HST.out.borns h0
      have hkN : k = L.length := by have := hperm.length_eq; rw [HK.out] at this; simpa using this
      have HPERM := Lib.hid hperm
      have KS := Lib.hid (Tm.sort_any L wo (w.heap.size + 1) (.slice oa k oc) js HST.out.cames (fun row hrow => Nat.lt_of_le_of_lt (HST.out.lasts row hrow) HLA.out) (by have := HLN.out; omega) hperm (fun row hrow => by
        obtain ⟨CK, CV, h1, h2, h3⟩ := HST.out.ents row hrow
        have hlt := HST.out.x_lt hrow
        refine ⟨⟨_, (HBW.out.block _ hlt).trans h1, ?_⟩, by omega⟩
        have z1 := h2.size11
        have z2 := h3.size11
        rw [Array.getElem?_append_right (by rw [Array.size_append]; omega), Array.size_append, z1, z2]
        rfl) (Eq.mp (congrArg (fun z => wo.ownsRow (w.heap.size + 1) 64 1 (.slice oa k oc) z (js.map (Tm.ptr L))) hkN) HOWN.out))
      have HKN := Lib.hid (hkN.trans HN.out.symm)
      clear hrun h0 hperm hkN
      go_wp2_with fail
      refine KS.out.mono ?_
      rintro x w2 ⟨rfl, hown2, hgr2⟩
      have hb2 : Below w.heap.size w w2 := HBW.out.grown hgr2 HBW.out.size (fun q hq => by
        have := (HOWN.out.lt q hq).1
        omega)
      have HB2 := Lib.hid hb2
      have HOWN2 : Hid (w2.ownsRow (w.heap.size + 1) 64 1 (.slice oa k oc) k ((List.finRange L.length).map (Tm.ptr L))) := Lib.hid (Eq.mpr (congrArg (fun z => w2.ownsRow (w.heap.size + 1) 64 1 (.slice oa k oc) z ((List.finRange L.length).map (Tm.ptr L))) (HKN.out.trans HN.out)) hown2)
      have HSTART2 : Hid (∃ (k2 : Nat) (xs : List Value), k2 + k = k ∧ Value.int .i64 0 = .int .i64 k2 ∧ Tr.Row w2.heap.size w2 (.slice none 0 0) ((L.map (·.key)).take k2) xs ∧ ((L.map (·.key)).take k2).length = k2 ∧ Below w2.heap.size w2 w2) := Lib.hid ⟨0, [], by omega, rfl, Tr.Row.nil _ _, rfl, Below.refl _ _⟩
      clear hown2 hgr2 hb2 KS hnx
      go_wp2_with fail
      go_loopg [6, 28] k (fun g s i wr => ∃ (k2 : Nat) (xs : List Value), k2 + g = k ∧ i = .int .i64 k2 ∧ Tr.Row w2.heap.size wr s ((L.map (·.key)).take k2) xs ∧ ((L.map (·.key)).take k2).length = k2 ∧ Below w2.heap.size w2 wr)
      case atStart => exact HSTART2.out
      case round =>
        obtain ⟨k2, xs, hkg, rfl, hrow, hlk, hbw⟩ := hrel
        obtain ⟨w3, hw3⟩ : ∃ z, z = wr := ⟨_, rfl⟩
        subst hw3
        clear HSTART2
        obtain ⟨va, vc, rfl⟩ := Tm.own_slice hrow.1
        rw [hlk] at hrow ⊢
        have HROW := Lib.hid hrow
        have HLK := Lib.hid hlk
        have HB3 := Lib.hid (And.intro hbw (HB2.out.trans (hbw.mono HB2.out.size)))
        clear hrow hlk hbw
        by_cases hlt : k2 < k
        · have hkL : k2 < L.length := by rw [← HN.out, ← HKN.out]; exact hlt
          obtain ⟨row, hrw⟩ : ∃ z, z = L[k2] := ⟨_, rfl⟩
          have hmem : row ∈ L := by rw [hrw]; exact List.getElem_mem _
          obtain ⟨CK, CV, hent, hik, hiv⟩ := HST.out.ents row hmem
          obtain ⟨he, le, ka3, ka4, ka6, ka7, ka9, ka10, kn3, kn4, kn6, kn7, kn9, kn10, kc3, kc4, kc6, kc7, kc9, kc10, eCk, etk1, etk2, etk3⟩ := Tr.In.form2 hik
          have eC2 : CK = #[.int .i64 he.k, .int .i64 he.n, .bool he.s1, .slice ka3 kn3 kc3, .slice ka4 kn4 kc4, .bool he.s2, .slice ka6 kn6 kc6, .slice ka7 kn7 kc7, .string he.x, .slice ka9 kn9 kc9, .slice ka10 kn10 kc10] := eCk
          clear eCk etk1 etk2 etk3
          subst eC2
          have hsnd := (HST.out.snd row hmem).1
          have hxl := HST.out.x_lt hmem
          obtain ⟨X, hX⟩ : ∃ z, z = row.e.x := ⟨_, rfl⟩
          rw [← hX] at hent hxl
          have hx3 := (HB3.out.2.block X hxl).trans hent
          have c0 : ∀ j u, (#[.int .i64 he.k, .int .i64 he.n, .bool he.s1, .slice ka3 kn3 kc3, .slice ka4 kn4 kc4, .bool he.s2, .slice ka6 kn6 kc6, .slice ka7 kn7 kc7, .string he.x, .slice ka9 kn9 kc9, .slice ka10 kn10 kc10] : Array Value)[j]? = some u → w3.cell? ⟨X, j, none⟩ = some u := fun j u hu => by
            rw [Rt.cell_of hx3 j]
            have hj : j < 11 := by
              have := (Array.getElem?_eq_some_iff.1 hu).1
              simpa using this
            rw [Array.getElem?_append_left (by rw [Array.size_append]; simp; omega), Array.getElem?_append_left (by simpa using hj)]
            exact hu
          have e0 := c0 0 _ rfl; have e1 := c0 1 _ rfl; have e2 := c0 2 _ rfl; have e3 := c0 3 _ rfl; have e4 := c0 4 _ rfl; have e5 := c0 5 _ rfl; have e6 := c0 6 _ rfl; have e7 := c0 7 _ rfl; have e8 := c0 8 _ rfl; have e9 := c0 9 _ rfl; have e10 := c0 10 _ rfl
          obtain ⟨g, rfl, hg0⟩ : ∃ g, oa = some ⟨g, 0, none⟩ ∧ w3.cell? ⟨g, k2, none⟩ = some (.pointer (some ⟨X, 0, none⟩)) := by
            rcases HOWN2.out.2 with ⟨h1, h2⟩ | ⟨g, cap, cur, h1, hbg, hgc, hnc, hcm, hcs, htake⟩
            · omega
            · simp only [Value.slice.injEq] at h1
              refine ⟨g, h1.1, ?_⟩
              have h5 := (HB3.out.1.block g (Array.getElem?_eq_some_iff.1 hgc).1).trans hgc
              refine (Rt.cell_of h5 k2).trans ?_
              have h6 := congrArg (fun l => l[k2]?) htake
              simp only [Nat.mul_one] at h6
              rw [List.getElem?_take_of_lt hlt, Array.getElem?_toList, List.getElem?_map, List.getElem?_eq_getElem (by simp; omega)] at h6
              rw [h6, hX, hrw]
              simp [Tm.ptr]
          have KC := Tr.Copy_any row.key _ _ w3 (Tr.In.below hik HB3.out.2 (Nat.le_refl _)) hsnd
          have HKEY : Hid ((L.map (·.key)).take (k2 + 1) = (L.map (·.key)).take k2 ++ [row.key] ∧ k2 ≤ 4096) := Lib.hid ⟨by rw [List.take_add_one, List.getElem?_map, List.getElem?_eq_getElem hkL, hrw]; rfl, by have := HLN.out; omega⟩
          clear hent hik hiv hmem hsnd hxl hx3 c0 hrw hX hkL
          go_wp2_with fail
          refine KC.mono ?_
          rintro y w5 ⟨CA, rfl, hIA, hb5⟩
          obtain ⟨hA, lA, xa3, xa4, xa6, xa7, xa9, xa10, xn3, xn4, xn6, xn7, xn9, xn10, xc3, xc4, xc6, xc7, xc9, xc10, eCA, et1, et2, et3⟩ := Tr.In.form2 hIA
          clear et1 et2 et3
          have e99 : CA = #[.int .i64 hA.k, .int .i64 hA.n, .bool hA.s1, .slice xa3 xn3 xc3, .slice xa4 xn4 xc4, .bool hA.s2, .slice xa6 xn6 xc6, .slice xa7 xn7 xc7, .string hA.x, .slice xa9 xn9 xc9, .slice xa10 xn10 xc10] := eCA
          clear eCA
          subst e99
          have hbx : ∀ O, Below w3.heap.size w3 (w5.alloc O) := fun O => hb5.alloc hb5.size O
          have hownx : ∀ O, (w5.alloc O).ownsRow w2.heap.size 37 11 (.slice va k2 vc) k2 xs := fun O => by
            have h1 := Tm.own_kept (w' := w5.alloc O) HROW.out.1 (fun q _ hq => (hbx O).block q hq)
            rwa [HLK.out] at h1
          have HOWNX := Lib.hid hownx
          have HBX := Lib.hid hbx
          have HSZX : Hid (∀ O, w2.heap.size ≤ (w5.alloc O).heap.size) := Lib.hid (fun O => Nat.le_trans HB3.out.1.size (hbx O).size)
          have HIA := Lib.hid hIA
          have hk4 := HKEY.out.2
          clear hb5 hIA KC hbx hownx e0 e1 e2 e3 e4 e5 e6 e7 e8 e9 e10 hg0
          go_wp2_with (at_builtin; refine Ls.wpList_append _ rfl _ _ 35 rfl w2.heap.size 37 i0 (.agg #[.int .i64 0, .int .i64 0, .bool false, .slice none 0 0, .slice none 0 0, .bool false, .slice none 0 0, .slice none 0 0, .string ⟨#[]⟩, .slice none 0 0, .slice none 0 0]) 11 192 Tryz.underlying35 hi hzd hsd hyd rfl (by decide) (.slice va k2 vc) k2 xs (by rfl) (HOWNX.out _) (.slice (some ⟨w5.heap.size, 0, none⟩) 1 1) 1 [.int .i64 hA.k, .int .i64 hA.n, .bool hA.s1, .slice xa3 xn3 xc3, .slice xa4 xn4 xc4, .bool hA.s2, .slice xa6 xn6 xc6, .slice xa7 xn7 xc7, .string hA.x, .slice xa9 xn9 xc9, .slice xa10 xn10 xc10] (by rfl) (.inr ⟨_, _, rfl, rfl, World.news_of_block (heap_alloc_new _ _)⟩) (by intro u hu; simp only [List.mem_cons, List.not_mem_nil, or_false] at hu; rcases hu with rfl | rfl | rfl | rfl | rfl | rfl | rfl | rfl | rfl | rfl | rfl <;> rfl) (by simp only [maxLen]; omega) (by omega) (HSZX.out _) ?_)
          intro v7 w7 hown7 hgr7 hfr7
          have HNEXT : Hid (∃ ys, Tr.Row w2.heap.size w7 v7 ((L.map (·.key)).take (k2 + 1)) ys ∧ ((L.map (·.key)).take (k2 + 1)).length = k2 + 1 ∧ Below w2.heap.size w2 w7) := Lib.hid (by
            have h1 := Tr.Row.push HROW.out (HBX.out _) HB3.out.1.size (Tr.In.below HIA.out ((Below.refl w5.heap.size w5).alloc (Nat.le_refl _) _) (Nat.le_refl _)) (by rw [HLK.out]; exact hown7) hgr7 hfr7
            refine ⟨_, by rw [HKEY.out.1]; exact h1, by rw [HKEY.out.1, List.length_append, HLK.out]; rfl, ?_⟩
            refine (HB3.out.1.trans ((HBX.out _).mono HB3.out.1.size)).grown hgr7 (HSZX.out _) (fun q hq => ?_)
            exact ((HOWNX.out (.cells #[.int .i64 hA.k, .int .i64 hA.n, .bool hA.s1, .slice xa3 xn3 xc3, .slice xa4 xn4 xc4, .bool hA.s2, .slice xa6 xn6 xc6, .slice xa7 xn7 xc7, .string hA.x, .slice xa9 xn9 xc9, .slice xa10 xn10 xc10] 37)).lt q hq).1)
          obtain ⟨a7, c7, rfl⟩ := Tm.own_slice hown7
          clear hown7 hgr7 hfr7 hk4
          go_wp2_with fail
          go_roundg (gk - 1)
          case measure => omega
          case rel =>
            obtain ⟨ys, h1, h2, h3⟩ := HNEXT.out
            have hk4 := HKEY.out.2
            exact ⟨k2 + 1, ys, by omega, by first | rfl | go_num | (simp; done) | (simp; unfold wrap64; omega), h1, h2, h3⟩
        · have hk2 : k2 = k := by omega
          subst hk2
          have HEND : Hid (Tr.LIn w3 (fun q => w.heap.size ≤ q) (L.map (·.key)) (.slice va k2 vc)) := Lib.hid (by
            have h1 := HROW.out.lin
            rw [List.take_of_length_le (by rw [List.length_map, ← HN.out, ← HKN.out]; exact Nat.le_refl _)] at h1
            exact h1.mono (fun q hq => Nat.le_trans HB2.out.size hq))
          have HBE := Lib.hid HB3.out.2
          go_wp2_with fail
          go_ret
          exact ⟨_, rfl, HEND.out, HBE.out⟩
    · obtain ⟨i, hi1, hgone2⟩ := HG.out.step HES.out.1 HST.out.borns he
      have hx1 : e.val = .pointer (some ⟨L[i].e.x, 0, none⟩) := by rw [hi1]; rfl
      have hx2 : e.key = .string L[i].e.nm := by rw [hi1]; rfl
      have hmem : e ∈ es.toList := by
        unfold leftOf at he
        rw [Array.toList_filter, List.mem_filter] at he
        exact he.1
      obtain ⟨hT1, hT2, hT3, hT4⟩ := Tm.turned (o' := .mapIter (some r) clock (seen.push e.born) clock) HIT.out hal
      obtain ⟨W1, hW1⟩ : ∃ z, setBlock w1 w.heap.size (.mapIter (some r) clock (seen.push e.born) clock) = z := ⟨_, rfl⟩
      rw [hW1] at hT1 hT2 hT3 hT4 hrun
      have hmap1 : W1.heap[r]? = some (.map es clock) := (hT2 r (by omega)).trans ((HBW.out.block r hrl).trans HR.out)
      have hen := run_entry_at (P := Tryz.prog) W1 w.heap.size r clock seen es clock e hT1 hmap1 hmem HNODUP.out
      obtain ⟨X, hX⟩ : ∃ z, z = L[i].e.x := ⟨_, rfl⟩
      obtain ⟨S, hS⟩ : ∃ z, z = L[i].e.nm := ⟨_, rfl⟩
      rw [← hX] at hx1
      rw [← hS] at hx2
      rw [hx1, hx2] at hrun hen
      have hnx : ∀ ty, (Instr.next (.pointer (some ⟨w.heap.size, 0, none⟩)) false ty).run Tryz.prog wo = .ok (.tuple #[.bool true, .string S, .pointer (some ⟨X, 0, none⟩)]) W1 := fun _ => hrun
      have hownx : ∀ O, (W1.alloc O).ownsRow (w.heap.size + 1) 64 1 (.slice oa k oc) k (js.map (Tm.ptr L)) := fun O => Tm.own_kept HOWN.out (fun q hq hl => (Lib.alloc_old _ _ _ (by omega)).trans (hT2 q (by omega)))
      have HOWNX := Lib.hid hownx
      have HSZX : Hid (∀ O, w.heap.size + 1 ≤ (W1.alloc O).heap.size) := Lib.hid (fun O => by have := HSZ.out; simp; omega)
      have HT := Lib.hid (And.intro hT1 (And.intro hT2 (And.intro hT3 (hT4 w.heap.size w HBW.out (Nat.le_refl _)))))
      have HGONE := Lib.hid hgone2
      have hkb : k < N := by
        have h1 := hgone2.le
        rw [List.length_append, HK.out, List.length_singleton] at h1
        have := HN.out
        omega
      have HJ : Hid ((js ++ [i]).map (Tm.ptr L) = js.map (Tm.ptr L) ++ [.pointer (some ⟨X, 0, none⟩)] ∧ N ≤ 4096) := Lib.hid ⟨by rw [List.map_append, hX]; rfl, by rw [HN.out]; exact HLN.out⟩
      have hN4 := HJ.out.2
      clear he hi1 hgone2 hx1 hx2 hmem hT1 hT2 hT3 hT4 hW1 hmap1 hX hS hrun hownx hal
      go_wp2_with (at_builtin; refine Ls.wpList_append _ rfl _ _ 69 rfl (w.heap.size + 1) 64 i8 (.pointer none) 1 8 Tryz.underlying69 hi8 hzp hs8 hy8 rfl (by decide) (.slice oa k oc) k (js.map (Tm.ptr L)) (by rfl) (HOWNX.out _) (.slice (some ⟨W1.heap.size, 0, none⟩) 1 1) 1 [.pointer (some ⟨X, 0, none⟩)] (by rfl) (.inr ⟨_, _, rfl, rfl, World.news_of_block (heap_alloc_new _ _)⟩) (by intro u hu; simp only [List.mem_cons, List.not_mem_nil, or_false] at hu; rcases hu with rfl; rfl) (by simp only [maxLen]; omega) (by omega) (HSZX.out _) ?_)
      intro v7 w7 hown7 hgr7 hfr7
      have HNEXT : Hid (w7.ownsRow (w.heap.size + 1) 64 1 v7 (js ++ [i]).length ((js ++ [i]).map (Tm.ptr L)) ∧ w7.heap[w.heap.size]? = some (.mapIter (some r) clock (seen.push e.born) clock) ∧ w.heap.size < w7.heap.size ∧ Below w.heap.size w w7) := Lib.hid (by
        have hzz := HSZ.out
        have hz3 := HT.out.2.2.1
        have hlt : ∀ q, (Value.slice oa k oc).ownBlock = some q → w.heap.size + 1 ≤ q := fun q hq => (HOWN.out.lt q hq).1
        refine ⟨by rw [HJ.out.1, List.length_append, HK.out]; exact hown7, ?_, ?_, ?_⟩
        · refine (hgr7.block w.heap.size (by simp; omega) (fun e => by have := hlt _ e.symm; omega)).trans ((Lib.alloc_old _ _ _ (by omega)).trans HT.out.1)
        · have := hgr7.size
          simp at this
          omega
        · exact (HT.out.2.2.2.alloc HT.out.2.2.2.size _).grown hgr7 (by simp; omega) (fun q hq => by have := hlt q hq; omega))
      obtain ⟨a7, c7, rfl⟩ := Tm.own_slice hown7
      clear hown7 hgr7 hfr7 hN4
      go_wp2_with fail
      go_roundg (gk - 1)
      case measure => omega
      case rel => exact ⟨js ++ [i], seen.push e.born, by rw [List.length_append, HK.out, List.length_singleton]; omega, HGONE.out, HNEXT.out.1, HNEXT.out.2.1, HNEXT.out.2.2.1, HNEXT.out.2.2.2⟩
end Go.Proofs.YtdjllmogejkimaaGreatDoor
namespace Go.Proofs.YtdjllmogejkimaaGreatDoor
open Go.RowKit

def Tb.sAb : ByteArray := ⟨#[65, 98]⟩
def Tb.saB : ByteArray := ⟨#[97, 66]⟩
def Tb.sab : ByteArray := ⟨#[97, 98]⟩
/-- A datum without lists and numbers, as its cells. -/
theorem Tb.leaf_open {w : World} {S : Nat → Prop} {k n : Int} {s : ByteArray} {v : Value} (h : Tr.In w S (Tb.leaf k n s) v) : ∃ (a3 a4 a6 a7 a9 a10 : Option Addr) (n3 n4 n6 n7 n9 n10 c3 c4 c6 c7 c9 c10 : Nat), v = .agg #[.int .i64 k, .int .i64 n, .bool false, .slice a3 n3 c3, .slice a4 n4 c4, .bool false, .slice a6 n6 c6, .slice a7 n7 c7, .string s, .slice a9 n9 c9, .slice a10 n10 c10] := by
  obtain ⟨C, rfl⟩ := h.agg
  obtain ⟨hd, l, a3, a4, a6, a7, a9, a10, n3, n4, n6, n7, n9, n10, c3, c4, c6, c7, c9, c10, eC, et, _, _⟩ := Tr.In.form2 h
  unfold Tb.leaf at et
  injection et with e1 e2
  subst e1
  exact ⟨a3, a4, a6, a7, a9, a10, n3, n4, n6, n7, n9, n10, c3, c4, c6, c7, c9, c10, by rw [eC]; rfl⟩
set_option maxHeartbeats 1000000 in
set_option maxRecDepth 1000000 in
theorem Tb.awake2 (w : World) (hT : Tr.Tabs w) : Calls Tryz.prog 6 #[] w fun e w' => e = .returned (.bool true) ∧ Below w.heap.size w w' := by
  have nm1 : (⟨(Ch.foldL Tb.sAb.data.toList).toArray⟩ : ByteArray) = Tb.sab := by decide +kernel
  have nm2 : (⟨(Ch.foldL Tb.saB.data.toList).toArray⟩ : ByteArray) = Tb.sab := by decide +kernel
  have v1 : Tr.sound (Tb.leaf 5 0 Tb.sAb) = true := by rw [Tb.leaf_text]; decide +kernel
  have v2 : Tr.sound (Tb.leaf 5 0 Tb.saB) = true := by rw [Tb.leaf_text]; decide +kernel
  have I := fun (k : Int) (hk : k = 5 ∨ k = 2) (s : ByteArray) (hs : s.size ≤ maxLen) (w : World) => Tb.leaf_in k 0 s w (by omega) (by omega) hs
  have m1 : Tb.sAb.size ≤ maxLen := by decide
  have m2 : Tb.saB.size ≤ maxLen := by decide
  have m0 : (⟨#[]⟩ : ByteArray).size ≤ maxLen := by decide
  have KS := Lib.hid (fun p r w' hp hr (hT : Tr.Tabs w') => Tb.Set_one 2 p r (Tb.leaf 5 0 Tb.sAb) (Tb.leaf 2 0 ⟨#[]⟩) Tb.sab _ _ w' hp hr (I 5 (.inl rfl) Tb.sAb m1 w') (I 2 (.inr rfl) ⟨#[]⟩ m0 w') v1 Tb.leaf_bool hT (by
    have := Tb.names2 p (.int .i64 0) (.map (some r)) (Tb.leaf 5 0 Tb.sAb) [Tb.leaf 2 0 ⟨#[]⟩] (fun t ht => by
      simp only [List.cons_append, List.nil_append, List.mem_cons, List.not_mem_nil, or_false] at ht
      rcases ht with rfl | rfl
      · exact Tb.leaf_bool
      · exact v1) rfl (by decide)
    rwa [show (⟨(Ch.foldL (Tb.leaf 5 0 Tb.sAb).hd.x.data.toList).toArray⟩ : ByteArray) = Tb.sab from nm1] at this))
  have KG := Lib.hid (fun p r x w' hp hr hE (hT : Tr.Tabs w') => Tb.Get_found 2 p r x (.int .i64 1) (Tb.leaf 5 0 Tb.saB) (Tb.leaf 5 0 Tb.sAb) (Tb.leaf 2 0 ⟨#[]⟩) Tb.sab (by decide) _ w' hp hr hE (I 5 (.inl rfl) Tb.saB m2 w') Tb.leaf_bool hT (by
    have := Tb.names2 p (.int .i64 1) (.map (some r)) (Tb.leaf 5 0 Tb.saB) [] (fun t ht => by
      simp only [List.nil_append, List.mem_singleton] at ht
      subst ht
      exact v2) rfl (by decide)
    rwa [show (⟨(Ch.foldL (Tb.leaf 5 0 Tb.saB).hd.x.data.toList).toArray⟩ : ByteArray) = Tb.sab from nm2] at this))
  clear nm1 nm2 v1 v2 I m1 m2 m0
  unfold Tb.leafV at KS KG
  rw [show Tb.sAb = ⟨#[65, 98]⟩ from rfl] at KS
  rw [show Tb.saB = ⟨#[97, 66]⟩ from rfl] at KG
  have HT := Lib.hid hT
  clear hT
  go_enter Tryz.func6, Tryz.ntmps6
  go_wp2_with fail
  refine (Tb.new_any 2 (by decide) _).mono ?_
  rintro y w1 ⟨rfl, hr1, hp1, hb1⟩
  have HB1 := Lib.hid hb1
  have HP1 := Lib.hid hp1
  have HR1 := Lib.hid hr1
  clear hb1 hp1 hr1
  go_wp2_with fail
  refine (KS.out _ _ _ HP1.out HR1.out (HT.out.below HB1.out)).mono ?_
  rintro y w2 ⟨rfl, ⟨x, hr2, hE2⟩, hp2, hold2, hb2⟩
  have HB2 := Lib.hid (HB1.out.trans (hb2.mono (by omega)))
  have HP2 := Lib.hid hp2
  have HR2 := Lib.hid hr2
  have HE2 := Lib.hid hE2
  clear hb2 hp2 hr2 hE2 hold2 KS
  go_wp2_with fail
  refine (KG.out _ _ _ _ HP2.out HR2.out HE2.out (HT.out.below HB2.out)).mono ?_
  rintro y w3 ⟨v3, rfl, hI3, hb3⟩
  have HB3 := Lib.hid (HB2.out.trans (hb3.mono HB2.out.size))
  obtain ⟨a3, a4, a6, a7, a9, a10, n3, n4, n6, n7, n9, n10, c3, c4, c6, c7, c9, c10, rfl⟩ := Tb.leaf_open hI3
  clear hb3 hI3 KG
  go_wp2
  go_ret
  exact ⟨rfl, HB3.out.alloc HB3.out.size _⟩
end Go.Proofs.YtdjllmogejkimaaGreatDoor
