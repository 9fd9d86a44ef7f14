/-
  Slices of bytes that a call reads or has made, in plain Lean over worlds. No conditions.
-/
import Derived.Test.YtdikkknjdbchbaaSl
import Derived.Test.YtdikkknjdbchbaaCdPlain
import Derived.Laws.AppendOwnNone
import Derived.ChangeSlices
import Derived.RegionTactic
import Derived.OpenShut
import Derived.SizedLaws
import Derived.ProofKit
import Derived.Lib.SmallJoins
namespace Go.Proofs.Ytdikkknjdbchbaa.By
open Go.RowKit
set_option linter.unusedVariables false

/-- The cells of bytes. -/
def vals (s : ByteArray) : List Value := (List.range s.size).map fun j => Value.int .u8 (Cd.byt s j)
theorem vals_len (s : ByteArray) : (vals s).length = s.size := by simp [vals]
theorem vals_at (s : ByteArray) (j : Nat) (h : j < s.size) : (vals s)[j]? = some (.int .u8 (Cd.byt s j)) := by simp [vals, h]

/-- The value v can be read as the bytes s; nil or not. -/
def In (w : World) (v : Value) (s : ByteArray) : Prop :=
  (v = .slice none 0 0 ∧ s.size = 0) ∨ (∃ a cap, v = .slice (some a) 0 cap ∧ s.size = 0) ∨
  (0 < s.size ∧ ∃ b off cap, v = .slice (some ⟨b, off, none⟩) s.size cap ∧ s.size ≤ cap ∧ b < w.heap.size ∧ ∀ j, j < s.size → w.cell? ⟨b, off + j, none⟩ = some (.int .u8 (Cd.byt s j)))

theorem In.below {w w' : World} {v : Value} {s : ByteArray} {B : Nat} (h : In w v s) (hb : Below B w w') (hB : w.heap.size ≤ B) : In w' v s := by
  rcases h with h | h | ⟨h0, b, off, cap, hv, h1, h2, hc⟩
  · exact .inl h
  · exact .inr (.inl h)
  · exact .inr (.inr ⟨h0, b, off, cap, hv, h1, by have := hb.size; omega, fun j hj => (hb.cell (p := ⟨b, off + j, none⟩) (by show b < B; omega)).trans (hc j hj)⟩)
theorem In.slice {w : World} {v : Value} {s : ByteArray} (h : In w v s) : ∃ ad cap, v = .slice ad s.size cap := by
  rcases h with ⟨h, h0⟩ | ⟨a, cap, h, h0⟩ | ⟨h0, b, off, cap, hv, _⟩
  · exact ⟨none, 0, by rw [h, h0]⟩
  · exact ⟨some a, cap, by rw [h, h0]⟩
  · exact ⟨_, cap, hv⟩
theorem In.of_own {w : World} {B : Nat} {t : TypeId} {v : Value} {s : ByteArray} (h : w.ownsRow B t 1 v s.size (vals s)) : In w v s := by
  rcases h.2 with ⟨hv, h0⟩ | ⟨g, cap, cur, hv, hB, hg, hn, hm, hs, ht⟩
  · exact .inl ⟨hv, h0⟩
  · rcases Nat.eq_zero_or_pos s.size with h0 | h0
    · exact .inr (.inl ⟨_, cap, by rw [hv, h0], h0⟩)
    · refine .inr (.inr ⟨h0, g, 0, cap, hv, hn, (Array.getElem?_eq_some_iff.1 hg).1, fun i hi => ?_⟩)
      have := h.cells (g := g) (by rw [hv]; rfl) i _ (vals_at s i hi)
      rw [← this, Sl.addr_add]

/-- 'append(dst, v...)' of bytes onto what the call owns. -/
theorem run_append_bytes {P : Program} (w : World) (t ty : TypeId) (base : Nat) (e : TypeId) (i : TypeInfo) (z : Value) (ht : P.underlying t = some (.slice e)) (hi : P.info? e = some i) (hz : i.zero = some z)
    (hsize : i.size = 1) (hby : i.bytes = 1) (hzs : z.cells.size = 1)
    (v : Value) (n : Nat) (xs : List Value) (hown : w.ownsRow base e 1 v n xs) (xv : Value) (S : ByteArray) (hin : In w xv S)
    (h63 : n + S.size ≤ maxLen) (hbytes : n + S.size ≤ 140737488355328) (hbase : base ≤ w.heap.size) :
    ∃ v' w', (Builtin.append_ #[t, t] ty #[v, xv]).run P w = .ok v' w' ∧ w'.ownsRow base e 1 v' (n + S.size) (xs ++ vals S) ∧ w.grownBy w' v.ownBlock ∧ (v' = .slice none 0 0 → v = .slice none 0 0) := by
  rcases hin with ⟨rfl, h0⟩ | ⟨ad, cap, rfl, h0⟩ | ⟨h0, b, off, cap, rfl, h1, h2, hc⟩
  · have hv0 : vals S = [] := List.length_eq_zero_iff.1 (by rw [vals_len, h0])
    refine ⟨v, w, run_append_owned_none (P := P) (w := w) base t ty e i 1 ht hi v n xs hown, ?_, ⟨rfl, rfl, rfl, Nat.le_refl _, fun _ _ _ => rfl⟩, id⟩
    rw [hv0, h0, List.append_nil, Nat.add_zero]
    exact hown
  · have hv0 : vals S = [] := List.length_eq_zero_iff.1 (by rw [vals_len, h0])
    obtain ⟨v', w', hr, h1, h2, h3⟩ := run_append_own (P := P) w base t ty e i z 1 1 ht hi hz hsize hby hzs (by decide) v n xs hown ad 0 cap [] rfl (by simp) (by simp) (by omega) (by omega) hbase
    refine ⟨v', w', hr, ?_, h2, fun hh => (h3.1 hh).1⟩
    rw [hv0, h0]
    exact h1
  · obtain ⟨v', w', hr, h1, h2, h3⟩ := run_append_own (P := P) w base t ty e i z 1 1 ht hi hz hsize hby hzs (by decide) v n xs hown ⟨b, off, none⟩ S.size cap (vals S) (by rw [vals_len, Nat.mul_one]) (fun j u hj => by
      have hj2 : j < S.size := by have := (List.getElem?_eq_some_iff.1 hj).1; rw [vals_len] at this; exact this
      rw [vals_at S j hj2] at hj
      cases hj
      rw [Sl.addr_add]
      exact hc j hj2) (fun u hu => by obtain ⟨j, _, rfl⟩ := List.mem_map.1 hu; rfl) h63 (by omega) hbase
    exact ⟨v', w', hr, h1, h2, fun hh => (h3.1 hh).1⟩

section
variable {P : Program} {w : World} {ops : Array Oper} {rest : List Oper} {o : Oper} {a : Act} {Q : Exit → Act → World → Prop}
theorem wp_append_bytes {K : Act → World → Prop} (s x : Operand) (t : TypeId)
    (ho : o.op = .call { callee := .builtin .append, args := #[s, x], argTypes := #[t, t] })
    (base : Nat) (e : TypeId) (i : TypeInfo) (z : Value) (ht : P.underlying t = some (.slice e)) (hi : P.info? e = some i) (hz : i.zero = some z)
    (hsize : i.size = 1) (hby : i.bytes = 1) (hzs : z.cells.size = 1)
    (v : Value) (n : Nat) (xs : List Value) (hs : a.eval s = v) (hown : w.ownsRow base e 1 v n xs)
    (xv : Value) (S : ByteArray) (hx : a.eval x = xv) (hin : In w xv S)
    (h63 : n + S.size ≤ maxLen) (hbytes : n + S.size ≤ 140737488355328) (hbase : base ≤ w.heap.size)
    (h : ∀ v' w', w'.ownsRow base e 1 v' (n + S.size) (xs ++ vals S) → w.grownBy w' v.ownBlock → (v' = .slice none 0 0 → v = .slice none 0 0) → K (a.put o.dst v') w') : o.wp P a w K Q := by
  obtain ⟨v', w', hr, h2, h3, h4⟩ := run_append_bytes (P := P) w t o.type base e i z ht hi hz hsize hby hzs v n xs hown xv S hin h63 hbytes hbase
  unfold Oper.wp execOp
  simp only [ho, resolve, invoke, builtin, Sem.run_bind, Sem.run_pure, Result.andThen_ok, List.map_toArray, List.map_cons, List.map_nil, hs, hx, hr]
  exact h v' w' h2 h3 h4
theorem wpList_append_bytes (hgd : o.guard = none) (s x : Operand) (t : TypeId)
    (ho : o.op = .call { callee := .builtin .append, args := #[s, x], argTypes := #[t, t] })
    (base : Nat) (e : TypeId) (i : TypeInfo) (z : Value) (ht : P.underlying t = some (.slice e)) (hi : P.info? e = some i) (hz : i.zero = some z)
    (hsize : i.size = 1) (hby : i.bytes = 1) (hzs : z.cells.size = 1)
    (v : Value) (n : Nat) (xs : List Value) (hs : a.eval s = v) (hown : w.ownsRow base e 1 v n xs)
    (xv : Value) (S : ByteArray) (hx : a.eval x = xv) (hin : In w xv S)
    (h63 : n + S.size ≤ maxLen) (hbytes : n + S.size ≤ 140737488355328) (hbase : base ≤ w.heap.size)
    (h : ∀ v' w', w'.ownsRow base e 1 v' (n + S.size) (xs ++ vals S) → w.grownBy w' v.ownBlock → (v' = .slice none 0 0 → v = .slice none 0 0) → wpList P ops Q rest (a.put o.dst v') w') : wpList P ops Q (o :: rest) a w :=
  wpList_plain hgd fun _ hK => wp_append_bytes s x t ho base e i z ht hi hz hsize hby hzs v n xs hs hown xv S hx hin h63 hbytes hbase fun v' w' h2 h3 h4 => hK _ _ (h v' w' h2 h3 h4)
/-- The same at a step of a region that draws. -/
theorem step_append_bytes {K : Act → World → Prop} {E : Prop} (hgd : o.guard = none) (s x : Operand) (t : TypeId)
    (ho : o.op = .call { callee := .builtin .append, args := #[s, x], argTypes := #[t, t] })
    (base : Nat) (e : TypeId) (i : TypeInfo) (z : Value) (ht : P.underlying t = some (.slice e)) (hi : P.info? e = some i) (hz : i.zero = some z)
    (hsize : i.size = 1) (hby : i.bytes = 1) (hzs : z.cells.size = 1)
    (v : Value) (n : Nat) (xs : List Value) (hs : a.eval s = v) (hown : w.ownsRow base e 1 v n xs)
    (xv : Value) (S : ByteArray) (hx : a.eval x = xv) (hin : In w xv S)
    (h63 : n + S.size ≤ maxLen) (hbytes : n + S.size ≤ 140737488355328) (hbase : base ≤ w.heap.size)
    (h : ∀ v' w', w'.ownsRow base e 1 v' (n + S.size) (xs ++ vals S) → w.grownBy w' v.ownBlock → (v' = .slice none 0 0 → v = .slice none 0 0) → K (a.put o.dst v') w') :
    if Region.wanted o (yielded ops a.tmps) = true then Oper.wp P o a w K Q else E := by
  have hw : Region.wanted o (yielded ops a.tmps) = true := by simp [Region.wanted, hgd]
  rw [if_pos hw]
  exact wp_append_bytes s x t ho base e i z ht hi hz hsize hby hzs v n xs hs hown xv S hx hin h63 hbytes hbase h
end

/-- Bytes off a list of numbers. -/
def ofNums (zs : List Int) : ByteArray := ⟨(zs.map fun z => z.toNat.toUInt8).toArray⟩
theorem ofNums_size (zs : List Int) : (ofNums zs).size = zs.length := by
  show (List.toArray _).size = _
  simp
theorem ofNums_byt (zs : List Int) (hz : ∀ n ∈ zs, (Lit.int .u8 n).wf = true) (j : Nat) (h : j < zs.length) : Cd.byt (ofNums zs) j = zs.getD j 0 := by
  have hb := bounds_u8 (hz _ (List.getElem_mem h))
  have e : (ofNums zs).get! j = (zs[j]).toNat.toUInt8 := by
    show (ofNums zs).data[j]! = _
    unfold ofNums
    simp [h]
  unfold Cd.byt
  rw [e, List.getD_eq_getElem?_getD, List.getElem?_eq_getElem h]
  have : ((zs[j]).toNat.toUInt8).toNat = (zs[j]).toNat := by
    rw [Nat.toUInt8, UInt8.toNat_ofNat']
    omega
  rw [this]
  simp
  omega

/-- An argument that is a slice of bytes. -/
theorem In.open {H : Type} {enc : TypeId × Value → H} {P : Program} {w : World} {base : Nat} {spare : Nat → Bool} {held : Bool} {t e : TypeId} {v : Value} {d : DataW H} {ps : List MemPlace} (ht : P.underlying t = some (.slice e)) (he : P.underlying e = some (.int .u8)) (hc : P.cellsOf e = 1)
    (hv : ∃ a len cap, v = .slice a len cap) (hj : DataW.Trod enc P w base spare held t v d ps) :
    ∃ s : ByteArray, In w v s ∧ ((d = .nil ∧ s.size = 0) ∨ ∃ elems spare, d = .slice elems spare ∧ elems.length = s.size) := by
  obtain ⟨a0, len, cap, rfl⟩ := hv
  obtain ⟨fuel, hf⟩ := hj
  rcases Go.ChangeShapes.open_ints ht he hc hf with ⟨hcs, hx⟩ | ⟨a, len', cap', zs, hcs, _, hl, hm, hz, hx, hcell, hwz⟩
  · simp only [Value.cells, List.cons.injEq, Value.slice.injEq, and_true] at hcs
    simp only [Prod.mk.injEq] at hx
    refine ⟨⟨#[]⟩, .inl ⟨?_, rfl⟩, .inl ⟨hx.1, rfl⟩⟩
    simp_all
  · simp only [Prod.mk.injEq] at hx
    have hlz : len' ≤ zs.length := by rw [hz]; split <;> omega
    have hsz : (ofNums (zs.take len')).size = len' := by rw [ofNums_size, List.length_take]; omega
    have hva : (Value.slice a0 len cap) = .slice (some a) len' cap' := by simpa [Value.cells] using hcs
    refine ⟨ofNums (zs.take len'), ?_, .inr ⟨_, _, hx.1, by simp [Go.ChangeShapes.lits, hsz]; omega⟩⟩
    rcases Nat.eq_zero_or_pos len' with h0 | h0
    · exact .inr (.inl ⟨a, cap', by rw [hva, h0], by rw [hsz, h0]⟩)
    · obtain ⟨b, off, rfl, hcl⟩ := ints_at hcell (by omega)
      refine .inr (.inr ⟨by omega, b, off, cap', by rw [hva, hsz], by omega, ?_, fun j hj => ?_⟩)
      · have h1 := hcl 0 (by omega)
        rcases Nat.lt_or_ge b w.heap.size with h | h
        · exact h
        · simp [World.cell?, Array.getElem?_eq_none h] at h1
      · rw [hsz] at hj
        rw [hcl j (by omega), ofNums_byt _ (fun n hn => hwz n (List.mem_of_mem_take hn)) j (by rw [List.length_take]; omega)]
        congr 2
        rw [List.getD_eq_getElem?_getD, List.getD_eq_getElem?_getD, List.getElem?_take, if_pos hj]
theorem In.at {w : World} {ad : Option Addr} {n cap : Nat} {s : ByteArray} (h : In w (.slice ad n cap) s) (h0 : 0 < s.size) : ∃ b off, ad = some ⟨b, off, none⟩ ∧ b < w.heap.size ∧ s.size ≤ cap ∧ ∀ j, j < s.size → w.cell? ⟨b, off + j, none⟩ = some (.int .u8 (Cd.byt s j)) := by
  rcases h with ⟨_, h1⟩ | ⟨_, _, _, h1⟩ | ⟨_, b, off, c2, hv, h1, h2, hc⟩
  · omega
  · omega
  · simp only [Value.slice.injEq] at hv
    obtain ⟨rfl, _, rfl⟩ := hv
    exact ⟨b, off, rfl, h2, h1, hc⟩

/-- The cells of a list of bytes. -/
def bv (l : List UInt8) : List Value := l.map fun b => Value.int .u8 b.toNat
theorem bv_nil : bv [] = [] := rfl
theorem bv_append (a b : List UInt8) : bv (a ++ b) = bv a ++ bv b := by simp [bv]
theorem bv_len (l : List UInt8) : (bv l).length = l.length := by simp [bv]
theorem vals_bv (l : List UInt8) : vals ⟨l.toArray⟩ = bv l := by
  have hz : (ByteArray.mk l.toArray).size = l.length := by show l.toArray.size = _; simp
  apply List.ext_getElem?
  intro j
  rcases Nat.lt_or_ge j l.length with h | h
  · rw [vals_at _ j (by rw [hz]; exact h)]
    have : (ByteArray.mk l.toArray).get! j = l[j] := by
      show l.toArray[j]! = _
      simp [h]
    unfold Cd.byt
    rw [this]
    simp [bv, h]
  · rw [List.getElem?_eq_none (by rw [vals_len, hz]; exact h), List.getElem?_eq_none (by rw [bv_len]; exact h)]
theorem In.of_bv {w : World} {B : Nat} {t : TypeId} {v : Value} {l : List UInt8} (h : w.ownsRow B t 1 v l.length (bv l)) : In w v ⟨l.toArray⟩ := by
  have hz : (ByteArray.mk l.toArray).size = l.length := by show l.toArray.size = _; simp
  refine In.of_own (B := B) (t := t) ?_
  rw [hz, vals_bv]
  exact h

/-- An append of plain cells onto what the call owns: the new row, and the old one, which still reads as it did. -/
theorem run_append_keep {P : Program} (w : World) (t ty : TypeId) (base : Nat) (e : TypeId) (i : TypeInfo) (z : Value) (ht : P.underlying t = some (.slice e)) (hi : P.info? e = some i) (hz : i.zero = some z)
    (hsize : i.size = 1) (hby : i.bytes = 1) (hzs : z.cells.size = 1)
    (v : Value) (n : Nat) (xs : List Value) (hown : w.ownsRow base e 1 v n xs)
    (a : Addr) (m c : Nat) (news : List Value) (hl : news.length = m) (hnews : ∀ j u, news[j]? = some u → w.cell? (a.add j) = some u) (h1 : ∀ u ∈ news, u.oneCell' = true)
    (h63 : n + m ≤ maxLen) (hbytes : n + m ≤ 140737488355328) (hbase : base ≤ w.heap.size) :
    ∃ v' w', (Builtin.append_ #[t, t] ty #[v, .slice (some a) m c]).run P w = .ok v' w' ∧ w'.ownsRow base e 1 v' (n + m) (xs ++ news) ∧ w.grownBy w' v.ownBlock ∧ w'.ownsRow base e 1 v n xs := by
  obtain ⟨v', w', hr, h2, h3, h4⟩ := run_append_own (P := P) w base t ty e i z 1 1 ht hi hz hsize hby hzs (by decide) v n xs hown a m c news (by rw [hl, Nat.mul_one]) hnews h1 h63 (by omega) hbase
  refine ⟨v', w', hr, h2, h3, hown.1, ?_⟩
  rcases hown.2 with ⟨hv, h0⟩ | ⟨g, cap, cur, hv, hbg, hg, hnc, hcm, hcs, htake⟩
  · exact .inl ⟨hv, h0⟩
  · subst hv
    have hxl : xs.length = n := by rw [hown.1, Nat.mul_one]
    rw [Nat.mul_one] at hcs htake
    by_cases hroom : n + m ≤ cap
    · have hr2 := run_append_room (P := P) w t ty e i ht hi g n cap cur hg a m c news (by rw [hl, hsize, Nat.mul_one]) hnews h1 hroom (by rw [hsize, Nat.mul_one, hl, hcs]; exact hroom)
      rw [hr] at hr2
      simp only [Result.ok.injEq] at hr2
      obtain ⟨rfl, rfl⟩ := hr2
      rw [hsize, Nat.mul_one]
      refine .inr ⟨g, cap, _, rfl, hbg, setRow_heap w g cur _ e _ hg, hnc, hcm, ?_, ?_⟩
      · rw [Nat.mul_one]
        simp only [List.size_toArray, List.length_append, List.length_take, List.length_drop, Array.length_toList]
        omega
      · rw [htake]
        simp only [List.append_assoc]
        rw [← hxl]
        exact List.take_left
    · have holds : ∀ j u, xs[j]? = some u → w.cell? ((⟨g, 0, none⟩ : Addr).add j) = some u := hown.cells (g := g) rfl
      have hr2 := run_append_grow (P := P) w t ty e i z ht hi hz ⟨g, 0, none⟩ n cap xs (by rw [hsize, Nat.mul_one]; exact hxl) holds a m c news (by rw [hl, hsize, Nat.mul_one]) hnews (by omega) (by simp only [maxLen] at h63; omega) (by rw [hby]; exact growslice_fits (by omega) (by omega))
      rw [hr] at hr2
      simp only [Result.ok.injEq] at hr2
      obtain ⟨rfl, rfl⟩ := hr2
      refine .inr ⟨g, cap, cur, rfl, hbg, ?_, hnc, hcm, by first | exact hcs | (rw [Nat.mul_one]; exact hcs), by first | exact htake | (rw [Nat.mul_one]; exact htake)⟩
      exact (Lib.alloc_old w.drew _ g (Array.getElem?_eq_some_iff.1 hg).1).trans hg
section
variable {P : Program} {w : World} {ops : Array Oper} {rest : List Oper} {o : Oper} {a : Act} {Q : Exit → Act → World → Prop}
theorem wpList_append_keep (hgd : o.guard = none) (s x : Operand) (t : TypeId)
    (ho : o.op = .call { callee := .builtin .append, args := #[s, x], argTypes := #[t, t] })
    (base : Nat) (e : TypeId) (i : TypeInfo) (z : Value) (ht : P.underlying t = some (.slice e)) (hi : P.info? e = some i) (hz : i.zero = some z)
    (hsize : i.size = 1) (hby : i.bytes = 1) (hzs : z.cells.size = 1)
    (v : Value) (n : Nat) (xs : List Value) (hs : a.eval s = v) (hown : w.ownsRow base e 1 v n xs)
    (ad : Addr) (m c : Nat) (news : List Value) (hx : a.eval x = .slice (some ad) m c) (hl : news.length = m) (hnews : ∀ j u, news[j]? = some u → w.cell? (ad.add j) = some u) (h1 : ∀ u ∈ news, u.oneCell' = true)
    (h63 : n + m ≤ maxLen) (hbytes : n + m ≤ 140737488355328) (hbase : base ≤ w.heap.size)
    (h : ∀ v' w', w'.ownsRow base e 1 v' (n + m) (xs ++ news) → w.grownBy w' v.ownBlock → w'.ownsRow base e 1 v n xs → wpList P ops Q rest (a.put o.dst v') w') : wpList P ops Q (o :: rest) a w := by
  refine wpList_plain hgd fun K hK => ?_
  obtain ⟨v', w', hr, h2, h3, h4⟩ := run_append_keep (P := P) w t o.type base e i z ht hi hz hsize hby hzs v n xs hown ad m c news hl hnews h1 h63 hbytes hbase
  unfold Oper.wp execOp
  simp only [ho, resolve, invoke, builtin, Sem.run_bind, Sem.run_pure, Result.andThen_ok, List.map_toArray, List.map_cons, List.map_nil, hs, hx, hr]
  exact hK _ _ (h v' w' h2 h3 h4)
end
end Go.Proofs.Ytdikkknjdbchbaa.By
