/-
  An append to a row that the call owns: the row stays where it is, or lies in new memory. A row of data that the call owns, and an append to it. The reference's comparison of numbers, at equal numbers.
-/
import Derived.Test.YtdjllmogejkimaaGreatDoorProg
import Derived.Below
import Derived.WalkKit
import Derived.WalkSpells
import Derived.WalkLawsBesides
import Derived.Handy
import Derived.BigCall
import Derived.BigQuiet
import Derived.Lib.Hide
import Derived.WalkSmall
import Derived.ArgAppend
import Derived.WideMake
import Derived.Carry
import Derived.Maps.RangeRun
import Derived.Deep.LoopGhost
import Derived.Lib.Walk
import Derived.Sort.WalkB12
import Derived.Lib.SlicesMore
import Derived.Laws.IdiomStrings
import Derived.Test.YtdjllmogejkimaaGreatDoorQf
import Derived.Test.YtdjllmogejkimaaGreatDoorQa
import Derived.Test.YtdjllmogejkimaaGreatDoorQe
import Derived.Test.YtdjllmogejkimaaGreatDoorQb
import Derived.Test.YtdjllmogejkimaaGreatDoorQd
import Derived.Test.YtdjllmogejkimaaGreatDoorShelfQ
set_option linter.unusedVariables false
set_option linter.unusedSimpArgs false
namespace Go.Proofs.YtdjllmogejkimaaGreatDoor
open Go.RowKit

section
variable {P : Program} (w : World)
/-- Where the row lies behind the append. -/
def Ls.Fresh (w : World) (v v' : Value) : Prop := ∀ q, v'.ownBlock = some q → v.ownBlock = some q ∨ w.heap.size ≤ q
theorem Ls.run_append (base : Nat) (t ty e : TypeId) (i : TypeInfo) (z : Value) (size bytes : Nat) (ht : P.underlying t = some (.slice e)) (hi : P.info? e = some i) (hz : i.zero = some z)
    (hsize : i.size = size) (hby : i.bytes = bytes) (hzs : z.cells.size = size) (hsz : 0 < size)
    (v : Value) (n : Nat) (xs : List Value) (hown : w.ownsRow base e size v n xs)
    (a : Addr) (m c : Nat) (news : List Value) (hl : news.length = m * size) (hnews : ∀ j u, news[j]? = some u → w.cell? (a.add j) = some u) (h1 : ∀ u ∈ news, u.oneCell' = true)
    (h63 : n + m ≤ maxLen) (hbytes : (n + m) * bytes ≤ 140737488355328) (hbase : base ≤ w.heap.size) :
    ∃ v' w', (Builtin.append_ #[t, t] ty #[v, .slice (some a) m c]).run P w = .ok v' w' ∧ w'.ownsRow base e size v' (n + m) (xs ++ news) ∧ w.grownBy w' v.ownBlock ∧ Ls.Fresh w v v' := by
  obtain ⟨v', w', hr, ho, hg, hiff⟩ := run_append_own (P := P) w base t ty e i z size bytes ht hi hz hsize hby hzs hsz v n xs hown a m c news hl hnews h1 h63 hbytes hbase
  refine ⟨v', w', hr, ho, hg, ?_⟩
  have hlen := hown.1
  rcases hown.2 with ⟨rfl, rfl⟩ | ⟨g, cap, cur, rfl, hbg, hgc, hnc, hcm, hcs, htake⟩
  · have hx : xs = [] := List.eq_nil_of_length_eq_zero (by simpa using hlen)
    subst hx
    obtain ⟨v2, w2, hr2, ho2, _, _⟩ := run_append_own (P := P) w w.heap.size t ty e i z size bytes ht hi hz hsize hby hzs hsz _ 0 [] (World.ownsRow_nil w w.heap.size e size) a m c news hl hnews h1 h63 hbytes (Nat.le_refl _)
    rw [hr] at hr2
    cases hr2
    intro q hq
    exact .inr (ho2.lt q hq).1
  · subst hsize
    subst hby
    by_cases hroom : n + m ≤ cap
    · have hfit : n * i.size + news.length ≤ cur.size := by rw [hl, hcs, ← Nat.add_mul]; exact Nat.mul_le_mul_right _ hroom
      have hr2 := run_append_room (P := P) w t ty e i ht hi g n cap cur hgc a m c news hl hnews h1 hroom hfit
      rw [hr] at hr2
      cases hr2
      intro q hq
      exact .inl hq
    · have holds : ∀ j u, xs[j]? = some u → w.cell? ((⟨g, 0, none⟩ : Addr).add j) = some u := by
        exact World.ownsRow.cells (w := w) (base := base) (e := e) (size := i.size) (v := .slice (some ⟨g, 0, none⟩) n cap) (n := n) (xs := xs) ⟨hlen, .inr ⟨g, cap, cur, rfl, hbg, hgc, hnc, hcm, hcs, htake⟩⟩ rfl
      have hr2 := run_append_grow (P := P) w t ty e i z ht hi hz ⟨g, 0, none⟩ n cap xs hlen holds a m c news hl hnews (by omega) (by simp only [maxLen] at h63; omega) (growslice_fits (by omega) hbytes)
      rw [hr] at hr2
      cases hr2
      intro q hq
      simp only [Value.ownBlock, Option.some.injEq] at hq
      exact .inr (by omega)
/-- Nothing is appended. -/
theorem Ls.run_none (base : Nat) (t ty e : TypeId) (i : TypeInfo) (size : Nat) (ht : P.underlying t = some (.slice e)) (hi : P.info? e = some i)
    (v : Value) (n : Nat) (xs : List Value) (hown : w.ownsRow base e size v n xs) :
    (Builtin.append_ #[t, t] ty #[v, .slice none 0 0]).run P w = .ok v w := by
  rcases hown.2 with ⟨rfl, rfl⟩ | ⟨g, cap, cur, rfl, hbg, hgc, hnc, hcm, hcs, htake⟩
  · simp [Builtin.append_, run_underlying ht, sizeOf, typeInfo, hi, Builtin.lenOf, Builtin.firstCells, loadCells, loadCellsFrom]
  · simp [Builtin.append_, run_underlying ht, sizeOf, typeInfo, hi, Builtin.lenOf, Builtin.firstCells, loadCells, loadCellsFrom, hnc, storeCells]
/-- What an append may be of: nothing at all, or so many elements in memory. -/
def Ls.Src (w : World) (size : Nat) (x : Value) (m : Nat) (news : List Value) : Prop :=
  (x = .slice none 0 0 ∧ m = 0 ∧ news = []) ∨ ∃ ad c, x = .slice (some ad) m c ∧ news.length = m * size ∧ ∀ j u, news[j]? = some u → w.cell? (ad.add j) = some u
theorem Ls.run_src (base : Nat) (t ty e : TypeId) (i : TypeInfo) (z : Value) (size bytes : Nat) (ht : P.underlying t = some (.slice e)) (hi : P.info? e = some i) (hz : i.zero = some z)
    (hsize : i.size = size) (hby : i.bytes = bytes) (hzs : z.cells.size = size) (hsz : 0 < size)
    (v : Value) (n : Nat) (xs : List Value) (hown : w.ownsRow base e size v n xs)
    (x : Value) (m : Nat) (news : List Value) (hx : Ls.Src w size x m news) (h1 : ∀ u ∈ news, u.oneCell' = true)
    (h63 : n + m ≤ maxLen) (hbytes : (n + m) * bytes ≤ 140737488355328) (hbase : base ≤ w.heap.size) :
    ∃ v' w', (Builtin.append_ #[t, t] ty #[v, x]).run P w = .ok v' w' ∧ w'.ownsRow base e size v' (n + m) (xs ++ news) ∧ w.grownBy w' v.ownBlock ∧ Ls.Fresh w v v' := by
  rcases hx with ⟨rfl, rfl, rfl⟩ | ⟨ad, c, rfl, hl, hn⟩
  · refine ⟨v, w, Ls.run_none w base t ty e i size ht hi v n xs hown, ?_, ⟨rfl, rfl, rfl, Nat.le_refl _, fun _ _ _ => rfl⟩, fun q hq => .inl hq⟩
    rw [Nat.add_zero, List.append_nil]
    exact hown
  · exact Ls.run_append w base t ty e i z size bytes ht hi hz hsize hby hzs hsz v n xs hown ad m c news hl hn h1 h63 hbytes hbase
theorem Ls.wp_append {o : Oper} {a : Act} {K : Act → World → Prop} {Q : Exit → Act → World → Prop} (s x : Operand) (t : TypeId)
    (ho : o.op = .call { callee := .builtin .append, args := #[s, x], argTypes := #[t, t] })
    (base : Nat) (e : TypeId) (i : TypeInfo) (z : Value) (size bytes : Nat) (ht : P.underlying t = some (.slice e)) (hi : P.info? e = some i) (hz : i.zero = some z)
    (hsize : i.size = size) (hby : i.bytes = bytes) (hzs : z.cells.size = size) (hsz : 0 < size)
    (v : Value) (n : Nat) (xs : List Value) (hs : a.eval s = v) (hown : w.ownsRow base e size v n xs)
    (xv : Value) (m : Nat) (news : List Value) (hxv : a.eval x = xv) (hx : Ls.Src w size xv m news) (h1 : ∀ u ∈ news, u.oneCell' = true)
    (h63 : n + m ≤ maxLen) (hbytes : (n + m) * bytes ≤ 140737488355328) (hbase : base ≤ w.heap.size)
    (h : ∀ v' w', w'.ownsRow base e size v' (n + m) (xs ++ news) → w.grownBy w' v.ownBlock → Ls.Fresh w v v' → K (a.put o.dst v') w') : o.wp P a w K Q := by
  obtain ⟨v', w', hr, h2, h3, h4⟩ := Ls.run_src (P := P) w base t o.type e i z size bytes ht hi hz hsize hby hzs hsz v n xs hown xv m news hx h1 h63 hbytes hbase
  unfold Oper.wp execOp
  simp only [ho, resolve, invoke, builtin, Sem.run_bind, Sem.run_pure, Result.andThen_ok, List.map_toArray, List.map_cons, List.map_nil, hs, hxv, hr]
  exact h v' w' h2 h3 h4
theorem Ls.wpList_append {ops : Array Oper} {rest : List Oper} {o : Oper} {a : Act} {Q : Exit → Act → World → Prop} (hgd : o.guard = none) (s x : Operand) (t : TypeId)
    (ho : o.op = .call { callee := .builtin .append, args := #[s, x], argTypes := #[t, t] })
    (base : Nat) (e : TypeId) (i : TypeInfo) (z : Value) (size bytes : Nat) (ht : P.underlying t = some (.slice e)) (hi : P.info? e = some i) (hz : i.zero = some z)
    (hsize : i.size = size) (hby : i.bytes = bytes) (hzs : z.cells.size = size) (hsz : 0 < size)
    (v : Value) (n : Nat) (xs : List Value) (hs : a.eval s = v) (hown : w.ownsRow base e size v n xs)
    (xv : Value) (m : Nat) (news : List Value) (hxv : a.eval x = xv) (hx : Ls.Src w size xv m news) (h1 : ∀ u ∈ news, u.oneCell' = true)
    (h63 : n + m ≤ maxLen) (hbytes : (n + m) * bytes ≤ 140737488355328) (hbase : base ≤ w.heap.size)
    (h : ∀ v' w', w'.ownsRow base e size v' (n + m) (xs ++ news) → w.grownBy w' v.ownBlock → Ls.Fresh w v v' → wpList P ops Q rest (a.put o.dst v') w') : wpList P ops Q (o :: rest) a w :=
  wpList_plain hgd fun _ hK => Ls.wp_append w s x t ho base e i z size bytes ht hi hz hsize hby hzs hsz v n xs hs hown xv m news hxv hx h1 h63 hbytes hbase fun v' w' h2 h3 h4 => hK _ _ (h v' w' h2 h3 h4)
end
end Go.Proofs.YtdjllmogejkimaaGreatDoor
namespace Go.Proofs.YtdjllmogejkimaaGreatDoor
open Go.RowKit

/-- The row of the data l, its cells xs; no datum lies in the row's own block. -/
def Tr.Row (B : Nat) (w : World) (v : Value) (l : List Tr) (xs : List Value) : Prop :=
  w.ownsRow B 37 11 v l.length xs ∧ ∀ k t, l[k]? = some t → ∃ C : Array Value, Tr.In w (fun q => B ≤ q ∧ v.ownBlock ≠ some q) t (.agg C) ∧ ∀ j, j < 11 → xs[11 * k + j]? = C[j]?
theorem Tr.Row.nil (B : Nat) (w : World) : Tr.Row B w (.slice none 0 0) [] [] := ⟨World.ownsRow_nil w B _ _, fun k t h => by simp at h⟩
theorem Tr.In.size11 {w : World} {S : Nat → Prop} {t : Tr} {C : Array Value} (h : Tr.In w S t (.agg C)) : C.size = 11 := by
  obtain ⟨_, _, _, _, _, _, _, _, e⟩ := Tr.In.form h
  rw [e]; rfl
theorem Tr.Row.push {B : Nat} {w w1 w2 : World} {v v' : Value} {l : List Tr} {xs : List Value} {t : Tr} {C : Array Value} (h : Tr.Row B w v l xs) (hb : Below w.heap.size w w1) (hB : B ≤ w.heap.size)
    (hI : Tr.In w1 (fun q => w.heap.size ≤ q) t (.agg C)) (ho : w2.ownsRow B 37 11 v' (l.length + 1) (xs ++ C.toList)) (hg : w1.grownBy w2 v.ownBlock) (hf : Ls.Fresh w1 v v') : Tr.Row B w2 v' (l ++ [t]) (xs ++ C.toList) := by
  refine ⟨by rw [List.length_append]; exact ho, fun k u hk => ?_⟩
  have hz := hb.size
  have hlt := h.1.lt
  rcases Nat.lt_or_ge k l.length with h1 | h1
  · rw [List.getElem?_append_left h1] at hk
    obtain ⟨C', hI', hx⟩ := h.2 k u hk
    have h5 := Tr.In.kept (S := fun q => (B ≤ q ∧ v.ownBlock ≠ some q) ∧ q < w.heap.size) (w' := w2) ⟨Nat.le_trans hz hg.size, fun q hq hl => (hg.block q (Nat.lt_of_lt_of_le hl hz) (fun e => hq.1.2 e.symm)).trans (hb.block q hl)⟩ _ _ (Tr.In.top _ _ hI')
    have h6 : ∀ q, ((B ≤ q ∧ v.ownBlock ≠ some q) ∧ q < w.heap.size) → (B ≤ q ∧ v'.ownBlock ≠ some q) := by
      intro q hq
      refine ⟨hq.1.1, fun he => ?_⟩
      rcases hf q he with h2 | h2
      · exact hq.1.2 h2
      · have := hq.2
        omega
    refine ⟨C', Tr.In.mono h6 _ _ h5, fun j hj => ?_⟩
    rw [List.getElem?_append_left (by rw [h.1.1]; omega)]
    exact hx j hj
  · have hkl : k = l.length := by
      have := (List.getElem?_eq_some_iff.1 hk).1
      simp at this
      omega
    subst hkl
    rw [List.getElem?_append_right (Nat.le_refl _), Nat.sub_self] at hk
    simp only [List.getElem?_cons_zero, Option.some.injEq] at hk
    subst hk
    have h5 := Tr.In.kept (S := fun q => w.heap.size ≤ q ∧ q < w1.heap.size) (w' := w2) ⟨hg.size, fun q hq hl => hg.block q hl (fun e => by have := (hlt q e.symm).2; have := hq.1; omega)⟩ _ _ (Tr.In.top _ _ hI)
    have h6 : ∀ q, (w.heap.size ≤ q ∧ q < w1.heap.size) → (B ≤ q ∧ v'.ownBlock ≠ some q) := by
      intro q hq
      refine ⟨Nat.le_trans hB hq.1, fun he => ?_⟩
      rcases hf q he with h2 | h2
      · have := (hlt q h2).2
        have := hq.1
        omega
      · have := hq.2
        omega
    refine ⟨C, Tr.In.mono h6 _ _ h5, fun j hj => ?_⟩
    rw [List.getElem?_append_right (by rw [h.1.1]; omega), show 11 * l.length + j - xs.length = j by rw [h.1.1]; omega, Array.getElem?_toList]
/-- The row, read as a list. -/
theorem Tr.Row.lin {B : Nat} {w : World} {v : Value} {l : List Tr} {xs : List Value} (h : Tr.Row B w v l xs) : Tr.LIn w (fun q => B ≤ q) l v := by
  obtain ⟨ho, hall⟩ := h
  have hcell := @World.ownsRow.cells w B _ 11 v l.length xs ho
  rcases ho.2 with ⟨rfl, h0⟩ | ⟨g, cap, cur, rfl, hbg, hgc, hnc, hcm, hcs, htake⟩
  · exact .inl ⟨rfl, h0⟩
  · rcases Nat.eq_zero_or_pos l.length with h0 | h0
    · exact .inr (.inl ⟨_, _, by rw [h0], h0⟩)
    · refine .inr (.inr ⟨h0, g, 0, cap, rfl, hnc, by simp only [maxLen] at hcm; omega, (Array.getElem?_eq_some_iff.1 hgc).1, hbg, Tr.All.of l g 0 (fun k t hk => ?_)⟩)
      obtain ⟨C, hI, hx⟩ := hall k t hk
      refine ⟨C, Tr.In.mono (fun q hq => hq.1) _ _ hI, fun j hj => ?_⟩
      have hs := hI.size11
      have hu : C[j]? = some C[j] := Array.getElem?_eq_getElem (by omega)
      refine ⟨C[j], hu, ?_⟩
      have := hcell (g := g) rfl (11 * k + j) C[j] ((hx j hj).trans hu)
      have hadd : (⟨g, 0, none⟩ : Addr).add (11 * k + j) = ⟨g, 11 * k + j, none⟩ := by unfold Addr.add; split <;> simp_all
      rw [hadd] at this
      rw [Nat.zero_add]
      exact this


theorem Sm.two (w : World) (o1 o2 : Obj) : ((w.alloc o1).alloc o2).heap[w.heap.size]? = some o1 ∧ ((w.alloc o1).alloc o2).heap[w.heap.size + 1]? = some o2 ∧ ((w.alloc o1).alloc o2).heap.size = w.heap.size + 2 ∧ Below w.heap.size w ((w.alloc o1).alloc o2) := by
  refine ⟨(Lib.alloc_old _ _ _ (by simp)).trans (heap_alloc_new w o1), ?_, by simp, ((Below.refl _ _).alloc (Nat.le_refl _) _).alloc (by simp) _⟩
  have := heap_alloc_new (w.alloc o1) o2
  rwa [show (w.alloc o1).heap.size = w.heap.size + 1 by simp] at this

theorem Tb.infoD : (Tryz.prog.info? 37).map (fun i => (i.zero, i.size, i.bytes)) = some (some (.agg #[.int .i64 0, .int .i64 0, .bool false, .slice none 0 0, .slice none 0 0, .bool false, .slice none 0 0, .slice none 0 0, .string ⟨#[]⟩, .slice none 0 0, .slice none 0 0]), 11, 192) := by kernel_rfl
theorem Tb.row_at {w : World} {b : Nat} {C : Array Value} {t : TypeId} (h : w.heap[b]? = some (.cells C t (0, 0))) : ∀ (j : Nat) (u : Value), C.toList[j]? = some u → w.cell? ((⟨b, 0, none⟩ : Addr).add j) = some u := by
  intro j u hu
  have e : (⟨b, 0, none⟩ : Addr).add j = ⟨b, j, none⟩ := by unfold Addr.add; split <;> simp_all
  rw [e, Rt.cell_of h, ← Array.getElem?_toList]
  exact hu
/-- At most one datum, in a slice without room. -/
def Tb.More (w : World) (vm : Value) (more : List Tr) : Prop := ∃ (ao : Option Addr) (m : Nat) (olds : List Value), vm = .slice ao m m ∧ (ao = none → m = 0 ∧ m = 0) ∧ m = more.length ∧ m ≤ 1 ∧ olds.length = m * 11 ∧ (∀ b, ao = some b → ∀ (j : Nat) u, olds[j]? = some u → w.cell? (b.add j) = some u) ∧ (∀ b, ao = some b → b.block < w.heap.size) ∧ ∀ (k : Nat) t, more[k]? = some t → ∃ C, Tr.In w (fun _ => True) t (.agg C) ∧ ∀ j, j < 11 → olds[11 * k + j]? = C[j]?
theorem Tb.More.nil (w : World) : Tb.More w (.slice none 0 0) [] := ⟨none, 0, [], rfl, fun _ => ⟨rfl, rfl⟩, rfl, Nat.zero_le _, rfl, fun b h => (by cases h), fun b h => (by cases h), fun k t h => by simp at h⟩
theorem Tb.More.one {w : World} {b : Nat} {C : Array Value} {t : Tr} {ty : TypeId} (h : w.heap[b]? = some (.cells C ty (0, 0))) (hI : Tr.In w (fun _ => True) t (.agg C)) : Tb.More w (.slice (some ⟨b, 0, none⟩) 1 1) [t] := by
  have hs := hI.size11
  refine ⟨some ⟨b, 0, none⟩, 1, C.toList, rfl, fun h => (by cases h), rfl, Nat.le_refl _, by simp [hs], fun a ha j u hu => ?_, fun a ha => ?_, fun k u hk => ?_⟩
  · cases ha
    have e : (⟨b, 0, none⟩ : Addr).add j = ⟨b, j, none⟩ := by unfold Addr.add; split <;> simp_all
    rw [e, Rt.cell_of h, ← Array.getElem?_toList]
    exact hu
  · cases ha
    exact (Array.getElem?_eq_some_iff.1 h).1
  · match k, hk with
    | 0, hk =>
      simp only [List.getElem?_cons_zero, Option.some.injEq] at hk
      subst hk
      exact ⟨C, hI, fun j hj => by rw [Nat.mul_zero, Nat.zero_add, Array.getElem?_toList]⟩
    | k + 1, hk => simp at hk
/-- The row of all. -/
theorem Tb.row_lin {w w1 : World} {B : Nat} {v' : Value} {more : List Tr} {key : Tr} {olds : List Value} {CK : Array Value} (hb : Below w.heap.size w w1) (hl : olds.length = more.length * 11) (hm : ∀ (k : Nat) t, more[k]? = some t → ∃ C, Tr.In w (fun _ => True) t (.agg C) ∧ ∀ j, j < 11 → olds[11 * k + j]? = C[j]?) (hk : Tr.In w (fun _ => True) key (.agg CK))
    (ho : w1.ownsRow B 37 11 v' (more.length + 1) (olds ++ CK.toList)) : Tr.LIn w1 (fun _ => True) (more ++ [key]) v' := by
  have hcell := @World.ownsRow.cells w1 B _ 11 v' (more.length + 1) _ ho
  have hlen : (more ++ [key]).length = more.length + 1 := by simp
  rcases ho.2 with ⟨_, h0⟩ | ⟨g, cap, cur, rfl, hbg, hgc, hnc, hcm, hcs, htake⟩
  · omega
  · refine .inr (.inr ⟨by omega, g, 0, cap, by rw [hlen], by omega, by simp only [maxLen] at hcm; omega, (Array.getElem?_eq_some_iff.1 hgc).1, trivial, Tr.All.of _ g 0 (fun k t hkt => ?_)⟩)
    have hall : ∃ C, Tr.In w (fun _ => True) t (.agg C) ∧ ∀ j, j < 11 → (olds ++ CK.toList)[11 * k + j]? = C[j]? := by
      rcases Nat.lt_or_ge k more.length with h1 | h1
      · rw [List.getElem?_append_left h1] at hkt
        obtain ⟨C, q1, q2⟩ := hm k t hkt
        exact ⟨C, q1, fun j hj => by rw [List.getElem?_append_left (by omega)]; exact q2 j hj⟩
      · have hk2 : k = more.length := by
          have := (List.getElem?_eq_some_iff.1 hkt).1
          omega
        subst hk2
        rw [List.getElem?_append_right (Nat.le_refl _), Nat.sub_self] at hkt
        simp only [List.getElem?_cons_zero, Option.some.injEq] at hkt
        subst hkt
        exact ⟨CK, hk, fun j hj => by rw [List.getElem?_append_right (by omega), show 11 * more.length + j - olds.length = j by omega, Array.getElem?_toList]⟩
    obtain ⟨C, hI, hx⟩ := hall
    refine ⟨C, Tr.In.below hI hb (Nat.le_refl _), fun j hj => ?_⟩
    have hs := hI.size11
    have hu : C[j]? = some C[j] := Array.getElem?_eq_getElem (by omega)
    refine ⟨C[j], hu, ?_⟩
    have := hcell (g := g) rfl (11 * k + j) C[j] ((hx j hj).trans hu)
    have hadd : (⟨g, 0, none⟩ : Addr).add (11 * k + j) = ⟨g, 11 * k + j, none⟩ := by unfold Addr.add; split <;> simp_all
    rw [hadd] at this
    rw [Nat.zero_add]
    exact this
/-- The cells of a datum are of one cell each. -/
theorem Tb.one_cells {w : World} {S : Nat → Prop} {t : Tr} {C : Array Value} (h : Tr.In w S t (.agg C)) : ∀ u ∈ C.toList, u.oneCell' = true := by
  obtain ⟨hd, l, a3, a4, a6, a7, a9, a10, n3, n4, n6, n7, n9, n10, c3, c4, c6, c7, c9, c10, rfl, _⟩ := Tr.In.form2 h
  intro u hu
  unfold Tr.cells at hu
  simp only [List.mem_cons, List.not_mem_nil, or_false] at hu
  rcases hu with rfl | rfl | rfl | rfl | rfl | rfl | rfl | rfl | rfl | rfl | rfl <;> rfl

/-- No word, no byte, no datum can lie in the block. -/
def Tb.NoData (w : World) (p : Nat) : Prop := ∀ off : Nat, (∀ n : Int, w.cell? ⟨p, off, none⟩ ≠ some (.int .u32 n)) ∧ (∀ n : Int, w.cell? ⟨p, off, none⟩ ≠ some (.int .u8 n)) ∧ (w.cell? ⟨p, off, none⟩ = none ∨ w.cell? ⟨p, off + 10, none⟩ = none)
theorem Tb.NoData.table {w : World} {p : Nat} {k l : Int} {m : Option Nat} {t : TypeId} (h : w.heap[p]? = some (.cells #[.int .i64 k, .int .i64 l, .map m] t (0, 0))) : Tb.NoData w p := by
  have hz : ∀ off, w.cell? ⟨p, off, none⟩ = (#[.int .i64 k, .int .i64 l, .map m] : Array Value)[off]? := fun off => Rt.cell_of h off
  intro off
  rw [hz, hz]
  match off with
  | 0 => exact ⟨fun n e => (by simp at e), fun n e => (by simp at e), .inr rfl⟩
  | 1 => exact ⟨fun n e => (by simp at e), fun n e => (by simp at e), .inr rfl⟩
  | 2 => exact ⟨fun n e => (by simp at e), fun n e => (by simp at e), .inr rfl⟩
  | off + 3 =>
    have e0 : (#[.int .i64 k, .int .i64 l, .map m] : Array Value)[off + 3]? = none := Array.getElem?_eq_none (by simp)
    rw [e0]
    exact ⟨fun n e => (by cases e), fun n e => (by cases e), .inl rfl⟩
theorem Tb.NoData.map {w : World} {r : Nat} {es : Array MapEntry} {c : Nat} (h : w.heap[r]? = some (.map es c)) : Tb.NoData w r := by
  have hz : ∀ off, w.cell? ⟨r, off, none⟩ = none := fun off => by simp [World.cell?, h]
  intro off
  rw [hz]
  exact ⟨fun n e => (by cases e), fun n e => (by cases e), .inl rfl⟩
theorem Tr.On.away {w : World} {S : Nat → Prop} {p : Nat} (hp : Tb.NoData w p) {v : Value} {ws : List Nat} (i : Nt.In w v ws) (o : Tr.On S v ws.length) : Tr.On (fun q => S q ∧ q ≠ p) v ws.length := by
  rcases i with ⟨_, e⟩ | ⟨_, _, _, e⟩ | ⟨h0, b, off, cap, hv, _, hl, hc⟩
  · rw [e]; exact fun h => absurd h (Nat.lt_irrefl 0)
  · rw [e]; exact fun h => absurd h (Nat.lt_irrefl 0)
  · intro _ b' off' l' c' e
    rw [hv] at e
    cases e
    refine ⟨o h0 _ _ _ _ hv, ?_⟩
    rintro rfl
    exact (hp _).1 _ (hc 0 h0)
theorem Tr.On.awayB {w : World} {S : Nat → Prop} {p : Nat} (hp : Tb.NoData w p) {v : Value} {s : ByteArray} (i : By.In w v s) (o : Tr.On S v s.size) : Tr.On (fun q => S q ∧ q ≠ p) v s.size := by
  rcases i with ⟨_, e⟩ | ⟨_, _, _, e⟩ | ⟨h0, b, off, cap, hv, _, hl, hc⟩
  · rw [e]; exact fun h => absurd h (Nat.lt_irrefl 0)
  · rw [e]; exact fun h => absurd h (Nat.lt_irrefl 0)
  · intro _ b' off' l' c' e
    rw [hv] at e
    cases e
    refine ⟨o h0 _ _ _ _ hv, ?_⟩
    rintro rfl
    exact (hp _).2.1 _ (hc 0 h0)
theorem Tr.Hd.In.away {w : World} {S : Nat → Prop} {p : Nat} (hp : Tb.NoData w p) {h : Tr.Hd} {v3 v4 v6 v7 v9 : Value} (i : Tr.Hd.In w S h v3 v4 v6 v7 v9) : Tr.Hd.In w (fun q => S q ∧ q ≠ p) h v3 v4 v6 v7 v9 :=
  ⟨i.ok, i.i3, i.i4, i.i6, i.i7, i.i9, Tr.On.away hp i.i3 i.o3, Tr.On.away hp i.i4 i.o4, Tr.On.away hp i.i6 i.o6, Tr.On.away hp i.i7 i.o7, Tr.On.awayB hp i.i9 i.o9⟩
mutual
theorem Tr.In.away {w : World} {S : Nat → Prop} {p : Nat} (hp : Tb.NoData w p) : ∀ (t : Tr) (v : Value), Tr.In w S t v → Tr.In w (fun q => S q ∧ q ≠ p) t v
  | .mk h l, v, hI => by
    rw [Tr.In_mk] at hI ⊢
    obtain ⟨v3, v4, v6, v7, v9, v10, e, hH, hL⟩ := hI
    refine ⟨v3, v4, v6, v7, v9, v10, e, hH.away hp, ?_⟩
    rcases hL with h0 | h0 | ⟨h0, b, off, cap, hv, h1, h2, h3, h4, h5⟩
    · exact .inl h0
    · exact .inr (.inl h0)
    · exact .inr (.inr ⟨h0, b, off, cap, hv, h1, h2, h3, ⟨h4, Tr.All.first hp l b off h0 h5⟩, Tr.All.away hp l b off h5⟩)
theorem Tr.All.away {w : World} {S : Nat → Prop} {p : Nat} (hp : Tb.NoData w p) : ∀ (l : List Tr) (b off : Nat), Tr.All w S l b off → Tr.All w (fun q => S q ∧ q ≠ p) l b off
  | [], _, _, _ => Tr.All_nil
  | t :: ts, b, off, h => by
    rw [Tr.All_cons] at h ⊢
    obtain ⟨⟨C, hI, hM⟩, hr⟩ := h
    exact ⟨⟨C, Tr.In.away hp t _ hI, hM⟩, Tr.All.away hp ts b (off + 11) hr⟩
theorem Tr.All.first {w : World} {S : Nat → Prop} {p : Nat} (hp : Tb.NoData w p) : ∀ (l : List Tr) (b off : Nat), 0 < l.length → Tr.All w S l b off → b ≠ p
  | [], _, _, h0, _ => absurd h0 (Nat.lt_irrefl 0)
  | t :: ts, b, off, _, h => by
    rw [Tr.All_cons] at h
    obtain ⟨⟨C, hI, hM⟩, hr⟩ := h
    rintro rfl
    obtain ⟨u0, _, c0⟩ := hM 0 (by decide)
    obtain ⟨u1, _, c1⟩ := hM 10 (by decide)
    rw [Nat.add_zero] at c0
    rcases (hp off).2.2 with e | e
    · rw [e] at c0; cases c0
    · rw [e] at c1; cases c1
end
/-- A datum stays when the two blocks of a table change. -/
theorem Tr.In.tab {w w' : World} {p r : Nat} {t : Tr} {v : Value} (h : Tr.In w (fun _ => True) t v) (hp : Tb.NoData w p) (hr : Tb.NoData w r) (hs : w.heap.size ≤ w'.heap.size) (hk : ∀ q, q < w.heap.size → q ≠ p → q ≠ r → w'.heap[q]? = w.heap[q]?) : Tr.In w' (fun _ => True) t v := by
  have h1 := Tr.In.away hr t v (Tr.In.away hp t v h)
  exact Tr.In.mono (fun _ _ => trivial) _ _ (Tr.In.kept (S := fun q => (True ∧ q ≠ p) ∧ q ≠ r) ⟨hs, fun q hq hl => hk q hl hq.1.2 hq.2⟩ _ _ h1)

theorem Tb.lookup_empty (w : World) (r clock : Nat) (s : ByteArray) (hb : w.heap[r]? = some (.map #[] clock)) :
    (Instr.lookup 59 (.map (some r)) (.string s) true).run Tryz.prog w = .ok (.tuple #[.pointer none, .bool false]) w := by
  have hf : Instr.findNow .string (.string s) ([] : List MapEntry) 0 = some none := rfl
  have hc : (Instr.checkKey true 10000 9 (.string s)).run Tryz.prog w = .ok () w := MapKept.run_checkKey (k := .string s) Tryz.underlying9 (by simp [MapKept.IsKey]) true 9999
  simp [Instr.lookup, run_underlying Tryz.underlying59, MapKept.run_getObj_map hb, hc, MapKept.run_findKey Tryz.underlying9 hf, Result.andThen]
theorem Tb.lookup_one (w : World) (r clock born : Nat) (s : ByteArray) (v : Value) (hss : (s == s) = true) (hb : w.heap[r]? = some (.map #[{ key := .string s, val := v, born := born }] clock)) :
    (Instr.lookup 59 (.map (some r)) (.string s) true).run Tryz.prog w = .ok (.tuple #[v, .bool true]) w := by
  have hf : Instr.findNow .string (.string s) [({ key := .string s, val := v, born := born } : MapEntry)] 0 = some (some (0, v)) := by simp [Instr.findNow, Instr.sameNow, hss]
  have hc : (Instr.checkKey false 10000 9 (.string s)).run Tryz.prog w = .ok () w := MapKept.run_checkKey (k := .string s) Tryz.underlying9 (by simp [MapKept.IsKey]) false 9999
  simp [Instr.lookup, run_underlying Tryz.underlying59, MapKept.run_getObj_map hb, hc, MapKept.run_findKey Tryz.underlying9 hf, Result.andThen]
theorem Tb.update_first (w : World) (r clock : Nat) (s : ByteArray) (v : Value) (hb : w.heap[r]? = some (.map #[] clock)) :
    (Instr.mapUpdate 59 (.map (some r)) (.string s) v).run Tryz.prog w = .ok () { w with heap := w.heap.setIfInBounds r (.map #[{ key := .string s, val := v, born := clock }] (clock + 1)) } :=
  run_mapUpdate_first w 59 9 64 r clock s v Tryz.underlying59 Tryz.underlying9 hb

theorem Tb.len_map (w : World) (r clock : Nat) (es : Array MapEntry) (ty : TypeId) (hb : w.heap[r]? = some (.map es clock)) :
    (Builtin.len_ #[59] ty #[.map (some r)]).run Tryz.prog w = .ok (.int .i64 es.size) w := by
  simp [Builtin.len_, run_underlying Tryz.underlying59, MapKept.run_getObj_map hb, Result.andThen, goInt]
set_option maxHeartbeats 1000000 in
theorem Tb.new_any (k : Int) (hk : k = 1 ∨ k = 2 ∨ k = 3) (w : World) : Calls Tryz.prog 5 #[.int .i64 k] w fun e w' => e = .returned (.tuple #[.pointer (some ⟨w.heap.size + 1, 0, none⟩), .int .i64 0]) ∧ w'.heap[w.heap.size]? = some (.map #[] 0) ∧ w'.heap[w.heap.size + 1]? = some (.cells #[.int .i64 k, .int .i64 0, .map (some w.heap.size)] 61 (0, 0)) ∧ Below w.heap.size w w' := by
  have hmm := fun w => @run_makeMap Tryz.prog 59 w
  have hs : ∀ o, (w.alloc o).heap.size = w.heap.size + 1 := by intro o; simp
  rcases hk with rfl | rfl | rfl
  all_goals
    go_enter Tryz.func5, Tryz.ntmps5
    go_wp2
    go_ret2
    refine ⟨rfl, (Lib.alloc_old _ _ _ (by rw [hs]; omega)).trans (heap_alloc_new w _), ?_, ((Below.refl _ _).alloc (Nat.le_refl _) _).alloc (by rw [hs]; omega) _⟩
    first
    | (have := heap_alloc_new (w.alloc (.map #[] 0)) (.cells #[.int .i64 1, .int .i64 0, .map (some w.heap.size)] 61)
       rwa [hs] at this)
    | (have := heap_alloc_new (w.alloc (.map #[] 0)) (.cells #[.int .i64 2, .int .i64 0, .map (some w.heap.size)] 61)
       rwa [hs] at this)
    | (have := heap_alloc_new (w.alloc (.map #[] 0)) (.cells #[.int .i64 3, .int .i64 0, .map (some w.heap.size)] 61)
       rwa [hs] at this)
/-- The world in which the map r has one entry, that leads to x. -/
def Tb.upd (w : World) (r : Nat) (fs : ByteArray) (x : Nat) : World := { w with heap := w.heap.setIfInBounds r (.map #[{ key := .string fs, val := .pointer (some ⟨x, 0, none⟩), born := 0 }] 1) }
/-- The world behind a map's first entry. -/
theorem Tb.fin (W1 wB : World) (o : Obj) (fs : ByteArray) (r : Nat) (hacc : Below W1.heap.size W1 wB) (hr : r < W1.heap.size) :
    (Tb.upd (wB.alloc o) r fs wB.heap.size).heap[r]? = some (.map #[{ key := .string fs, val := .pointer (some ⟨wB.heap.size, 0, none⟩), born := 0 }] 1) ∧ (Tb.upd (wB.alloc o) r fs wB.heap.size).heap[wB.heap.size]? = some o ∧
      (∀ b, b ≠ r → b < wB.heap.size → (Tb.upd (wB.alloc o) r fs wB.heap.size).heap[b]? = wB.heap[b]?) ∧ wB.heap.size ≤ (Tb.upd (wB.alloc o) r fs wB.heap.size).heap.size ∧ (∀ (B : Nat) (w0 : World), Below B w0 W1 → B ≤ r → B ≤ W1.heap.size → Below B w0 (Tb.upd (wB.alloc o) r fs wB.heap.size)) := by
  have hs := hacc.size
  have hne : ∀ b, b ≠ r → (Tb.upd (wB.alloc o) r fs wB.heap.size).heap[b]? = (wB.alloc o).heap[b]? := fun b hb => by
    show ((wB.alloc o).heap.setIfInBounds r _)[b]? = _
    rw [Array.getElem?_setIfInBounds]
    simp [Ne.symm hb]
  refine ⟨?_, (hne _ (by omega)).trans (heap_alloc_new wB o), fun b hb hlt => (hne b hb).trans (Lib.alloc_old _ _ _ hlt), ?_, fun B w0 hB h1 h2 => ?_⟩
  · show ((wB.alloc o).heap.setIfInBounds r _)[r]? = _
    rw [Array.getElem?_setIfInBounds]
    simp
    omega
  · show _ ≤ ((wB.alloc o).heap.setIfInBounds r _).size
    simp
  · have h8 : Below B w0 (wB.alloc o) := (hB.trans (hacc.mono h2)).alloc (by omega) _
    exact h8.grown (row := some r) ⟨rfl, rfl, rfl, by show _ ≤ ((wB.alloc o).heap.setIfInBounds r _).size; simp, fun k _ hk => hne k (fun e => hk (by simp [e]))⟩ (by simp; omega) (fun k hk => by simp at hk; omega)

/-- An entry of a table's map: the key's name, the block that it leads to, and when it came into the map. -/
structure Tm.E where
  nm : ByteArray
  x : Nat
  born : Nat
def Tm.ent (e : Tm.E) : MapEntry := { key := .string e.nm, val := .pointer (some ⟨e.x, 0, none⟩), born := e.born }
def Tm.ents (L : List Tm.E) : List MapEntry := L.map Tm.ent
theorem Tm.map_erase {α β : Type} (f : α → β) : ∀ (l : List α) (j : Nat), (l.eraseIdx j).map f = (l.map f).eraseIdx j
  | [], _ => rfl
  | a :: l, 0 => rfl
  | a :: l, j + 1 => by
    rw [List.eraseIdx_cons_succ, List.map_cons, List.map_cons, List.eraseIdx_cons_succ, Tm.map_erase f l j]
/-- Where a name stands, and its block. -/
def Tm.pos : List Tm.E → ByteArray → Option (Nat × Nat)
  | [], _ => none
  | e :: es, s => if e.nm = s then some (0, e.x) else (Tm.pos es s).map fun q => (q.1 + 1, q.2)
theorem Tm.pos_none {L : List Tm.E} {s : ByteArray} : Tm.pos L s = none ↔ ∀ e ∈ L, e.nm ≠ s := by
  induction L with
  | nil => simp [Tm.pos]
  | cons e es ih =>
    rw [Tm.pos]
    split
    · rename_i h
      exact ⟨fun k => (by cases k), fun k => absurd h (k e (by simp))⟩
    · rename_i h
      rw [Option.map_eq_none_iff, ih]
      refine ⟨fun k x hx => ?_, fun k x hx => k x (by simp [hx])⟩
      rcases List.mem_cons.1 hx with rfl | hx
      · exact h
      · exact k x hx
theorem Tm.pos_some {L : List Tm.E} {s : ByteArray} {j x : Nat} (h : Tm.pos L s = some (j, x)) : ∃ b, L[j]? = some ⟨s, x, b⟩ := by
  induction L generalizing j with
  | nil => simp [Tm.pos] at h
  | cons e es ih =>
    rw [Tm.pos] at h
    split at h
    · rename_i he
      simp only [Option.some.injEq, Prod.mk.injEq] at h
      obtain ⟨rfl, rfl⟩ := h
      exact ⟨e.born, by cases e; simp_all⟩
    · simp only [Option.map_eq_some_iff, Prod.mk.injEq] at h
      obtain ⟨q, hq, rfl, rfl⟩ := h
      obtain ⟨b, hb⟩ := ih hq
      exact ⟨b, by simpa using hb⟩
theorem Tm.findNow (s : ByteArray) : ∀ (L : List Tm.E) (i : Nat), Instr.findNow .string (.string s) (Tm.ents L) i = some ((Tm.pos L s).map fun q => (i + q.1, .pointer (some ⟨q.2, 0, none⟩)))
  | [], i => rfl
  | e :: es, i => by
    show (match Instr.sameNow .string (.string s) (.string e.nm) with | some true => _ | some false => _ | none => none) = _
    have hs : Instr.sameNow .string (.string s) (.string e.nm) = some (s == e.nm) := rfl
    rw [hs, Tm.pos]
    by_cases h : e.nm = s
    · rw [if_pos h, (MapKept.bytes_beq s e.nm).2 h.symm]
      rfl
    · rw [if_neg h]
      have hb : (s == e.nm) = false := by
        cases hc : (s == e.nm) with
        | false => rfl
        | true => exact absurd ((MapKept.bytes_beq s e.nm).1 hc).symm h
      rw [hb]
      show Instr.findNow .string (.string s) (Tm.ents es) (i + 1) = _
      rw [Tm.findNow s es (i + 1)]
      cases Tm.pos es s with
      | none => rfl
      | some q => simp [Nat.add_assoc, Nat.add_comm 1]
theorem Tm.checkKey (w : World) (s : ByteArray) (b : Bool) : (Instr.checkKey b 10000 9 (.string s)).run Tryz.prog w = .ok () w := MapKept.run_checkKey (k := .string s) Tryz.underlying9 (by simp [MapKept.IsKey]) b 9999
theorem Tm.look (w : World) (r clock : Nat) (es : Array MapEntry) (L : List Tm.E) (s : ByteArray) (he : es.toList = Tm.ents L) (hb : w.heap[r]? = some (.map es clock)) :
    (Instr.lookup 59 (.map (some r)) (.string s) true).run Tryz.prog w = .ok (.tuple #[.pointer ((Tm.pos L s).map fun q => ⟨q.2, 0, none⟩), .bool (Tm.pos L s).isSome]) w := by
  have hf := Tm.findNow s L 0
  rw [← he] at hf
  have hc := Tm.checkKey w s es.isEmpty
  cases hp : Tm.pos L s with
  | none =>
    rw [hp] at hf
    simp [Instr.lookup, run_underlying Tryz.underlying59, MapKept.run_getObj_map hb, hc, MapKept.run_findKey Tryz.underlying9 hf, Result.andThen]
  | some q =>
    rw [hp] at hf
    simp [Instr.lookup, run_underlying Tryz.underlying59, MapKept.run_getObj_map hb, hc, MapKept.run_findKey Tryz.underlying9 hf, Result.andThen]
theorem Tm.update (w : World) (r clock : Nat) (es : Array MapEntry) (L : List Tm.E) (s : ByteArray) (v : Value) (he : es.toList = Tm.ents L) (hn : Tm.pos L s = none) (hb : w.heap[r]? = some (.map es clock)) :
    (Instr.mapUpdate 59 (.map (some r)) (.string s) v).run Tryz.prog w = .ok () { w with heap := w.heap.setIfInBounds r (.map (es.push { key := .string s, val := v, born := clock }) (clock + 1)) } := by
  have hf := Tm.findNow s L 0
  rw [← he, hn] at hf
  have hc := Tm.checkKey w s false
  simp [Instr.mapUpdate, run_underlying Tryz.underlying59, MapKept.run_getObj_map hb, hc, MapKept.run_findKey Tryz.underlying9 hf, MapKept.run_setObj_map _ hb, Result.andThen]
theorem Tm.delete (w : World) (r clock j x : Nat) (es : Array MapEntry) (L : List Tm.E) (s : ByteArray) (ty : TypeId) (he : es.toList = Tm.ents L) (hn : Tm.pos L s = some (j, x)) (hb : w.heap[r]? = some (.map es clock)) :
    (Builtin.delete_ #[59, 9] ty #[.map (some r), .string s]).run Tryz.prog w = .ok (.tuple #[]) { w with heap := w.heap.setIfInBounds r (.map (es.eraseIdxIfInBounds j) clock) } := by
  have hf := Tm.findNow s L 0
  rw [← he, hn] at hf
  have hc := Tm.checkKey w s es.isEmpty
  simp [Builtin.delete_, run_underlying Tryz.underlying59, MapKept.run_getObj_map hb, hc, MapKept.run_findKey Tryz.underlying9 hf, MapKept.run_setObj_map _ hb, Result.andThen]
theorem Tm.push {es : Array MapEntry} {L : List Tm.E} (he : es.toList = Tm.ents L) (s : ByteArray) (x clock : Nat) : (es.push { key := .string s, val := .pointer (some ⟨x, 0, none⟩), born := clock }).toList = Tm.ents (L ++ [⟨s, x, clock⟩]) := by
  rw [Array.toList_push, he]
  unfold Tm.ents
  rw [List.map_append]
  rfl
theorem Tm.erase {es : Array MapEntry} {L : List Tm.E} (he : es.toList = Tm.ents L) {j : Nat} (hj : j < L.length) : (es.eraseIdxIfInBounds j).toList = Tm.ents (L.eraseIdx j) := by
  have hs : j < es.size := by
    have : es.toList.length = L.length := by rw [he]; simp [Tm.ents]
    rw [Array.length_toList] at this
    omega
  unfold Array.eraseIdxIfInBounds
  rw [dif_pos hs, Array.toList_eraseIdx, he]
  unfold Tm.ents
  rw [Tm.map_erase]
theorem Tm.size {es : Array MapEntry} {L : List Tm.E} (he : es.toList = Tm.ents L) : es.size = L.length := by
  have : es.toList.length = L.length := by rw [he]; simp [Tm.ents]
  rwa [Array.length_toList] at this

theorem Tx.norm_fr (ws : List Nat) (b off l cap : Nat) (w : World) (h : Nt.In w (.slice (some ⟨b, off, none⟩) l cap) ws) (hw : Nt.Wd ws) (hl : ws.length ≤ 4611686018427387904) : Calls Tryz.prog 91 #[.slice (some ⟨b, off, none⟩) l cap] w fun e w' => ∃ v', e = .returned v' ∧ Nt.N w' v' (Nt.val ws) ∧ Nt.Fr b v' ∧ Below w.heap.size w w' := by
  obtain ⟨ad, cap2, e⟩ := h.slice
  simp only [Value.slice.injEq] at e
  obtain ⟨rfl, rfl, rfl⟩ := e
  refine (Nt.norm_eq ws _ cap w h hw hl).mono fun e w' ⟨he, hb⟩ => ⟨_, he, ?_, ?_, hb⟩
  · unfold Nt.N
    have := (h.below hb (Nat.le_refl _)).takeN _ (Nt.take_dig hw).1
    rwa [(Nt.take_dig hw).2] at this
  · intro b2 off2 l2 c2 e2
    simp only [Value.slice.injEq, Option.some.injEq, Addr.mk.injEq] at e2
    omega
set_option maxHeartbeats 4000000 in
set_option maxRecDepth 1000000 in
theorem Tx.short_fr (a : List Nat) (d : Nat) (v : Value) (w : World) (h : Nt.In w v a) (ha : Nt.Wd a) (hl : a.length ≤ 500000) (hd0 : 0 < d) (hd : d < 4294967296) : Calls Tryz.prog 121 #[v, .int .u32 d] w fun e w' => ∃ v', e = .returned (.tuple #[v', .int .u32 (Nt.val a % d : Nat)]) ∧ Nt.N w' v' (Nt.val a / d) ∧ Nt.Fr w.heap.size v' ∧ Below w.heap.size w w' := by
  obtain ⟨ad, cap, rfl⟩ := h.slice
  have H := Lib.hid h
  have HA := Lib.hid ha
  have hmk := Nt.make a.length w (by omega)
  clear h ha
  obtain ⟨T, hT⟩ : ∃ T, w.heap.size = T := ⟨_, rfl⟩
  obtain ⟨w2, hw2⟩ : ∃ z, w.alloc (.cells (Nt.row (List.replicate a.length 0)) 104) = z := ⟨_, rfl⟩
  have q2 : w2.heap[T]? = some (.cells (Nt.row (List.replicate a.length 0)) 104 (0, 0)) := by rw [← hw2, ← hT]; exact heap_alloc_new w _
  have hb2 : Below w.heap.size w w2 := hw2 ▸ (Below.refl _ _).alloc (Nat.le_refl _) _
  rw [hT, hw2] at hmk
  have HT := Lib.hid hT
  have HB2 := Lib.hid hb2
  have HQ2 := Lib.hid q2
  clear hT hw2 hb2 q2
  go_enter Tryz.func121, Tryz.ntmps121
  go_wp2_with fail
  go_loopw [7, 8] (fun rv i wr => ∃ (k r : Nat) (ws : List Nat), i = .int .i64 ((k : Int) - 1) ∧ rv = .int .u64 r ∧ k ≤ a.length ∧ r < d ∧ ws.length = a.length ∧ Nt.Wd ws ∧ Nt.val (a.drop k) = d * Nt.val (ws.drop k) + r ∧ wr.heap[T]? = some (.cells (Nt.row ws) 104 (0, 0)) ∧ Below w.heap.size w wr) (fun _ i _ => (intOf i + 1).toNat)
  case atStart => exact ⟨a.length, 0, List.replicate a.length 0, by first | rfl | go_num | (simp; try omega), rfl, Nat.le_refl _, hd0, by simp, Nt.Wd.zeros _, by rw [List.drop_length, List.drop_eq_nil_of_le (by simp)]; simp [Nt.val], HQ2.out, HB2.out⟩
  case round =>
    obtain ⟨k, r, ws, rfl, rfl, hk, hr, hwl, hwd, hval, hq, hbw⟩ := hrel
    obtain ⟨wo, hwo⟩ : ∃ z, z = wr := ⟨_, rfl⟩
    subst hwo
    have HWD := Lib.hid hwd
    have HV := Lib.hid hval
    have HQ := Lib.hid hq
    have HBW := Lib.hid hbw
    have HWL := Lib.hid hwl
    clear hwd hval hq hbw hwl
    rcases k with _ | k
    · have hval := HV.out
      rw [List.drop_zero, List.drop_zero] at hval
      have hq : Nt.val ws = Nt.val a / d := by
        rw [hval, Nat.mul_add_div hd0, Nat.div_eq_of_lt hr, Nat.add_zero]
      have hm : r = Nt.val a % d := by
        rw [hval, Nat.mul_add_mod, Nat.mod_eq_of_lt hr]
      have hin : Nt.In wo (.slice (some ⟨T, 0, none⟩) a.length a.length) ws := by
        have := Nt.In.of_row HQ.out
        rw [HWL.out] at this
        exact this
      have KN := Tx.norm_fr ws T 0 _ _ wo hin HWD.out (by have := HWL.out; omega)
      rw [hq] at KN
      have HM := Lib.hid hm
      have hrw : (r : Int) % 4294967296 = (r : Int) := by omega
      clear hval hq hm hin
      go_wp2_with fail
      refine KN.mono ?_
      rintro z w8 ⟨v8, rfl, hn8, hf8, hb8⟩
      have HN8 := Lib.hid (And.intro hn8 hf8)
      have HB8 := Lib.hid (HBW.out.trans (hb8.mono HBW.out.size))
      clear hn8 hf8 hb8
      go_wp2_with fail
      go_ret2
      exact ⟨_, by rw [← HM.out]; rfl, HN8.out.1, HN8.out.2.mono (by rw [HT.out]; exact Nat.le_refl _), HB8.out⟩
    · have hk1 : (((k + 1 : Nat) : Int) - 1) = (k : Int) := by omega
      rw [hk1]
      have hkk : k < a.length := by omega
      obtain ⟨b1, o1, rfl, _, hcap1, hbl1, hcell1⟩ := (H.out.below HBW.out (Nat.le_refl _)).at (by omega)
      have c1 := hcell1 k hkk
      have hxb := HA.out.getD k
      have hstep := Nt.short_step (a := a) (ws := ws) (i := k) (r := r) (d := d) HV.out hd0 hkk (by have := HWL.out; omega)
      have hqlt := Nt.short_lt (a := a.getD k 0) (r := r) (d := d) hxb hr
      have HSTEP := Lib.hid hstep
      clear hcell1 hstep
      generalize a.getD k 0 = x at *
      have hj := Nt.join64 r x (by omega) hxb
      obtain ⟨N, hN⟩ : ∃ N, 4294967296 * r + x = N := ⟨_, rfl⟩
      rw [hN] at HSTEP hqlt hj
      have hNl : N < 18446744073709551616 := by omega
      have hsh : ((r : Int) * 4294967296) % 18446744073709551616 = (r : Int) * 4294967296 := by omega
      obtain ⟨q, hq⟩ : ∃ q, N / d = q := ⟨_, rfl⟩
      obtain ⟨m, hm⟩ : ∃ m, N % d = m := ⟨_, rfl⟩
      rw [hq] at HSTEP hqlt
      rw [hm] at HSTEP
      have hml : m < d := hm ▸ Nat.mod_lt _ hd0
      have hqI : (N : Int) / (d : Int) = (q : Int) := by rw [← hq]; rfl
      have hmI : (N : Int) % (d : Int) = (m : Int) := by rw [← hm]; rfl
      have hqw : (q : Int) % 4294967296 = (q : Int) := by omega
      obtain ⟨W, hW, e1, e2, hQ9, hB9, hS9⟩ := Nt.store HQ.out k q (by have := HWL.out; omega) HBW.out (by have := HT.out; omega)
      have hdz : ((d : Int) == 0) = false := by simp; omega
      have HQL := Lib.hid hqlt
      have HQ9 := Lib.hid hQ9
      have HB9 := Lib.hid hB9
      have HML := Lib.hid hml
      clear hN hq hm hqlt hQ9 hB9 hml hS9
      go_wp2_with fail
      go_roundw
      case rel => exact ⟨k, m, _, by first | rfl | go_num | (simp; try omega), by first | rfl | rw [hmI], by omega, HML.out, by rw [List.length_set]; exact HWL.out, HWD.out.set _ _ HQL.out, HSTEP.out, HQ9.out, HB9.out⟩
      case measure => simp [intOf]

/-- The digit of d, less than 10. -/
def Tx.dg (d : Nat) : UInt8 := UInt8.ofNat (48 + d)
/-- A number's digits, the lowest first, at least one. -/
def Tx.lo (n : Nat) : List UInt8 := if h : n < 10 then [Tx.dg n] else Tx.dg (n % 10) :: Tx.lo (n / 10)
termination_by n
decreasing_by omega
def Tx.dec (n : Nat) : List UInt8 := (Tx.lo n).reverse
theorem Tx.lo_small {n : Nat} (h : n < 10) : Tx.lo n = [Tx.dg n] := by rw [Tx.lo, dif_pos h]
theorem Tx.lo_big {n : Nat} (h : ¬ n < 10) : Tx.lo n = Tx.dg (n % 10) :: Tx.lo (n / 10) := by rw [Tx.lo, dif_neg h]
theorem Tx.lo_pos (n : Nat) : 0 < (Tx.lo n).length := by
  by_cases h : n < 10
  · rw [Tx.lo_small h]; simp
  · rw [Tx.lo_big h]; simp
theorem Tx.lo_len : ∀ (k n : Nat), n < 2 ^ k → (Tx.lo n).length ≤ k + 1
  | 0, n, h => by
    rw [Tx.lo_small (by simp at h; omega)]
    simp
  | k + 1, n, h => by
    by_cases h10 : n < 10
    · rw [Tx.lo_small h10]; simp
    · rw [Tx.lo_big h10, List.length_cons]
      have := Tx.lo_len k (n / 10) (by
        rw [Nat.pow_succ] at h
        omega)
      omega
theorem Tx.lo_len_dig {n k : Nat} (h : (Nt.dig n).length ≤ k) : (Tx.lo n).length ≤ 32 * k + 1 := Tx.lo_len (32 * k) n (by
  refine Nat.lt_of_lt_of_le (Nt.dig_lt_pow n) ?_
  refine Nat.le_trans (Nat.pow_le_pow_right (by decide) h) ?_
  have e : (2 : Nat) ^ 32 = 4294967296 := by decide
  rw [Nat.pow_mul, e]
  exact Nat.le_refl _)
theorem Tx.dg_inj {a b : Nat} (ha : a < 10) (hb : b < 10) (h : Tx.dg a = Tx.dg b) : a = b := by
  have h2 : (Tx.dg a).toNat = (Tx.dg b).toNat := by rw [h]
  unfold Tx.dg at h2
  simp only [UInt8.toNat_ofNat'] at h2
  omega
theorem Tx.lo_inj : ∀ (a b : Nat), Tx.lo a = Tx.lo b → a = b := by
  intro a
  induction a using Nat.strongRecOn with
  | ind a ih =>
    intro b h
    by_cases ha : a < 10
    · by_cases hb : b < 10
      · rw [Tx.lo_small ha, Tx.lo_small hb] at h
        simp only [List.cons.injEq, and_true] at h
        exact Tx.dg_inj ha hb h
      · rw [Tx.lo_small ha, Tx.lo_big hb] at h
        simp only [List.cons.injEq] at h
        have := Tx.lo_pos (b / 10)
        rw [← h.2] at this
        simp at this
    · by_cases hb : b < 10
      · rw [Tx.lo_big ha, Tx.lo_small hb] at h
        simp only [List.cons.injEq] at h
        have := Tx.lo_pos (a / 10)
        rw [h.2] at this
        simp at this
      · rw [Tx.lo_big ha, Tx.lo_big hb] at h
        simp only [List.cons.injEq] at h
        have h1 := Tx.dg_inj (Nat.mod_lt _ (by decide)) (Nat.mod_lt _ (by decide)) h.1
        have h2 := ih (a / 10) (by omega) (b / 10) h.2
        omega
theorem Tx.dec_inj {a b : Nat} (h : Tx.dec a = Tx.dec b) : a = b := Tx.lo_inj a b (List.reverse_inj.1 h)
end Go.Proofs.YtdjllmogejkimaaGreatDoor
namespace Go.Proofs.YtdjllmogejkimaaGreatDoor
open Go.RowKit Go.Lib Go.Sort

def Tx.enc (n : Int) : Value := .int .u8 n
set_option maxHeartbeats 2000000 in
set_option maxRecDepth 1000000 in
theorem Tx.Reverse_arr (blk off cap : Nat) (d : Array Int) (w : World) (hH : Holds Tx.enc w blk off d) (hsz : d.size ≤ 9223372036854775807) :
    Calls Tryz.prog 130 #[.slice (some ⟨blk, off, none⟩) d.size cap] w fun e w' => e = .returned (.tuple #[]) ∧ ∃ n, w' = putRow Tx.enc (Sort.ahead w n) blk off d.reverse := by
  go_enter Tryz.func130, Tryz.ntmps130
  go_wp2
  go_loopg [2, 3] d.size (fun k s2 s3 wr => ∃ (i jn : Nat) (jz : Int) (dk : Array Int) (n : Nat), s2 = .int .i64 i ∧ s3 = .int .i64 jz ∧ ((i : Int) < jz → jz = jn ∧ jn < d.size) ∧ (¬ (i : Int) < jz → ¬ i < jn) ∧ jn - i ≤ k ∧
    dk.size = d.size ∧ wr = putRow Tx.enc (Sort.ahead w n) blk off dk ∧ reverseLoop i jn dk = reverseLoop 0 (d.size - 1) d)
  case atStart => exact ⟨0, d.size - 1, (d.size : Int) - 1, d, 0, rfl, by first | rfl | go_num | (simp; try omega), fun h => ⟨by omega, by omega⟩, fun h => by omega, by omega, rfl, (putRow_self Tx.enc w blk off d hH).symm, rfl⟩
  case round =>
    obtain ⟨i, jn, jz, dk, n, rfl, rfl, h1, h2, hk, hds, hwr, heq⟩ := hrel
    by_cases hlt : (i : Int) < jz
    · obtain ⟨rfl, hjn⟩ := h1 hlt
      have hij : i < jn := by omega
      have hHk : Holds Tx.enc wr blk off dk := by rw [hwr]; exact holds_putRow Tx.enc _ blk off d dk (holds_ahead Tx.enc w n blk off d hH) hds
      obtain ⟨ci, fi⟩ := hHk i (by omega)
      obtain ⟨cj, fj⟩ := hHk jn (by omega)
      have A := Lib.hid (show wr = putRow Tx.enc (Sort.ahead w n) blk off dk from hwr)
      have q1 : ((i : Int) < (d.size : Int)) := by omega
      have q2 : ((jn : Int) < (d.size : Int)) := by omega
      clear hwr hHk hH h1 h2
      unfold Tx.enc at ci cj
      go_wp2_with fail
      go_region
      go_wp2
      go_roundg (jn - 1 - (i + 1))
      case measure => omega
      case rel =>
        rw [reverseLoop, if_pos hij] at heq
        exact ⟨i + 1, jn - 1, (jn : Int) - 1, swp dk i jn, n + 1, by first | rfl | go_num | (simp; try omega), by first | rfl | go_num | (simp; try omega), fun h => ⟨by omega, by omega⟩, fun h => by omega, Nat.le_refl _, by rw [size_swp]; exact hds,
          swap_world Tx.enc (by omega) (by omega) A.out (by first | rfl | simp [Tx.enc, getElem!_pos, show jn < dk.size by omega]) (by first | rfl | simp [Tx.enc, getElem!_pos, show i < dk.size by omega]), heq⟩
    · have hnot := h2 hlt
      go_wp2
      go_end0
      refine ⟨rfl, n, ?_⟩
      rw [reverseLoop, if_neg hnot] at heq
      rw [← Lib.reverseLoop_reverse, ← heq]
theorem Tx.Reverse_own (l : List UInt8) (v : Value) (w : World) (B : Nat) (h : w.ownsRow B 5 1 v l.length (By.bv l)) (h0 : 0 < l.length) :
    Calls Tryz.prog 130 #[v] w fun e w' => e = .returned (.tuple #[]) ∧ w'.ownsRow B 5 1 v l.length (By.bv l.reverse) ∧ w.grownBy w' v.ownBlock := by
  obtain ⟨hlen, h⟩ := h
  rcases h with ⟨_, e⟩ | ⟨g, cap, cur, rfl, hB, hg, hnc, hcm, hcs, htake⟩
  · omega
  have key : ∀ (j : Nat) (hj : j < l.length), cur[j]? = some (.int .u8 (l[j].toNat : Nat)) := by
    intro j hj
    have e1 : (cur.toList.take (l.length * 1))[j]? = (By.bv l)[j]? := by rw [htake]
    rw [List.getElem?_take, if_pos (by omega), Array.getElem?_toList] at e1
    rw [e1]
    simp [By.bv, hj]
  obtain ⟨d, hd⟩ : ∃ d : Array Int, d = (l.map (fun b => (b.toNat : Int))).toArray := ⟨_, rfl⟩
  have hds : d.size = l.length := by rw [hd]; simp
  have hda : ∀ (j : Nat) (hj : j < l.length), d[j]! = (l[j].toNat : Int) := by
    intro j hj
    rw [hd, getElem!_pos _ j (by simpa using hj)]
    simp
  have hH : Holds Tx.enc w g 0 d := by
    intro j hj
    rw [hds] at hj
    refine ⟨?_, by simp [World.frozen?, hg]⟩
    rw [hda j hj]
    have : w.cell? ⟨g, 0 + j, none⟩ = cur[0 + j]? := by simp [World.cell?, hg]
    rw [this, Nat.zero_add, key j hj]
    rfl
  have K := Tx.Reverse_arr g 0 cap d w hH (by rw [hds]; simp only [maxLen] at hcm; omega)
  rw [hds] at K
  refine K.mono ?_
  rintro e w' ⟨rfl, n, rfl⟩
  have hg' : (putRow Tx.enc (Sort.ahead w n) g 0 d.reverse).heap[g]? = some (.cells (putCells Tx.enc 0 d.reverse cur) 5 (0, 0)) := by
    show (w.heap.modify g _)[g]? = _
    rw [Array.getElem?_modify, if_pos rfl, hg]
    rfl
  refine ⟨rfl, ⟨by simp [By.bv], .inr ⟨g, cap, _, rfl, hB, hg', hnc, hcm, ?_, ?_⟩⟩, ?_⟩
  · simp [putCells, hcs]
  · apply List.ext_getElem?
    intro k
    rw [List.getElem?_take]
    by_cases hk : k < l.length
    · rw [if_pos (by omega), Array.getElem?_toList]
      have e1 : (putCells Tx.enc 0 d.reverse cur)[k]? = some (Tx.enc d.reverse[k]!) := by
        unfold putCells
        rw [Array.getElem?_mapIdx, key k hk]
        simp [hds, hk]
      rw [e1, getElem!_pos _ k (by simpa [hds] using hk)]
      have e2 : d.reverse[k]'(by simpa [hds] using hk) = (l.reverse[k]'(by simpa using hk)).toNat := by
        subst hd
        simp
      rw [e2]
      simp [By.bv, hk, Tx.enc]
    · rw [if_neg (by omega)]
      simp [By.bv]
      omega
  · refine ⟨rfl, rfl, rfl, by simp, fun k hk hne => ?_⟩
    show (w.heap.modify g _)[k]? = _
    rw [Array.getElem?_modify, if_neg]
    intro e
    subst e
    exact hne rfl
end Go.Proofs.YtdjllmogejkimaaGreatDoor
namespace Go.Proofs.YtdjllmogejkimaaGreatDoor
open Go.RowKit

theorem Tx.infoByte : (Tryz.prog.info? 5).map (fun i => (i.zero, i.size, i.bytes)) = some (some (.int .u8 0), 1, 1) := by kernel_rfl
set_option maxHeartbeats 2000000 in
set_option maxRecDepth 1000000 in
theorem Tx.check1 (ws : List Nat) (B : Nat) (ad : Option Addr) (cap : Nat) (w : World) (h : w.heap[B]? = some (.cells #[.slice ad ws.length cap] 30 (0, 0))) (hI : Nt.In w (.slice ad ws.length cap) ws) (hw : Nt.Wd ws) (hs : Nt.sound ws = true) :
    Calls Tryz.prog 129 #[.slice (some ⟨B, 0, none⟩) 1 1] w fun e w' => e = .returned (.int .i64 0) ∧ Below w.heap.size w w' := by
  have hl := (Nt.sound_eq hw hs).2
  have c0 : w.cell? ⟨B, 0, none⟩ = some (.slice ad ws.length cap) := Rt.cell_of h 0
  have KS := Nt.Sound_same ws _ w hI hw (by omega)
  rw [hs] at KS
  clear h hI hw hs
  go_enter Tryz.func129, Tryz.ntmps129
  go_wp2_with fail
  go_loopg [7] 1 (fun g i wr => ∃ k : Nat, k + g = 1 ∧ i = .int .i64 k ∧ wr = w)
  case atStart => exact ⟨0, rfl, rfl, rfl⟩
  case round =>
    obtain ⟨k, hk, rfl, rfl⟩ := hrel
    rcases (show k = 0 ∨ k = 1 by omega) with rfl | rfl
    · go_wp2_with fail
      refine KS.mono ?_
      rintro x w1 ⟨rfl, hw1⟩
      subst hw1
      go_wp2_with fail
      go_roundg 0
      case measure => omega
      case rel => exact ⟨1, rfl, by first | rfl | go_num | (simp; try omega), rfl⟩
    · go_wp2_with fail
      go_ret
      exact ⟨rfl, Below.refl _ _⟩
theorem Tx.own_slice {w : World} {base n size : Nat} {e : TypeId} {v : Value} {xs : List Value} (h : w.ownsRow base e size v n xs) : ∃ ad cap, v = .slice ad n cap := by
  rcases h.2 with ⟨rfl, rfl⟩ | ⟨g, cap, _, rfl, _⟩
  · exact ⟨_, _, rfl⟩
  · exact ⟨_, _, rfl⟩
theorem Tx.in_grown {w w' : World} {v : Value} {ws : List Nat} {row : Option Nat} (h : Nt.In w v ws) (hg : w.grownBy w' row) (hne : ∀ b off l c, v = .slice (some ⟨b, off, none⟩) l c → some b ≠ row) : Nt.In w' v ws := by
  rcases h with h | h | ⟨h0, b, off, cap, hv, hc, hl, hcell⟩
  · exact .inl h
  · exact .inr (.inl h)
  · exact .inr (.inr ⟨h0, b, off, cap, hv, hc, Nat.lt_of_lt_of_le hl hg.size, fun j hj => hg.cell (hcell j hj) (hne b off _ _ hv)⟩)
set_option maxHeartbeats 2000000 in
set_option maxRecDepth 1000000 in
theorem Tx.Text_any (n : Nat) (v : Value) (w : World) (h : Nt.N w v n) (hl : (Nt.dig n).length ≤ 512) :
    Calls Tryz.prog 92 #[v, .int .i64 10] w fun e w' => e = .returned (.tuple #[.string ⟨(Tx.dec n).toArray⟩, .int .i64 0]) ∧ Below w.heap.size w w' := by
  obtain ⟨ad, cap, rfl⟩ := Nt.In.slice h
  have hb0 : ∀ o, Below w.heap.size w (w.alloc o) := fun o => (Below.refl _ _).alloc (Nat.le_refl _) o
  have KC := Tx.check1 (Nt.dig n) w.heap.size ad cap (w.alloc (.cells #[.slice ad (Nt.dig n).length cap] 30)) (heap_alloc_new w _) (Nt.In.below h (hb0 _) (Nat.le_refl _)) (Nt.dig_wd n) (by rw [Nt.sound_dig]; exact decide_eq_true hl)
  have HB0 := Lib.hid (hb0 (.cells #[.slice ad (Nt.dig n).length cap] 30))
  have HN := Lib.hid h
  have HLO := Lib.hid (Tx.lo_len_dig hl)
  obtain ⟨i0, hi, hz0, hz1, hz2⟩ := info_parts Tx.infoByte
  clear h hb0
  go_enter Tryz.func92, Tryz.ntmps92
  go_wp2_with fail
  refine KC.mono ?_
  rintro x w1 ⟨rfl, hb1⟩
  have HB1 := Lib.hid (HB0.out.trans (hb1.mono HB0.out.size))
  clear hb1 KC
  go_wp2_with fail
  go_loopg [0, 7] (Tx.lo n).length (fun g a o wr => ∃ (cur : Nat) (out : List UInt8), Nt.N wr a cur ∧ wr.ownsRow w.heap.size 5 1 o out.length (By.bv out) ∧ Below w.heap.size w wr ∧ cur ≤ n ∧ ((g = 0 ∧ cur = 0 ∧ out = Tx.lo n) ∨ (g = (Tx.lo cur).length ∧ out ++ Tx.lo cur = Tx.lo n ∧ (out = [] ∨ 0 < cur))))
  case atStart => exact ⟨n, [], Nt.In.below HN.out HB1.out (Nat.le_refl _), World.ownsRow_nil _ _ _ _, HB1.out, Nat.le_refl _, .inr ⟨rfl, rfl, .inl rfl⟩⟩
  case round =>
    obtain ⟨cur, out, hN, hown, hbw, hcn, hst⟩ := hrel
    obtain ⟨wo, hwo⟩ : ∃ z, z = wr := ⟨_, rfl⟩
    subst hwo
    obtain ⟨aa, ac, hv⟩ := Nt.In.slice hN
    obtain ⟨L, hL⟩ : ∃ z, z = (Nt.dig cur).length := ⟨_, rfl⟩
    rw [← hL] at hv
    subst hv
    obtain ⟨oa, oc, hv⟩ := Tx.own_slice hown
    obtain ⟨K, hK⟩ : ∃ z, z = out.length := ⟨_, rfl⟩
    rw [← hK] at hv hown
    subst hv
    have HKK := Lib.hid hK
    have HNN := Lib.hid hN
    have HOWN := Lib.hid hown
    have HBW := Lib.hid hbw
    have hlc : (Nt.dig cur).length ≤ 512 := Nat.le_trans (Nt.dig_len_mono hcn) hl
    have hol : out.length ≤ 16385 := by
      have := HLO.out
      rcases hst with ⟨_, _, e⟩ | ⟨_, e, _⟩
      · rw [e]; exact this
      · rw [← e, List.length_append] at this; omega
    clear hN hown hbw
    rcases hst with ⟨hg, hc0, hout⟩ | ⟨hg, hout, hor⟩
    · subst hc0
      have hd0 : L = 0 := by rw [hL, Nt.dig_zero]; rfl
      subst hd0
      clear hL hlc
      have hop : 0 < out.length := by rw [hout]; exact Tx.lo_pos n
      have KR := Tx.Reverse_own out _ wo w.heap.size (by rw [← hK]; exact HOWN.out) hop
      rw [← hK] at KR hop hol
      have HOUT := Lib.hid hout
      have hne : ((K : Int) == 0) = false := beq_eq_false_iff_ne.2 (by omega)
      clear hout hK
      go_wp2_with fail
      refine KR.mono ?_
      rintro x w5 ⟨rfl, hown5, hg5⟩
      have HB5 := Lib.hid (Sl.below_own HBW.out HOWN.out hg5 (Nat.le_refl _) HBW.out.size)
      have hcv : (convert 22 9 (.slice oa K oc)).run Tryz.prog w5 = .ok (.string ⟨(Tx.dec n).toArray⟩) w5 := by
        rcases hown5.2 with ⟨_, e⟩ | ⟨g, c, cu, hv, _⟩
        · omega
        · simp only [Value.slice.injEq] at hv
          obtain ⟨rfl, _, rfl⟩ := hv
          have h2 := World.ownsRow.cells hown5 (g := g) rfl
          have h3 := run_convert_bytes_back (P := Tryz.prog) w5 22 9 5 ⟨g, 0, none⟩ oc out.reverse Tryz.underlying22 Tryz.underlying5 Tryz.underlying9 (fun j hj => h2 j _ (by
            unfold By.bv
            rw [List.getElem?_map, List.getElem?_eq_getElem hj]
            rfl))
          rw [List.length_reverse, ← HKK.out] at h3
          rw [h3, HOUT.out]
          rfl
      clear hown5 hg5 KR
      go_wp2_with fail
      go_ret2
      exact ⟨rfl, HB5.out⟩
    · have KS := Tx.short_fr (Nt.dig cur) 10 _ wo HNN.out (Nt.dig_wd cur) (by omega) (by decide) (by decide)
      rw [Nt.val_dig] at KS
      have hol2 : K < 16386 := by
        rw [hK]
        have := HLO.out
        rw [← hout, List.length_append] at this
        have := Tx.lo_pos cur
        omega
      have HST := Lib.hid (And.intro hg (And.intro hout hor))
      have hgo : ((L : Int) > 0) ∨ (L = 0 ∧ K = 0) := by
        rw [hL]
        rcases Nat.eq_zero_or_pos cur with h0 | h0
        · refine .inr ⟨?_, ?_⟩
          · rw [h0, Nt.dig_zero]; rfl
          · rcases hor with h | h
            · rw [hK, h]; rfl
            · omega
        · have := Nt.dig_len_pos.2 h0
          exact .inl (by omega)
      obtain ⟨r, hr⟩ : ∃ z, z = cur % 10 := ⟨_, rfl⟩
      have hr10 : r < 10 := by rw [hr]; exact Nat.mod_lt _ (by decide)
      rw [← hr] at KS
      have HR := Lib.hid hr
      clear hg hout hor hr hL hlc hK
      have FIN : Hid (∀ (o' : Value) (vq : Value) (w9 : World) (g0 : Nat), Nt.N w9 vq (cur / 10) → w9.ownsRow w.heap.size 5 1 o' (K + 1) (By.bv out ++ [.int .u8 ((48 + r : Nat) : Int)]) → Below w.heap.size w w9 →
          ∃ g', g' < gk ∧ ∃ (cur' : Nat) (out' : List UInt8), Nt.N w9 vq cur' ∧ w9.ownsRow w.heap.size 5 1 o' out'.length (By.bv out') ∧ Below w.heap.size w w9 ∧ cur' ≤ n ∧ ((g' = 0 ∧ cur' = 0 ∧ out' = Tx.lo n) ∨ (g' = (Tx.lo cur').length ∧ out' ++ Tx.lo cur' = Tx.lo n ∧ (out' = [] ∨ 0 < cur')))) := Lib.hid (fun o' vq w9 g0 a1 a2 a3 => by
        obtain ⟨hg, hout, hor⟩ := HST.out
        have hbv : By.bv (out ++ [Tx.dg r]) = By.bv out ++ [.int .u8 ((48 + r : Nat) : Int)] := by
          rw [By.bv_append]
          congr 1
          show [Value.int .u8 ((Tx.dg r).toNat : Int)] = _
          have : (Tx.dg r).toNat = 48 + r := by unfold Tx.dg; simp only [UInt8.toNat_ofNat']; omega
          rw [this]
        by_cases hlt : cur < 10
        · refine ⟨0, by rw [hg]; exact Tx.lo_pos _, cur / 10, out ++ [Tx.dg r], a1, ?_, a3, by omega, .inl ⟨rfl, by omega, ?_⟩⟩
          · rw [hbv, List.length_append, ← HKK.out]; exact a2
          · rw [← hout, Tx.lo_small hlt, HR.out, Nat.mod_eq_of_lt hlt]
        · rw [Tx.lo_big hlt] at hout hg
          refine ⟨(Tx.lo (cur / 10)).length, by rw [hg, List.length_cons]; omega, cur / 10, out ++ [Tx.dg r], a1, ?_, a3, by omega, .inr ⟨rfl, ?_, .inr (by omega)⟩⟩
          · rw [hbv, List.length_append, ← HKK.out]; exact a2
          · rw [← hout, HR.out, List.append_assoc]; rfl)
      rcases hgo with hgo | ⟨rfl, rfl⟩
      · go_wp2_with fail
        refine KS.mono ?_
        rintro x w2 ⟨vq, rfl, hq, hf, hb2⟩
        obtain ⟨qa, qc, rfl⟩ := Nt.In.slice hq
        have HBW2 := Lib.hid (HBW.out.trans (hb2.mono HBW.out.size))
        have HQ := Lib.hid (And.intro hq hf)
        have HO2 := Lib.hid (Sl.own_below HOWN.out hb2 (Nat.le_refl _))
        have HLT := Lib.hid HOWN.out.lt
        clear hq hf hb2 KS
        rcases (show r = 0 ∨ r = 1 ∨ r = 2 ∨ r = 3 ∨ r = 4 ∨ r = 5 ∨ r = 6 ∨ r = 7 ∨ r = 8 ∨ r = 9 by omega) with rfl | rfl | rfl | rfl | rfl | rfl | rfl | rfl | rfl | rfl
        all_goals
          go_wp2_with (at_builtin; refine wpList_append_own _ rfl _ _ 22 rfl w.heap.size 5 i0 (.int .u8 0) 1 1 Tryz.underlying22 hi hz0 hz1 hz2 rfl (by decide) _ _ _ rfl (HO2.out.alloc _) ⟨w2.heap.size, 0, none⟩ 1 1 [_] rfl rfl (Sl.one_new _ _ _) ?c2 ?c3 ?c4 ?c5 ?_)
          case c2 => intro u hu; simp only [List.mem_singleton] at hu; subst hu; rfl
          case c3 => simp only [maxLen]; omega
          case c4 => omega
          case c5 => have := HBW2.out.size; simp; omega
          intro o' w3 hown3 hg3 _
          have hB3 := Sl.below_own (HBW2.out.alloc HBW2.out.size _) (HO2.out.alloc _) hg3 (Nat.le_refl _) (by have := HBW2.out.size; simp; omega)
          have hN3 := Tx.in_grown (Nt.In.below HQ.out.1 ((Below.refl _ _).alloc (Nat.le_refl _) _) (Nat.le_refl _)) hg3 (fun b off l c e => by
            intro e2
            have h1 := (HLT.out b e2.symm).2
            have h2 := HQ.out.2 b off l c e
            omega)
          obtain ⟨g', hlt', hrel'⟩ := FIN.out o' _ w3 0 hN3 hown3 hB3
          obtain ⟨oa', oc', rfl⟩ := Tx.own_slice hown3
          have HREL := Lib.hid hrel'
          clear hrel' hN3 hown3 hg3 hB3
          go_wp2_with fail
          go_roundg g'
          case measure => exact hlt'
          case rel => exact HREL.out
      · go_wp2_with fail
        refine KS.mono ?_
        rintro x w2 ⟨vq, rfl, hq, hf, hb2⟩
        obtain ⟨qa, qc, rfl⟩ := Nt.In.slice hq
        have HBW2 := Lib.hid (HBW.out.trans (hb2.mono HBW.out.size))
        have HQ := Lib.hid (And.intro hq hf)
        have HO2 := Lib.hid (Sl.own_below HOWN.out hb2 (Nat.le_refl _))
        have HLT := Lib.hid HOWN.out.lt
        clear hq hf hb2 KS
        rcases (show r = 0 ∨ r = 1 ∨ r = 2 ∨ r = 3 ∨ r = 4 ∨ r = 5 ∨ r = 6 ∨ r = 7 ∨ r = 8 ∨ r = 9 by omega) with rfl | rfl | rfl | rfl | rfl | rfl | rfl | rfl | rfl | rfl
        all_goals
          go_wp2_with (at_builtin; refine wpList_append_own _ rfl _ _ 22 rfl w.heap.size 5 i0 (.int .u8 0) 1 1 Tryz.underlying22 hi hz0 hz1 hz2 rfl (by decide) _ _ _ rfl (HO2.out.alloc _) ⟨w2.heap.size, 0, none⟩ 1 1 [_] rfl rfl (Sl.one_new _ _ _) ?c2 ?c3 ?c4 ?c5 ?_)
          case c2 => intro u hu; simp only [List.mem_singleton] at hu; subst hu; rfl
          case c3 => simp only [maxLen]; omega
          case c4 => omega
          case c5 => have := HBW2.out.size; simp; omega
          intro o' w3 hown3 hg3 _
          have hB3 := Sl.below_own (HBW2.out.alloc HBW2.out.size _) (HO2.out.alloc _) hg3 (Nat.le_refl _) (by have := HBW2.out.size; simp; omega)
          have hN3 := Tx.in_grown (Nt.In.below HQ.out.1 ((Below.refl _ _).alloc (Nat.le_refl _) _) (Nat.le_refl _)) hg3 (fun b off l c e => by
            intro e2
            have h1 := (HLT.out b e2.symm).2
            have h2 := HQ.out.2 b off l c e
            omega)
          obtain ⟨g', hlt', hrel'⟩ := FIN.out o' _ w3 0 hN3 hown3 hB3
          obtain ⟨oa', oc', rfl⟩ := Tx.own_slice hown3
          have HREL := Lib.hid hrel'
          clear hrel' hN3 hown3 hg3 hB3
          go_wp2_with fail
          go_roundg g'
          case measure => exact hlt'
          case rel => exact HREL.out

/-- Bytes as a text. -/
def Tx.str (l : List UInt8) : ByteArray := ⟨l.toArray⟩
theorem Tx.str_append (a b : List UInt8) : Tx.str a ++ Tx.str b = Tx.str (a ++ b) := by
  unfold Tx.str
  apply ByteArray.ext
  simp
/-- A fraction's text. -/
def Tx.rat (s : Bool) (t b : Nat) : List UInt8 := (if s = true then [45] else []) ++ (Tx.dec t ++ if b = 1 then [] else 47 :: Tx.dec b)
set_option maxHeartbeats 2000000 in
set_option maxRecDepth 1000000 in
theorem Tx.ratText_any (s : Bool) (t b : Nat) (v : Value) (w : World) (h : Rt.R w v s t b) (hb : 0 < b) (hl : (Nt.dig t).length ≤ 512 ∧ (Nt.dig b).length ≤ 512) :
    Calls Tryz.prog 58 #[v, .int .i64 10] w fun e w' => e = .returned (.string (Tx.str (Tx.rat s t b))) ∧ Below w.heap.size w w' := by
  obtain ⟨tv, bv, rfl, h1, h2⟩ := h
  obtain ⟨S, hS, hone⟩ := Rt.isOne h2 hb
  obtain ⟨ta, tc, hv⟩ := Nt.In.slice h1
  obtain ⟨L, hL⟩ : ∃ z, z = (Nt.dig t).length := ⟨_, rfl⟩
  rw [← hL] at hv
  subst hv
  obtain ⟨ba, bc, hv2⟩ := Nt.In.slice h2
  obtain ⟨M, hM⟩ : ∃ z, z = (Nt.dig b).length := ⟨_, rfl⟩
  rw [← hM] at hv2
  subst hv2
  have HB0 : Hid (∀ o, Below w.heap.size w (w.alloc o)) := Lib.hid (fun o => (Below.refl _ _).alloc (Nat.le_refl _) o)
  have KT := Lib.hid (fun w' (hb : Below w.heap.size w w') => Tx.Text_any t _ w' (Nt.In.below h1 hb (Nat.le_refl _)) hl.1)
  have KB := Lib.hid (fun w' (hb : Below w.heap.size w w') => Tx.Text_any b _ w' (Nt.In.below h2 hb (Nat.le_refl _)) hl.2)
  have hq : (w.alloc (.cells #[.bool s, .slice ta L tc, .slice ba M bc] 32)).heap[w.heap.size]? = some (.cells #[.bool s, .slice ta L tc, .slice ba M bc] 32 (0, 0)) := heap_alloc_new w _
  have HF : Hid (∀ w', Below (w.heap.size + 1) (w.alloc (.cells #[.bool s, .slice ta L tc, .slice ba M bc] 32)) w' → (w'.cell? ⟨w.heap.size, 0, none⟩ = some (.bool s) ∧ w'.cell? ⟨w.heap.size, 1, none⟩ = some (.slice ta L tc) ∧ w'.cell? ⟨w.heap.size, 2, none⟩ = some (.slice ba M bc)) ∧ Below w.heap.size w w') := Lib.hid (fun w' hb => by
    have a0 := (hb.block w.heap.size (Nat.lt_succ_self _)).trans hq
    exact ⟨Rt.cells3 a0, (HB0.out _).trans (hb.mono (Nat.le_succ _))⟩)
  have HONE : Hid (∀ w', Below w.heap.size w w' → (S = false ∧ ((M : Int) == 1) = false) ∨ ∃ bb off, ba = some ⟨bb, off, none⟩ ∧ M = 1 ∧ w'.cell? ⟨bb, off, none⟩ = some (.int .u32 b) ∧ ((b : Int) == 1) = S) := Lib.hid (fun w' hb => by
    rcases hone with ⟨ad, cap, e, e2, e3⟩ | ⟨bb, off, cap, e, e2, e3⟩
    · rw [← hM] at e2
      exact .inl ⟨e3, e2⟩
    · simp only [Value.slice.injEq] at e
      obtain ⟨rfl, rfl, rfl⟩ := e
      rcases h2 with ⟨e, _⟩ | ⟨a, c, e, e4⟩ | ⟨h0, b3, off3, cap3, e, hc, hlt, hcell⟩
      · cases e
      · simp only [Value.slice.injEq] at e
        omega
      · simp only [Value.slice.injEq, Option.some.injEq, Addr.mk.injEq] at e
        obtain ⟨⟨rfl, rfl, _⟩, _, _⟩ := e
        exact .inr ⟨bb, off, rfl, rfl, (hb.cell (p := ⟨bb, off, none⟩) hlt).trans e2, e3⟩)
  have HS := Lib.hid hS
  have hz : (w.alloc (.cells #[.bool s, .slice ta L tc, .slice ba M bc] 32)).heap.size = w.heap.size + 1 := by simp
  have HZ := Lib.hid hz
  have n1 : (Tx.dec t).length ≤ 16385 := by unfold Tx.dec; rw [List.length_reverse]; exact Tx.lo_len_dig hl.1
  have n2 : (Tx.dec b).length ≤ 16385 := by unfold Tx.dec; rw [List.length_reverse]; exact Tx.lo_len_dig hl.2
  have f1 : (9223372036854775807 < 1 + (Tx.dec t).length) = False := eq_false (by omega)
  have f2 : (9223372036854775807 < 1 + (Tx.dec b).length) = False := eq_false (by omega)
  have f3 : (9223372036854775807 < (Tx.dec t).length + (1 + (Tx.dec b).length)) = False := eq_false (by omega)
  have f4 : (9223372036854775807 < 1 + (Tx.dec t).length + (1 + (Tx.dec b).length)) = False := eq_false (by omega)
  clear h1 h2 hone hL hM hq hS hz hl n1 n2
  go_enter Tryz.func58, Tryz.ntmps58
  go_wp2_with fail
  refine (KT.out _ (HB0.out _)).mono ?_
  rintro x w1 ⟨rfl, hb1⟩
  rw [HZ.out] at hb1
  have HB1 := Lib.hid hb1
  obtain ⟨⟨c0, c1, c2⟩, hbw1⟩ := HF.out _ hb1
  have hcase := HONE.out _ hbw1
  have HBW1 := Lib.hid hbw1
  have HTT : Hid (∀ (R : List UInt8), (if S = true then [] else 47 :: Tx.dec b) = R → (if s = true then [45] else []) ++ (Tx.dec t ++ R) = Tx.rat s t b) := Lib.hid (fun R e => by
    unfold Tx.rat
    rw [← e, HS.out]
    by_cases hb1 : b = 1
    · simp [hb1]
    · simp [hb1])
  clear hb1 hbw1
  rcases hcase with ⟨rfl, hM1⟩ | ⟨bb, off, rfl, rfl, c3, hb1⟩
  · have hM2 : ((M : Int) != 1) = true := by rw [bne, hM1]; rfl
    cases s
    all_goals
      go_wp2_with fail
      refine (KB.out _ HBW1.out).mono ?_
      rintro x w2 ⟨rfl, hb2⟩
      have HB2 := Lib.hid (HBW1.out.trans (hb2.mono HBW1.out.size))
      clear hb2
      go_wp2_with fail
      go_ret
      refine ⟨?_, HB2.out⟩
      rw [← HTT.out _ rfl]
      first | rfl | (simp [Tx.str, Tx.str_append]; done) | (simp [Tx.str]; apply ByteArray.ext; simp)
  · have hb2 : ((b : Int) != 1) = !S := by rw [bne, hb1]
    cases S
    · have hb3 : ((b : Int) != 1) = true := hb2
      cases s
      all_goals
        go_wp2_with fail
        refine (KB.out _ HBW1.out).mono ?_
        rintro x w2 ⟨rfl, hb2⟩
        have HB2 := Lib.hid (HBW1.out.trans (hb2.mono HBW1.out.size))
        clear hb2
        go_wp2_with fail
        go_ret
        refine ⟨?_, HB2.out⟩
        rw [← HTT.out _ rfl]
        first | rfl | (simp [Tx.str, Tx.str_append]; done) | (simp [Tx.str]; apply ByteArray.ext; simp)
    · have hb3 : ((b : Int) != 1) = false := hb2
      cases s
      all_goals
        go_wp2_with fail
        go_ret
        refine ⟨?_, HBW1.out⟩
        rw [← HTT.out _ rfl]
        first | rfl | (simp [Tx.str, Tx.str_append]; done) | (simp [Tx.str]; apply ByteArray.ext; simp)

set_option maxHeartbeats 2000000 in
set_option maxRecDepth 1000000 in
theorem Tx.chk1 (s1 s2 : Bool) (a1 a2 a3 a4 : Option Addr) (l1 l2 l3 l4 c1 c2 c3 c4 B : Nat) (w : World) (h : w.heap[B]? = some (.cells #[.bool s1, .slice a1 l1 c1, .slice a2 l2 c2, .bool s2, .slice a3 l3 c3, .slice a4 l4 c4] 34 (0, 0)))
    (K1 : Rt.SoundAt w (.agg #[.bool s1, .slice a1 l1 c1, .slice a2 l2 c2, .bool s2, .slice a3 l3 c3, .slice a4 l4 c4])) :
    Calls Tryz.prog 49 #[.bool false, .slice (some ⟨B, 0, none⟩) 1 1] w fun e w' => e = .returned (.int .i64 0) ∧ Below w.heap.size w w' := by
  have hlt := (Array.getElem?_eq_some_iff.1 h).1
  have HC := Lib.hid (fun (w' : World) (hb : Below w.heap.size w w') => Rt.cells6 ((hb.block B hlt).trans h))
  have HK1 := Lib.hid K1
  clear h K1
  go_enter Tryz.func49, Tryz.ntmps49
  go_wp2_with fail
  go_loopw [11] (fun i wr => Below w.heap.size w wr ∧ ∃ k : Nat, i = .int .i64 k ∧ k ≤ 1) (fun i _ => 1 - (intOf i).toNat)
  case atStart => exact ⟨Below.refl _ _, 0, rfl, by decide⟩
  case round =>
    obtain ⟨hbw, k, rfl, hk⟩ := hrel
    obtain ⟨wo, hwo⟩ : ∃ z, z = wr := ⟨_, rfl⟩
    subst hwo
    have HBW := Lib.hid hbw
    have HA : Hid (∀ o, Below w.heap.size w (wo.alloc o)) := Lib.hid (fun o => hbw.alloc hbw.size o)
    obtain ⟨d0, d1, d2, d3, d4, d5⟩ := HC.out _ hbw
    clear hbw
    rcases (show k = 0 ∨ k = 1 by omega) with rfl | rfl
    · go_wp2_with fail
      refine (HK1.out _ (HA.out _)).mono ?_
      rintro x w1 ⟨rfl, hb1⟩
      have HB1 := Lib.hid ((HA.out _).trans (hb1.mono (HA.out _).size))
      clear hb1
      go_wp2_with fail
      go_roundw
      case rel => exact ⟨HB1.out, _, by first | rfl | go_num, by decide⟩
      case measure => simp [intOf]
    · clear HA
      go_wp2_with fail
      go_loopw [21] (fun i wr => Below w.heap.size w wr ∧ ∃ k : Nat, i = .int .i64 k ∧ k ≤ 1) (fun i _ => 1 - (intOf i).toNat)
      case atStart => exact ⟨HBW.out, 0, rfl, by decide⟩
      case round =>
        obtain ⟨hbw, k, rfl, hk⟩ := hrel
        obtain ⟨wi, hwi⟩ : ∃ z, z = wr := ⟨_, rfl⟩
        subst hwi
        have HBW := Lib.hid hbw
        have HA : Hid (∀ o, Below w.heap.size w (wi.alloc o)) := Lib.hid (fun o => hbw.alloc hbw.size o)
        clear d0 d1 d2 d3 d4 d5
        obtain ⟨d0, d1, d2, d3, d4, d5⟩ := HC.out _ hbw
        clear hbw
        rcases (show k = 0 ∨ k = 1 by omega) with rfl | rfl
        · go_wp2_with fail
          go_roundw
          case rel => exact ⟨HA.out _, _, by first | rfl | go_num, by decide⟩
          case measure => simp [intOf]
        · go_wp2_with fail
          go_ret
          exact ⟨rfl, HBW.out⟩

theorem Tx.N_slice {w : World} {v : Value} {n : Nat} (h : Nt.N w v n) : ∃ L a c, v = .slice a L c ∧ L = (Nt.dig n).length := by
  obtain ⟨a, c, hv⟩ := Nt.In.slice h
  exact ⟨_, a, c, hv, rfl⟩
theorem Tx.N_zero {w : World} {v : Value} (h : Nt.N w v 0) : ∃ a c, v = .slice a 0 c := by
  obtain ⟨a, c, hv⟩ := Nt.In.slice h
  rw [Nt.dig_zero] at hv
  exact ⟨a, c, hv⟩
set_option maxHeartbeats 2000000 in
set_option maxRecDepth 1000000 in
theorem Tx.Text_real (s : Bool) (t b : Nat) (s2 : Bool) (b2 : Nat) (v : Value) (w : World) (h : Rt.Q w v s t b s2 0 b2) (K : Rt.SoundAt w v) (hb : 0 < b) (hl : (Nt.dig t).length ≤ 512 ∧ (Nt.dig b).length ≤ 512) :
    Calls Tryz.prog 33 #[v, .int .i64 10] w fun e w' => e = .returned (.tuple #[.string (Tx.str (Tx.rat s t b)), .int .i64 0]) ∧ Below w.heap.size w w' := by
  obtain ⟨tv, bv, tv2, bv2, rfl, h1, h2, h3, h4⟩ := h
  obtain ⟨a3, c3, rfl⟩ := Tx.N_zero h3
  obtain ⟨L1, a1, c1, rfl, hL1⟩ := Tx.N_slice h1
  obtain ⟨L2, a2, c2, rfl, hL2⟩ := Tx.N_slice h2
  obtain ⟨L4, a4, c4, rfl, hL4⟩ := Tx.N_slice h4
  obtain ⟨n0, n1, n2, n3⟩ := Sm.two w (.cells #[.bool s, .slice a1 L1 c1, .slice a2 L2 c2, .bool s2, .slice a3 0 c3, .slice a4 L4 c4] 34) (.cells #[.bool s, .slice a1 L1 c1, .slice a2 L2 c2, .bool s2, .slice a3 0 c3, .slice a4 L4 c4] 34)
  have KC := Tx.chk1 _ _ _ _ _ _ _ _ _ _ _ _ _ _ _ _ n1 (fun w' hb => K w' (n3.trans (hb.mono n3.size)))
  have KR := Lib.hid (fun w' (hb2 : Below w.heap.size w w') => Tx.ratText_any s t b (.agg #[.bool s, .slice a1 L1 c1, .slice a2 L2 c2]) w' ⟨_, _, rfl, Nt.In.below h1 hb2 (Nat.le_refl _), Nt.In.below h2 hb2 (Nat.le_refl _)⟩ hb hl)
  have HN := Lib.hid (And.intro n0 (And.intro n2 n3))
  clear n0 n1 n2 n3 h1 h2 h3 h4 hL1 hL2 hL4 K
  go_enter Tryz.func33, Tryz.ntmps33
  go_wp2_with fail
  refine KC.mono ?_
  rintro x w1 ⟨rfl, hb1⟩
  have HB1 := Lib.hid (HN.out.2.2.trans (hb1.mono HN.out.2.2.size))
  obtain ⟨e0, e1, e2, e3, e4, e5⟩ := Rt.cells6 ((hb1.block w.heap.size (by have := HN.out.2.1; omega)).trans HN.out.1)
  clear hb1 KC
  go_wp2_with fail
  refine (KR.out _ HB1.out).mono ?_
  rintro x w2 ⟨rfl, hb2⟩
  have HB2 := Lib.hid (HB1.out.trans (hb2.mono HB1.out.size))
  clear hb2
  go_wp2_with fail
  go_ret2
  exact ⟨rfl, HB2.out⟩
end Go.Proofs.YtdjllmogejkimaaGreatDoor
namespace Go.Proofs.YtdjllmogejkimaaGreatDoor

/-- The small hexadecimal digit of d, less than 16. -/
def Wt.hx (d : Nat) : UInt8 := if d < 10 then UInt8.ofNat (48 + d) else UInt8.ofNat (87 + d)
/-- A number's small hexadecimal digits, the lowest first, at least one. -/
def Wt.hexLo (n : Nat) : List UInt8 := if h : n < 16 then [Wt.hx n] else Wt.hx (n % 16) :: Wt.hexLo (n / 16)
termination_by n
decreasing_by omega
def Wt.hex (n : Nat) : List UInt8 := (Wt.hexLo n).reverse
theorem Wt.hexLo_small {n : Nat} (h : n < 16) : Wt.hexLo n = [Wt.hx n] := by rw [Wt.hexLo, dif_pos h]
theorem Wt.hexLo_big {n : Nat} (h : ¬ n < 16) : Wt.hexLo n = Wt.hx (n % 16) :: Wt.hexLo (n / 16) := by rw [Wt.hexLo, dif_neg h]
theorem Wt.hex_small {n : Nat} (h : n < 16) : Wt.hex n = [Wt.hx n] := by unfold Wt.hex; rw [Wt.hexLo_small h]; rfl
theorem Wt.hex_big {n : Nat} (h : ¬ n < 16) : Wt.hex n = Wt.hex (n / 16) ++ [Wt.hx (n % 16)] := by unfold Wt.hex; rw [Wt.hexLo_big h, List.reverse_cons]
theorem Wt.hexLo_len : ∀ (k n : Nat), n < 16 ^ (k + 1) → (Wt.hexLo n).length ≤ k + 1
  | 0, n, h => by rw [Wt.hexLo_small (by simpa using h)]; simp
  | k + 1, n, h => by
    by_cases h16 : n < 16
    · rw [Wt.hexLo_small h16]; simp
    · rw [Wt.hexLo_big h16, List.length_cons]
      have := Wt.hexLo_len k (n / 16) (by
        rw [Nat.pow_succ] at h
        omega)
      omega
theorem Wt.hex_len {n : Nat} (h : n ≤ 1114111) : (Wt.hex n).length ≤ 6 := by
  unfold Wt.hex
  rw [List.length_reverse]
  exact Wt.hexLo_len 5 n (by omega)
end Go.Proofs.YtdjllmogejkimaaGreatDoor
namespace Go.Proofs.YtdjllmogejkimaaGreatDoor.Ch

def p1 (r : Int) : Prop := (97 ≤ r ∧ r ≤ 122) ∨ (224 ≤ r ∧ r ≤ 254 ∧ r ≠ 247) ∨ (945 ≤ r ∧ r ≤ 969 ∧ r ≠ 962) ∨ (1072 ≤ r ∧ r ≤ 1103)
def p2 (r : Int) : Prop := (65 ≤ r ∧ r ≤ 90) ∨ (192 ≤ r ∧ r ≤ 222 ∧ r ≠ 215) ∨ (913 ≤ r ∧ r ≤ 937 ∧ r ≠ 930) ∨ (1040 ≤ r ∧ r ≤ 1071)
def p3 (r : Int) : Prop := 1104 ≤ r ∧ r ≤ 1119
def p4 (r : Int) : Prop := 1024 ≤ r ∧ r ≤ 1039
def p5 (r : Int) : Prop := (256 ≤ r ∧ r ≤ 311 ∧ r ≠ 304 ∧ r ≠ 305) ∨ (330 ≤ r ∧ r ≤ 375)
def p6 (r : Int) : Prop := (313 ≤ r ∧ r ≤ 328) ∨ (377 ≤ r ∧ r ≤ 382)
instance (r : Int) : Decidable (p1 r) := by unfold p1; infer_instance
instance (r : Int) : Decidable (p2 r) := by unfold p2; infer_instance
instance (r : Int) : Decidable (p3 r) := by unfold p3; infer_instance
instance (r : Int) : Decidable (p4 r) := by unfold p4; infer_instance
instance (r : Int) : Decidable (p5 r) := by unfold p5; infer_instance
instance (r : Int) : Decidable (p6 r) := by unfold p6; infer_instance

/-- The small letter, the capital of the pair that r is in, and whether it is in one. -/
def pairZ (r : Int) : Int × Int × Bool :=
  if p1 r then (r, r - 32, true) else if p2 r then (r + 32, r, true) else if p3 r then (r, r - 80, true) else if p4 r then (r + 80, r, true)
  else if p5 r then (r - r % 2 + 1, r - r % 2, true) else if p6 r then (r - 1 + r % 2 + 1, r - 1 + r % 2, true) else (r, r, false)

def upZ (r : Int) : Int := if r = 962 then 931 else if r = 383 then 83 else if r = 255 then 376 else (pairZ r).2.1
def downZ (r : Int) : Int := if r = 376 then 255 else (pairZ r).1
def oddLetter (r : Int) : Bool := r == 170 || r == 181 || r == 186 || r == 223 || r == 255 || r == 304 || r == 305 || r == 312 || r == 329 || r == 376 || r == 383 || r == 962
def letterB (r : Int) : Bool := if oddLetter r = true then true else (pairZ r).2.2
def blankB (r : Int) : Bool := r == 9 || r == 10 || r == 11 || r == 12 || r == 13 || r == 32 || r == 133 || r == 160 || r == 8232 || r == 8233

theorem pairZ_1 {r : Int} (h : p1 r) : pairZ r = (r, r - 32, true) := by simp [pairZ, h]
theorem pairZ_2 {r : Int} (h1 : ¬ p1 r) (h : p2 r) : pairZ r = (r + 32, r, true) := by simp [pairZ, h1, h]
theorem pairZ_3 {r : Int} (h1 : ¬ p1 r) (h2 : ¬ p2 r) (h : p3 r) : pairZ r = (r, r - 80, true) := by simp [pairZ, h1, h2, h]
theorem pairZ_4 {r : Int} (h1 : ¬ p1 r) (h2 : ¬ p2 r) (h3 : ¬ p3 r) (h : p4 r) : pairZ r = (r + 80, r, true) := by simp [pairZ, h1, h2, h3, h]
theorem pairZ_5 {r : Int} (h1 : ¬ p1 r) (h2 : ¬ p2 r) (h3 : ¬ p3 r) (h4 : ¬ p4 r) (h : p5 r) : pairZ r = (r - r % 2 + 1, r - r % 2, true) := by simp [pairZ, h1, h2, h3, h4, h]
theorem pairZ_6 {r : Int} (h1 : ¬ p1 r) (h2 : ¬ p2 r) (h3 : ¬ p3 r) (h4 : ¬ p4 r) (h5 : ¬ p5 r) (h : p6 r) : pairZ r = (r - 1 + r % 2 + 1, r - 1 + r % 2, true) := by simp [pairZ, h1, h2, h3, h4, h5, h]
theorem pairZ_0 {r : Int} (h1 : ¬ p1 r) (h2 : ¬ p2 r) (h3 : ¬ p3 r) (h4 : ¬ p4 r) (h5 : ¬ p5 r) (h6 : ¬ p6 r) : pairZ r = (r, r, false) := by simp [pairZ, h1, h2, h3, h4, h5, h6]

theorem pairZ_bound (r : Int) (g0 : -2147483648 ≤ r) (g1 : r ≤ 2147483647) : (-2147483648 ≤ (pairZ r).1 ∧ (pairZ r).1 ≤ 2147483647) ∧ (-2147483648 ≤ (pairZ r).2.1 ∧ (pairZ r).2.1 ≤ 2147483647) := by
  by_cases h1 : p1 r
  · rw [pairZ_1 h1]; unfold p1 at h1; simp only []; omega
  by_cases h2 : p2 r
  · rw [pairZ_2 h1 h2]; unfold p2 at h2; simp only []; omega
  by_cases h3 : p3 r
  · rw [pairZ_3 h1 h2 h3]; unfold p3 at h3; simp only []; omega
  by_cases h4 : p4 r
  · rw [pairZ_4 h1 h2 h3 h4]; unfold p4 at h4; simp only []; omega
  by_cases h5 : p5 r
  · rw [pairZ_5 h1 h2 h3 h4 h5]; unfold p5 at h5; simp only []; omega
  by_cases h6 : p6 r
  · rw [pairZ_6 h1 h2 h3 h4 h5 h6]; unfold p6 at h6; simp only []; omega
  rw [pairZ_0 h1 h2 h3 h4 h5 h6]; simp only []; omega

theorem or1 : ∀ n : Fin 400, bits .or .i32 (n.val : Int) 1 = (n.val : Int) - (n.val : Int) % 2 + 1 := by decide +kernel
theorem an1 : ∀ n : Fin 400, bits .andNot .i32 (n.val : Int) 1 = (n.val : Int) - (n.val : Int) % 2 := by decide +kernel
theorem and1 : ∀ n : Fin 400, bits .and .i32 (n.val : Int) 1 = (n.val : Int) % 2 := by decide +kernel
theorem or_1 (r : Int) (h0 : 0 ≤ r) (h1 : r < 400) : bits .or .i32 r 1 = r - r % 2 + 1 := by
  obtain ⟨n, rfl⟩ := Int.eq_ofNat_of_zero_le h0
  exact or1 ⟨n, by omega⟩
theorem andNot_1 (r : Int) (h0 : 0 ≤ r) (h1 : r < 400) : bits .andNot .i32 r 1 = r - r % 2 := by
  obtain ⟨n, rfl⟩ := Int.eq_ofNat_of_zero_le h0
  exact an1 ⟨n, by omega⟩
theorem and_1 (r : Int) (h0 : 0 ≤ r) (h1 : r < 400) : bits .and .i32 r 1 = r % 2 := by
  obtain ⟨n, rfl⟩ := Int.eq_ofNat_of_zero_le h0
  exact and1 ⟨n, by omega⟩
end Go.Proofs.YtdjllmogejkimaaGreatDoor.Ch
