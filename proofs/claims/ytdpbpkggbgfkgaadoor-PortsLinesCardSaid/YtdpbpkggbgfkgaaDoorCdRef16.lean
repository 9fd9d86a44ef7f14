/-
  What the walks of sextantref06.utf16 need: no program in sight but for the sizes of its types.
-/
import Derived.Outline
import Derived.Test.YtdpbpkggbgfkgaaDoorProg
import Derived.Test.YtdpbpkggbgfkgaaDoorCdRefPlain
import Derived.Test.YtdpbpkggbgfkgaaDoorSl
import Derived.WalkKit
import Derived.WalkSpells
import Derived.WalkLawsBesides
import Derived.Handy
import Derived.BigCall
import Derived.Lib.Hide
import Derived.Deep.DeepCutAuto
import Derived.Deep.RegionWith
import Derived.BigQuiet
import Derived.WalkSmall
namespace Go.Proofs.YtdpbpkggbgfkgaaDoor
open Go.RowKit
set_option linter.unusedVariables false

theorem Cd.infoRune4 : (Tryd.prog.info? 21).map (fun i => (i.zero, i.size, i.bytes)) = some (some (.int .i32 0), 1, 4) := by kernel_rfl
theorem Cd.infoUnitW : (Tryd.prog.info? 54).map (fun i => (i.zero, i.size, i.bytes)) = some (some (.agg #[.int .i32 0, .bool false, .int .i64 0]), 3, 16) := by kernel_rfl
theorem Cd.own_emptyW (w : World) (t k : Nat) : (w.alloc (.cells #[] t)).ownsRow w.heap.size t k (.slice (some ⟨w.heap.size, 0, none⟩) 0 0) 0 [] :=
  ⟨by simp, .inr ⟨w.heap.size, 0, #[], rfl, Nat.le_refl _, heap_alloc_new w _, Nat.le_refl _, Nat.zero_le _, by simp, by simp⟩⟩
theorem Cd.three_newW (w : World) (a b c : Value) (t : TypeId) : ∀ (j : Nat) (u : Value), ([a, b, c] : List Value)[j]? = some u → (w.alloc (.cells #[a, b, c] t)).cell? ((⟨w.heap.size, 0, none⟩ : Addr).add j) = some u := by
  intro j u hj
  match j, hj with
  | 0, hj => simp at hj; subst hj; simp [Addr.add]
  | 1, hj => simp at hj; subst hj; simp [Addr.add]
  | 2, hj => simp at hj; subst hj; simp [Addr.add]
theorem Cd.below_ownW {B B2 k : Nat} {w wr w' : World} {t : TypeId} {v : Value} {n : Nat} {xs : List Value} (hb : Below B w wr) (ho : wr.ownsRow B2 t k v n xs) (hg : wr.grownBy w' v.ownBlock) (h2 : B ≤ B2) (h3 : B2 ≤ wr.heap.size) : Below B w w' :=
  hb.grown hg (by omega) (fun k hk => by have := (ho.lt k hk).1; omega)
theorem Cd.own_below3 {w w' : World} {B B2 k : Nat} {t : TypeId} {v : Value} {n : Nat} {xs : List Value} (h : w.ownsRow B t k v n xs) (hb : Below B2 w w') (hB : w.heap.size ≤ B2) : w'.ownsRow B t k v n xs := by
  refine ⟨h.1, ?_⟩
  rcases h.2 with hv | ⟨g, cap, cur, hv, hB', hg, rest⟩
  · exact .inl hv
  · have hlt := (Array.getElem?_eq_some_iff.1 hg).1
    exact .inr ⟨g, cap, cur, hv, hB', by rw [hb.block g (by omega)]; exact hg, rest⟩
def Cd.w1 (w : World) : World := w.alloc (Obj.cells #[] 54)
theorem Cd.w1_size (w : World) : (Cd.w1 w).heap.size = w.heap.size + 1 := by unfold Cd.w1; simp
theorem Cd.w1_past (w : World) {b i : Nat} (h : b < w.heap.size) : (Cd.w1 w).cell? ⟨b, i, none⟩ = w.cell? ⟨b, i, none⟩ := World.cell?_alloc_past _ _ _ h
theorem Cd.own_eq {w : World} {B t k : Nat} {v : Value} {n : Nat} {xs a b : List Value} (h : w.ownsRow B t k v n (xs ++ a)) (e : a = b) : w.ownsRow B t k v n (xs ++ b) := e ▸ h
theorem Cd.own_some {w : World} {B t k : Nat} {v : Value} {n : Nat} {xs : List Value} (h : w.ownsRow B t k v n xs) (hv : ¬ v = .slice none 0 0) : ∃ g cap cur, v = .slice (some ⟨g, 0, none⟩) n cap ∧ B ≤ g ∧ w.heap[g]? = some (.cells cur t (0, 0)) := by
  rcases h.2 with ⟨h1, _⟩ | ⟨g, cap, cur, h1, h2, h3, _⟩
  · exact absurd h1 hv
  · exact ⟨g, cap, cur, h1, h2, h3⟩
theorem Cd.cell_block {w w' : World} {g i : Nat} (h : w'.heap[g]? = w.heap[g]?) : w'.cell? ⟨g, i, none⟩ = w.cell? ⟨g, i, none⟩ := by
  simp only [World.cell?, h]
/-- A block of another type stands behind a write to a row. -/
theorem Cd.block_grown {w w' : World} {B t k : Nat} {v : Value} {n : Nat} {xs : List Value} (h : w.ownsRow B t k v n xs) (hg : w.grownBy w' v.ownBlock) {g t2 : Nat} {cur : Array Value} (hk : w.heap[g]? = some (.cells cur t2 (0, 0))) (ht : t2 ≠ t) : w'.heap[g]? = some (.cells cur t2 (0, 0)) := by
  rw [hg.block g (lt_of_block hk) ?_]
  · exact hk
  · intro hc
    rcases h.2 with ⟨hv, _⟩ | ⟨g2, cap, cur2, hv, _, hgg, _⟩
    · rw [hv] at hc; cases hc
    · rw [hv] at hc
      simp [Value.ownBlock] at hc
      subst hc
      rw [hk] at hgg
      cases hgg
      exact ht rfl
theorem Cd.getD_old (xs : List Int) (a : Int) (q : Nat) (h : q < xs.length) : (xs ++ [a]).getD q 0 = xs.getD q 0 := by
  rw [List.getD_eq_getElem?_getD, List.getD_eq_getElem?_getD, List.getElem?_append_left h]
theorem Cd.getD_new (xs : List Int) (a : Int) : (xs ++ [a]).getD xs.length 0 = a := by
  rw [List.getD_eq_getElem?_getD, List.getElem?_append_right (Nat.le_refl _)]
  simp
theorem Cd.num_in (s : ByteArray) (low i : Nat) (h : i + 2 ≤ s.size) : Cd.num s low i = Cd.byt s (i + low) * 256 + Cd.byt s (i + 1 - low) := by
  unfold Cd.num
  rw [if_neg (by omega)]
theorem Cd.num_out (s : ByteArray) (low i : Nat) (h : s.size < i + 2) : Cd.num s low i = -1 := by
  unfold Cd.num
  rw [if_pos (by omega)]
theorem Cd.wref_good (s : ByteArray) (low p : Nat) (h : p < s.size) (r q : Int) (hr : Cd.num s low p = r) (hq : Cd.num s low (p + 2) = q) (hn : ¬ Cd.pair r q) (hg : 0 ≤ r ∧ (r < 55296 ∨ 57343 < r)) : (Cd.wideU s low p).map Cd.refU = (r, false, (p : Int)) :: (Cd.wideU s low (p + 2)).map Cd.refU := by
  rw [Cd.wideU_one s low p h (by rw [hr, hq]; exact hn), List.map_cons, hr]
  unfold Cd.refU Cd.plainR
  simp only [decide_eq_true hg]
  rfl
theorem Cd.wref_bad (s : ByteArray) (low p : Nat) (h : p < s.size) (r q : Int) (hr : Cd.num s low p = r) (hq : Cd.num s low (p + 2) = q) (hn : ¬ Cd.pair r q) (hg : ¬ (0 ≤ r ∧ (r < 55296 ∨ 57343 < r))) : (Cd.wideU s low p).map Cd.refU = (0, true, (p : Int)) :: (Cd.wideU s low (p + 2)).map Cd.refU := by
  rw [Cd.wideU_one s low p h (by rw [hr, hq]; exact hn), List.map_cons, hr]
  unfold Cd.refU Cd.plainR
  simp only [decide_eq_false hg]
  rfl
theorem Cd.wref_pair (s : ByteArray) (low p : Nat) (h : p < s.size) (r q : Int) (hr : Cd.num s low p = r) (hq : Cd.num s low (p + 2) = q) (hn : Cd.pair r q) : (Cd.wideU s low p).map Cd.refU = ((r - 55296) * 1024 + q - 56320 + 65536, false, (p : Int)) :: (Cd.wideU s low (p + 2 + 2)).map Cd.refU := by
  rw [Cd.wideU_pair s low p h (by rw [hr, hq]; exact hn), List.map_cons, hr, hq]
  rfl
theorem Cd.wref_end (s : ByteArray) (low p : Nat) (h : ¬ p < s.size) : (Cd.wideU s low p).map Cd.refU = [] := by
  rw [Cd.wideU_end s low p h]
  rfl
end Go.Proofs.YtdpbpkggbgfkgaaDoor
