/-
  Slices of integers that a call reads or has made, and texts of characters, in plain Lean over worlds. No conditions.
-/
import Derived.Test.YtdikkknjdbchbaaRunes
import Derived.WalkKit
import Derived.WalkSpells
import Derived.WalkLawsBesides
import Derived.Lib.RuneCount
import Derived.Lib.OthersKept
namespace Go.Proofs.Ytdikkknjdbchbaa.Sl
open Go.RowKit

theorem addr_add (b off j : Nat) : (⟨b, off, none⟩ : Addr).add j = ⟨b, off + j, none⟩ := by
  unfold Addr.add
  split <;> simp_all

/-- The slice value v can be read as the integers xs. -/
def IntsAt (k : IntKind) (w : World) (v : Value) (xs : List Int) : Prop :=
  (v = .slice none 0 0 ∧ xs = []) ∨ ∃ b off cap, v = .slice (some ⟨b, off, none⟩) xs.length cap ∧ b < w.heap.size ∧ ∀ i, i < xs.length → w.cell? ⟨b, off + i, none⟩ = some (.int k (xs.getD i 0))

theorem IntsAt.below {k : IntKind} {w w' : World} {v : Value} {xs : List Int} {B : Nat} (h : IntsAt k w v xs) (hb : Below B w w') (hB : w.heap.size ≤ B) : IntsAt k w' v xs := by
  rcases h with h | ⟨b, off, cap, hv, hlt, hc⟩
  · exact .inl h
  · refine .inr ⟨b, off, cap, hv, by have := hb.size; omega, fun i hi => ?_⟩
    rw [hb.cell (p := ⟨b, off + i, none⟩) (by show b < B; omega)]
    exact hc i hi
theorem IntsAt.alloc {k : IntKind} {w : World} {v : Value} {xs : List Int} (h : IntsAt k w v xs) (o : Obj) : IntsAt k (w.alloc o) v xs :=
  h.below ((Below.refl w.heap.size w).alloc (Nat.le_refl _) o) (Nat.le_refl _)

theorem IntsAt.of_own {k : IntKind} {w : World} {B : Nat} {t : TypeId} {v : Value} {xs : List Int} (h : w.ownsRow B t 1 v xs.length (xs.map (Value.int k))) : IntsAt k w v xs := by
  rcases h.2 with ⟨hv, h0⟩ | ⟨g, cap, cur, hv, hB, hg, hn, hm, hs, ht⟩
  · exact .inl ⟨hv, List.length_eq_zero_iff.1 h0⟩
  · refine .inr ⟨g, 0, cap, hv, (Array.getElem?_eq_some_iff.1 hg).1, fun i hi => ?_⟩
    have := h.cells (g := g) (by rw [hv]; rfl) i (.int k (xs.getD i 0)) (by simp [hi])
    rw [← this, addr_add]

theorem own_below {w w' : World} {B B2 : Nat} {t : TypeId} {v : Value} {n : Nat} {xs : List Value} (h : w.ownsRow B t 1 v n xs) (hb : Below B2 w w') (hB : w.heap.size ≤ B2) : w'.ownsRow B t 1 v n xs := by
  refine ⟨h.1, ?_⟩
  rcases h.2 with hv | ⟨g, cap, cur, hv, hB', hg, rest⟩
  · exact .inl hv
  · have hlt := (Array.getElem?_eq_some_iff.1 hg).1
    exact .inr ⟨g, cap, cur, hv, hB', by rw [hb.block g (by omega)]; exact hg, rest⟩

/-- What is owned stays owned while an iterator of a text moves on. -/
theorem own_iterAt {w : World} {B : Nat} {t : TypeId} {v : Value} {n : Nat} {xs : List Value} (h : w.ownsRow B t 1 v n xs) {k : Nat} {s : ByteArray} {pos : Nat} (hk : w.heap[k]? = some (.stringIter s pos)) (pos' : Nat) : (w.iterAt k s pos').ownsRow B t 1 v n xs := by
  refine ⟨h.1, ?_⟩
  rcases h.2 with hv | ⟨g, cap, cur, hv, hB', hg, rest⟩
  · exact .inl hv
  · refine .inr ⟨g, cap, cur, hv, hB', ?_, rest⟩
    rw [Lib.iterAt_other]
    · exact hg
    · intro e
      rw [e, hk] at hg
      cases hg

/-- An iterator stands where it stood behind a write to a row that is owned. -/
theorem iter_grown {w w' : World} {B : Nat} {t : TypeId} {v : Value} {n : Nat} {xs : List Value} (h : w.ownsRow B t 1 v n xs) (hg : w.grownBy w' v.ownBlock) {k : Nat} {s : ByteArray} {pos : Nat} (hk : w.heap[k]? = some (.stringIter s pos)) : w'.heap[k]? = some (.stringIter s pos) := by
  have hlt := (Array.getElem?_eq_some_iff.1 hk).1
  rw [hg.block k hlt ?_]
  · exact hk
  · intro hc
    rcases h.2 with ⟨hv, _⟩ | ⟨g, cap, cur, hv, _, hgg, _⟩
    · rw [hv] at hc; cases hc
    · rw [hv] at hc
      simp [Value.ownBlock] at hc
      subst hc
      rw [hk] at hgg
      cases hgg

theorem own_empty (w : World) (t : TypeId) : (w.alloc (.cells #[] t)).ownsRow w.heap.size t 1 (.slice (some ⟨w.heap.size, 0, none⟩) 0 0) 0 [] :=
  ⟨by simp, .inr ⟨w.heap.size, 0, #[], rfl, Nat.le_refl _, heap_alloc_new w _, Nat.le_refl _, Nat.zero_le _, by simp, by simp⟩⟩
theorem below_own {B B2 : Nat} {w wr w' : World} {t : TypeId} {v : Value} {n : Nat} {xs : List Value} (hb : Below B w wr) (ho : wr.ownsRow B2 t 1 v n xs) (hg : wr.grownBy w' v.ownBlock) (h2 : B ≤ B2) (h3 : B2 ≤ wr.heap.size) : Below B w w' :=
  hb.grown hg (by omega) (fun k hk => by have := (ho.lt k hk).1; omega)

theorem one_new (w : World) (v : Value) (t : TypeId) : ∀ (j : Nat) (u : Value), ([v] : List Value)[j]? = some u → (w.alloc (.cells #[v] t)).cell? ((⟨w.heap.size, 0, none⟩ : Addr).add j) = some u := by
  intro j u hj
  match j, hj with
  | 0, hj => simp at hj; subst hj; simp [Addr.add]
theorem two_new (w : World) (v x : Value) (t : TypeId) : ∀ (j : Nat) (u : Value), ([v, x] : List Value)[j]? = some u → (w.alloc (.cells #[v, x] t)).cell? ((⟨w.heap.size, 0, none⟩ : Addr).add j) = some u := by
  intro j u hj
  match j, hj with
  | 0, hj => simp at hj; subst hj; simp [Addr.add]
  | 1, hj => simp at hj; subst hj; simp [Addr.add]

theorem ub (n : Nat) (z : Int) (h : z.toNat = n) : UInt8.ofNat n = z.toNat.toUInt8 := by subst h; rfl
theorem encode_ok (n : Nat) (h : Ru.okR (n : Int)) : Utf8.encode (n : Int) = ⟨(Lib.encodeRune (n : Int)).toArray⟩ := by
  have hv : Utf8.valid (n : Int) = true := by
    unfold Ru.okR at h
    unfold Utf8.valid
    simp only [Bool.or_eq_true, Bool.and_eq_true, decide_eq_true_eq]
    omega
  unfold Utf8.encode Lib.encodeRune
  unfold Ru.okR at h
  simp only [hv, if_true, Int.toNat_natCast]
  by_cases c1 : n < 128
  · rw [if_pos c1, Lib.encodeRuneZ_one (by omega) (by omega), ub n (n : Int) (by omega)]
    rfl
  rw [if_neg c1]
  by_cases c2 : n < 2048
  · rw [if_pos c2, Lib.encodeRuneZ_two (by omega) (by omega), ub _ (192 + (n : Int) / 64) (by omega), ub _ (128 + (n : Int) % 64) (by omega)]
    rfl
  rw [if_neg c2]
  by_cases c3 : n < 65536
  · rw [if_pos c3, Lib.encodeRuneZ_three (by omega), ub _ (224 + (n : Int) / 4096) (by omega), ub _ (128 + (n : Int) / 64 % 64) (by omega), ub _ (128 + (n : Int) % 64) (by omega)]
    rfl
  rw [if_neg c3, Lib.encodeRuneZ_four (by omega) (by omega), ub _ (240 + (n : Int) / 262144) (by omega), ub _ (128 + (n : Int) / 4096 % 64) (by omega), ub _ (128 + (n : Int) / 64 % 64) (by omega), ub _ (128 + (n : Int) % 64) (by omega)]
  rfl
theorem encode_no (r : Int) (h : ¬ Ru.okR r) : Utf8.encode r = Utf8.encode 65533 := by
  have hv : Utf8.valid r = false := by
    unfold Ru.okR at h
    unfold Utf8.valid
    rw [Bool.eq_false_iff]
    simp only [ne_eq, Bool.or_eq_true, Bool.and_eq_true, decide_eq_true_eq]
    omega
  unfold Utf8.encode
  rw [hv]
  rfl
theorem encode_eq (r : Int) : Utf8.encode r = ⟨(Lib.encodeRune r).toArray⟩ := by
  by_cases h : Ru.okR r
  · obtain ⟨n, rfl⟩ := Int.eq_ofNat_of_zero_le (a := r) (by unfold Ru.okR at h; omega)
    exact encode_ok n h
  · rw [encode_no r h, Ru.encode_bad h]
    exact encode_ok 65533 (by unfold Ru.okR; omega)

theorem runesBytes_foldl : ∀ (rs : List Int) (a : ByteArray), rs.foldl (fun r n => r ++ Utf8.encode n) a = ⟨a.data ++ (Ru.encs rs).toArray⟩
  | [], a => by simp [Ru.encs]
  | r :: rs, a => by
    rw [List.foldl_cons, runesBytes_foldl rs, Ru.encs_cons, encode_eq]
    simp
theorem runesBytes_eq (rs : List Int) : runesBytes rs = ⟨(Ru.encs rs).toArray⟩ := by
  unfold runesBytes
  rw [runesBytes_foldl]
  simp

/-- 'string(rs)' of characters that can be read. -/
theorem run_string {P : Program} (w : World) (src dst e : TypeId) (v : Value) (rs : List Int) (hs : P.underlying src = some (.slice e)) (he : P.underlying e = some (.int .i32)) (hd : P.underlying dst = some .string) (h : IntsAt .i32 w v rs) :
    (convert src dst v).run P w = .ok (.string ⟨(Ru.encs rs).toArray⟩) w := by
  rcases h with ⟨rfl, rfl⟩ | ⟨b, off, cap, rfl, _, hc⟩
  · exact run_convert_runes_nil w src dst e 0 0 hs he hd
  · have := run_convert_runes w src dst e ⟨b, off, none⟩ rs.length cap rs (Nat.le_refl _) hs he hd (fun j hj => by
      rw [addr_add]
      exact hc j hj)
    rw [List.take_length, runesBytes_eq] at this
    exact this
end Go.Proofs.Ytdikkknjdbchbaa.Sl
