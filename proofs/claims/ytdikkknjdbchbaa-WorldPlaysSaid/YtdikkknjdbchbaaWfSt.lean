/-
  The memory of WorldFiles: its world, what it holds, and which files are there.
-/
import Derived.Test.YtdikkknjdbchbaaWfPlain
import Derived.Test.YtdikkknjdbchbaaWoPut
namespace Go.Proofs.Ytdikkknjdbchbaa
open Go.RowKit
set_option linter.unusedVariables false

/-- Cells that hold neither a number nor a text. -/
def Wf.Oth (C : Array Value) : Prop := ∀ (k : Nat) (u : Value), C[k]? = some u → (∃ a n c, u = Value.slice a n c) ∨ ∃ b, u = Value.bool b
theorem By.In.othr {w w' : World} {v : Value} {s : ByteArray} {r : Nat} {C : Array Value} {t : TypeId} (h : By.In w v s) (hr : w.heap[r]? = some (.cells C t (0, 0))) (hC : Wf.Oth C) (hk : ∀ q, q ≠ r → w'.heap[q]? = w.heap[q]?) (hs : w.heap.size ≤ w'.heap.size) : By.In w' v s := by
  rcases h with h | h | ⟨h0, b, off, c, h1, h2, h3, hc⟩
  · exact .inl h
  · exact .inr (.inl h)
  · refine .inr (.inr ⟨h0, b, off, c, h1, h2, by omega, fun j hj => ?_⟩)
    rw [← hc j hj]
    refine World.cell?_of_block (hk b ?_)
    rintro rfl
    have := hc 0 h0
    rw [Dt.cell_of hr] at this
    rcases hC _ _ this with ⟨_, _, _, hh⟩ | ⟨_, hh⟩ <;> cases hh
theorem Wo.In.othr {w w' : World} {v : Value} {W : Wo.W} {r : Nat} {C : Array Value} {t : TypeId} (h : Wo.In w v W) (hr : w.heap[r]? = some (.cells C t (0, 0))) (hC : Wf.Oth C) (hk : ∀ q, q ≠ r → w'.heap[q]? = w.heap[q]?) (hs : w.heap.size ≤ w'.heap.size) : Wo.In w' v W := by
  obtain ⟨fv, iv, ov, hv, hf, hi, ho⟩ := h
  refine ⟨fv, iv, ov, hv, ?_, hi.othr hr hC hk hs, ho.othr hr hC hk hs⟩
  rcases hf with h | h | ⟨h0, b, off, c, h1, h2, h3, hc⟩
  · exact .inl h
  · exact .inr (.inl h)
  · have hb : b ≠ r := by
      rintro rfl
      have := (hc 0 h0).1
      rw [Dt.cell_of hr] at this
      rcases hC _ _ this with ⟨_, _, _, hh⟩ | ⟨_, hh⟩ <;> cases hh
    refine .inr (.inr ⟨h0, b, off, c, h1, h2, by omega, fun k hk2 => ?_⟩)
    obtain ⟨c0, dv, c1, hd⟩ := hc k hk2
    exact ⟨(World.cell?_of_block (hk b hb)).trans c0, dv, (World.cell?_of_block (hk b hb)).trans c1, hd.othr hr hC hk hs⟩

/-- What lies in the three blocks behind B. -/
def Wf.St (B : Nat) (w : World) (W : Wo.W) (h : Nat → ByteArray) (t : Nat → Bool) : Prop :=
  (∃ fv iv ov, w.heap[B]? = some (.cells #[fv, iv, ov] 26 (0, 0)) ∧ Wo.In w (.agg #[fv, iv, ov]) W) ∧
  (∃ C, w.heap[B + 1]? = some (.cells C 22 (0, 0)) ∧ C.size = 8 ∧ ∀ k, k < 8 → ∃ v, C[k]? = some v ∧ By.In w v (h k)) ∧
  (∃ D, w.heap[B + 2]? = some (.cells D 4 (0, 0)) ∧ D.size = 8 ∧ ∀ k, k < 8 → D[k]? = some (.bool (t k)))
theorem Wf.oth3 {a b c : Value} {w : World} {W : Wo.W} (h : Wo.In w (.agg #[a, b, c]) W) : Wf.Oth #[a, b, c] := by
  obtain ⟨fv, iv, ov, hv, hf, hi, ho⟩ := h
  simp only [Value.agg.injEq, Array.mk.injEq, List.cons.injEq, and_true] at hv
  obtain ⟨rfl, rfl, rfl⟩ := hv
  obtain ⟨a0, c0, rfl⟩ := hf.slice
  obtain ⟨a1, c1, rfl⟩ := hi.slice
  obtain ⟨a2, c2, rfl⟩ := ho.slice
  intro k u hu
  have hm := Array.mem_of_getElem? hu
  simp only [List.mem_toArray, List.mem_cons, List.not_mem_nil, or_false] at hm
  left
  rcases hm with rfl | rfl | rfl <;> exact ⟨_, _, _, rfl⟩
theorem Wf.St.othH {B : Nat} {w : World} {h : Nat → ByteArray} {C : Array Value} (hz : C.size = 8) (hc : ∀ k, k < 8 → ∃ v, C[k]? = some v ∧ By.In w v (h k)) : Wf.Oth C := by
  intro k u hu
  have hk : k < 8 := by have := (Array.getElem?_eq_some_iff.1 hu).1; omega
  obtain ⟨v, hv, hi⟩ := hc k hk
  rw [hv] at hu
  cases hu
  obtain ⟨a, c, rfl⟩ := hi.slice
  exact .inl ⟨_, _, _, rfl⟩
theorem Wf.St.othT {D : Array Value} {t : Nat → Bool} (hz : D.size = 8) (hd : ∀ k, k < 8 → D[k]? = some (.bool (t k))) : Wf.Oth D := by
  intro k u hu
  have hk : k < 8 := by have := (Array.getElem?_eq_some_iff.1 hu).1; omega
  rw [hd k hk] at hu
  cases hu
  exact .inr ⟨_, rfl⟩
theorem Wf.St.below {B B2 : Nat} {w w' : World} {W : Wo.W} {h : Nat → ByteArray} {t : Nat → Bool} (s : Wf.St B w W h t) (hb : Below B2 w w') (hB : w.heap.size ≤ B2) : Wf.St B w' W h t := by
  obtain ⟨⟨fv, iv, ov, h0, hin⟩, ⟨C, h1, hz1, hc⟩, ⟨D, h2, hz2, hd⟩⟩ := s
  have up : ∀ {b : Nat} {x : Obj}, w.heap[b]? = some x → w'.heap[b]? = some x := fun {b x} hh => (hb.block b (Nat.lt_of_lt_of_le (Array.getElem?_eq_some_iff.1 hh).1 hB)).trans hh
  exact ⟨⟨fv, iv, ov, up h0, hin.below hb hB⟩, ⟨C, up h1, hz1, fun k hk => let ⟨v, hv, hi⟩ := hc k hk; ⟨v, hv, hi.below hb hB⟩⟩, ⟨D, up h2, hz2, hd⟩⟩
theorem Wf.St.othr {B : Nat} {w w' : World} {W : Wo.W} {h : Nat → ByteArray} {t : Nat → Bool} {r : Nat} {C : Array Value} {ty : TypeId} (s : Wf.St B w W h t) (hr : w.heap[r]? = some (.cells C ty (0, 0))) (hC : Wf.Oth C) (hk : ∀ q, q ≠ r → w'.heap[q]? = w.heap[q]?) (hs : w.heap.size ≤ w'.heap.size) (hrB : B + 2 < r) : Wf.St B w' W h t := by
  obtain ⟨⟨fv, iv, ov, h0, hin⟩, ⟨C1, h1, hz1, hc⟩, ⟨D, h2, hz2, hd⟩⟩ := s
  exact ⟨⟨fv, iv, ov, (hk _ (by omega)).trans h0, hin.othr hr hC hk hs⟩, ⟨C1, (hk _ (by omega)).trans h1, hz1, fun k hk2 => let ⟨v, hv, hi⟩ := hc k hk2; ⟨v, hv, hi.othr hr hC hk hs⟩⟩, ⟨D, (hk _ (by omega)).trans h2, hz2, hd⟩⟩
/-- What a step reads. -/
theorem Wf.St.reads {B : Nat} {w : World} {W : Wo.W} {h : Nat → ByteArray} {t : Nat → Bool} (s : Wf.St B w W h t) {k : Nat} (hk : k < 8) : ∃ ad cap, w.cell? ⟨B + 1, k, none⟩ = some (.slice ad (h k).size cap) ∧ By.In w (.slice ad (h k).size cap) (h k) ∧ w.cell? ⟨B + 1 + 1, k, none⟩ = some (.bool (t k)) := by
  obtain ⟨_, ⟨C, h1, hz1, hc⟩, ⟨D, h2, hz2, hd⟩⟩ := s
  obtain ⟨v, hv, hi⟩ := hc k hk
  obtain ⟨ad, cap, rfl⟩ := hi.slice
  exact ⟨ad, cap, (Dt.cell_of h1 k).trans hv, hi, (Dt.cell_of h2 k).trans (hd k hk)⟩
theorem Wf.St.world {B : Nat} {w : World} {W : Wo.W} {h : Nat → ByteArray} {t : Nat → Bool} (s : Wf.St B w W h t) : ∃ a0 n0 c0 a1 n1 c1 a2 n2 c2, w.cell? ⟨B, 0, none⟩ = some (.slice a0 n0 c0) ∧ w.cell? ⟨B, 1, none⟩ = some (.slice a1 n1 c1) ∧ w.cell? ⟨B, 2, none⟩ = some (.slice a2 n2 c2) ∧ Wo.In w (.agg #[.slice a0 n0 c0, .slice a1 n1 c1, .slice a2 n2 c2]) W ∧ n0 = W.1.length := by
  obtain ⟨⟨fv, iv, ov, h0, hin⟩, _⟩ := s
  obtain ⟨fv', iv', ov', hv, hf, hi, ho⟩ := id hin
  simp only [Value.agg.injEq, Array.mk.injEq, List.cons.injEq, and_true] at hv
  obtain ⟨rfl, rfl, rfl⟩ := hv
  obtain ⟨a0, c0, rfl⟩ := hf.slice
  obtain ⟨a1, c1, rfl⟩ := hi.slice
  obtain ⟨a2, c2, rfl⟩ := ho.slice
  exact ⟨_, _, _, _, _, _, _, _, _, Dt.cell_of h0 0, Dt.cell_of h0 1, Dt.cell_of h0 2, hin, rfl⟩
theorem Wf.set_other {w : World} {b k : Nat} {u : Value} (q : Nat) (hq : q ≠ b) : (w.setCell ⟨b, k, none⟩ u).heap[q]? = w.heap[q]? := by
  unfold World.setCell
  split
  · simp [Array.getElem?_modify, Ne.symm hq]
  · simp [Array.getElem?_modify, Ne.symm hq]
theorem Wf.set_size {w : World} {b k : Nat} {u : Value} : (w.setCell ⟨b, k, none⟩ u).heap.size = w.heap.size := by
  unfold World.setCell
  split <;> simp
/-- held[k] is stored. -/
theorem Wf.St.setH {B : Nat} {w w0 : World} {W : Wo.W} {h : Nat → ByteArray} {t : Nat → Bool} (s : Wf.St B w W h t) {k : Nat} (hk : k < 8) {v : Value} {d : ByteArray} (hd : By.In w v d) {B0 : Nat} (hb : Below B0 w0 w) (hB0 : B0 ≤ B) :
    ∃ X, w.setCell ⟨B + 1, k, none⟩ v = X ∧ (∃ u, w.cell? ⟨B + 1, k, none⟩ = some u) ∧ w.frozen? ⟨B + 1, k, none⟩ = false ∧ Wf.St B X W (Wf.upd h k d) t ∧ Below B0 w0 X ∧ X.heap.size = w.heap.size ∧
      (∀ {v : Value} {d : ByteArray}, By.In w v d → By.In X v d) ∧ (∀ {v : Value} {W : Wo.W}, Wo.In w v W → Wo.In X v W) ∧ ∀ q, q ≠ B + 1 → X.heap[q]? = w.heap[q]? := by
  obtain ⟨⟨fv, iv, ov, h0, hin⟩, ⟨C, h1, hz1, hc⟩, ⟨D, h2, hz2, hdd⟩⟩ := s
  have ho := Wf.St.othH (B := B) hz1 hc
  refine ⟨_, rfl, ?_, Dt.frozen_of h1 k, ⟨⟨fv, iv, ov, ?_, ?_⟩, ⟨C.set! k v, ?_, ?_, fun j hj => ?_⟩, ⟨D, ?_, hz2, hdd⟩⟩, Dt.below_set hb _ _ _ (by omega), Wf.set_size, fun hx => hx.othr h1 ho (fun q hq => Wf.set_other q hq) (Nat.le_of_eq Wf.set_size.symm), fun hx => hx.othr h1 ho (fun q hq => Wf.set_other q hq) (Nat.le_of_eq Wf.set_size.symm), fun q hq => Wf.set_other q hq⟩
  · obtain ⟨v0, hv0, _⟩ := hc k hk
    exact ⟨v0, (Dt.cell_of h1 k).trans hv0⟩
  · exact (Wf.set_other _ (by omega)).trans h0
  · exact hin.othr h1 ho (fun q hq => Wf.set_other q hq) (Nat.le_of_eq Wf.set_size.symm)
  · exact Dt.setCells h1 k v
  · simp [hz1]
  · by_cases hjk : j = k
    · subst hjk
      refine ⟨v, ?_, ?_⟩
      · simp [Array.set!, hz1, hk]
      · simp only [Wf.upd]
        exact hd.othr h1 ho (fun q hq => Wf.set_other q hq) (Nat.le_of_eq Wf.set_size.symm)
    · obtain ⟨v0, hv0, hi0⟩ := hc j hj
      refine ⟨v0, ?_, ?_⟩
      · rw [Array.set!, Array.getElem?_setIfInBounds, if_neg (Ne.symm hjk)]
        exact hv0
      · simp only [Wf.upd, if_neg hjk]
        exact hi0.othr h1 ho (fun q hq => Wf.set_other q hq) (Nat.le_of_eq Wf.set_size.symm)
  · exact (Wf.set_other _ (by omega)).trans h2
/-- there[k] is stored. -/
theorem Wf.St.setT {B : Nat} {w w0 : World} {W : Wo.W} {h : Nat → ByteArray} {t : Nat → Bool} (s : Wf.St B w W h t) {k : Nat} (hk : k < 8) (b : Bool) {B0 : Nat} (hb : Below B0 w0 w) (hB0 : B0 ≤ B) :
    ∃ X, w.setCell ⟨B + 1 + 1, k, none⟩ (.bool b) = X ∧ (∃ u, w.cell? ⟨B + 1 + 1, k, none⟩ = some u) ∧ w.frozen? ⟨B + 1 + 1, k, none⟩ = false ∧ Wf.St B X W h (Wf.upd t k b) ∧ Below B0 w0 X ∧ X.heap.size = w.heap.size ∧
      (∀ {v : Value} {d : ByteArray}, By.In w v d → By.In X v d) ∧ (∀ {v : Value} {W : Wo.W}, Wo.In w v W → Wo.In X v W) ∧ ∀ q, q ≠ B + 2 → X.heap[q]? = w.heap[q]? := by
  obtain ⟨⟨fv, iv, ov, h0, hin⟩, ⟨C, h1, hz1, hc⟩, ⟨D, h2, hz2, hdd⟩⟩ := s
  have ho := Wf.St.othT hz2 hdd
  have hI : ∀ {v : Value} {d : ByteArray}, By.In w v d → By.In (w.setCell ⟨B + 1 + 1, k, none⟩ (.bool b)) v d := fun hx => hx.othr h2 ho (fun q hq => Wf.set_other q hq) (Nat.le_of_eq Wf.set_size.symm)
  have hW : ∀ {v : Value} {W : Wo.W}, Wo.In w v W → Wo.In (w.setCell ⟨B + 1 + 1, k, none⟩ (.bool b)) v W := fun hx => hx.othr h2 ho (fun q hq => Wf.set_other q hq) (Nat.le_of_eq Wf.set_size.symm)
  refine ⟨_, rfl, ⟨_, (Dt.cell_of h2 k).trans (hdd k hk)⟩, Dt.frozen_of h2 k, ⟨⟨fv, iv, ov, ?_, hW hin⟩, ⟨C, ?_, hz1, fun j hj => ?_⟩, ⟨D.set! k (.bool b), ?_, ?_, fun j hj => ?_⟩⟩, Dt.below_set hb _ _ _ (by omega), Wf.set_size, hI, hW, fun q hq => Wf.set_other q hq⟩
  · exact (Wf.set_other _ (by omega)).trans h0
  · exact (Wf.set_other _ (by omega)).trans h1
  · obtain ⟨v0, hv0, hi0⟩ := hc j hj
    exact ⟨v0, hv0, hI hi0⟩
  · exact Dt.setCells h2 k _
  · simp [hz2]
  · by_cases hjk : j = k
    · subst hjk
      simp [Array.set!, hz2, hk, Wf.upd]
    · rw [Array.set!, Array.getElem?_setIfInBounds, if_neg (Ne.symm hjk), hdd j hj]
      simp [Wf.upd, hjk]
/-- A world is stored into a box of three slices. -/
theorem Wf.box {wz : World} {r : Nat} {z0 z1 z2 v : Value} {W : Wo.W} (hr : wz.heap[r]? = some (.cells #[z0, z1, z2] 26 (0, 0))) (hz : Wf.Oth #[z0, z1, z2]) (h : Wo.In wz v W) :
    ∃ (a0 : Option Addr) (n0 c0 : Nat) (a1 : Option Addr) (n1 c1 : Nat) (a2 : Option Addr) (n2 c2 : Nat) (X1 X2 X3 : World), v = .agg #[.slice a0 n0 c0, .slice a1 n1 c1, .slice a2 n2 c2] ∧
    (wz.cell? ⟨r, 0, none⟩ = some z0 ∧ wz.frozen? ⟨r, 0, none⟩ = false ∧ wz.setCell ⟨r, 0, none⟩ (.slice a0 n0 c0) = X1) ∧
    (X1.cell? ⟨r, 1, none⟩ = some z1 ∧ X1.frozen? ⟨r, 1, none⟩ = false ∧ X1.setCell ⟨r, 1, none⟩ (.slice a1 n1 c1) = X2) ∧
    (X2.cell? ⟨r, 2, none⟩ = some z2 ∧ X2.frozen? ⟨r, 2, none⟩ = false ∧ X2.setCell ⟨r, 2, none⟩ (.slice a2 n2 c2) = X3) ∧
    Hid (Wo.In X3 v W ∧ X3.heap[r]? = some (.cells #[.slice a0 n0 c0, .slice a1 n1 c1, .slice a2 n2 c2] 26 (0, 0)) ∧ X3.heap.size = wz.heap.size ∧ (∀ q, q ≠ r → X3.heap[q]? = wz.heap[q]?) ∧ ∀ (B0 : Nat) (w0 : World), Below B0 w0 wz → B0 ≤ r → Below B0 w0 X3) := by
  obtain ⟨fv, iv, ov, rfl, hf, hi, ho⟩ := id h
  obtain ⟨X1, X2, X3, ⟨f0, g0, e0, s0⟩, ⟨f1, g1, e1, s1⟩, ⟨f2, g2, e2, s2⟩, hR, hXs, hXo, hXb⟩ := Dt.put3 hr fv iv ov
  obtain ⟨a0, c0, rfl⟩ := hf.slice
  obtain ⟨a1, c1, rfl⟩ := hi.slice
  obtain ⟨a2, c2, rfl⟩ := ho.slice
  exact ⟨_, _, _, _, _, _, _, _, _, X1, X2, X3, rfl, ⟨f0, g0, e0⟩, ⟨f1, g1, e1⟩, ⟨f2, g2, e2⟩, Lib.hid ⟨h.othr hr hz (fun q hq => hXo q hq) (Nat.le_of_eq hXs.symm), hR, hXs, fun q hq => hXo q hq, fun B0 w0 hb hB0 => hXb _ _ hb hB0⟩⟩
/-- The world is stored. -/
theorem Wf.St.setW {B : Nat} {w w' : World} {W W' : Wo.W} {h : Nat → ByteArray} {t : Nat → Bool} (s : Wf.St B w W h t) {fv iv ov : Value} (hin : Wo.In w' (.agg #[fv, iv, ov]) W') (hR : w'.heap[B]? = some (.cells #[fv, iv, ov] 26 (0, 0))) (hs : w'.heap.size = w.heap.size) (hk : ∀ q, q ≠ B → w'.heap[q]? = w.heap[q]?) : Wf.St B w' W' h t := by
  obtain ⟨⟨fv0, iv0, ov0, h0, hin0⟩, ⟨C1, h1, hz1, hc⟩, ⟨D, h2, hz2, hd⟩⟩ := s
  have ho := Wf.oth3 hin0
  exact ⟨⟨fv, iv, ov, hR, hin⟩, ⟨C1, (hk _ (by omega)).trans h1, hz1, fun k hk2 => let ⟨v, hv, hi⟩ := hc k hk2; ⟨v, hv, hi.othr h0 ho hk (Nat.le_of_eq hs.symm)⟩⟩, ⟨D, (hk _ (by omega)).trans h2, hz2, hd⟩⟩
/-- The world takes another. -/
theorem Wf.St.put {B : Nat} {w w0 : World} {W W' : Wo.W} {h : Nat → ByteArray} {t : Nat → Bool} (s : Wf.St B w W h t) {a0 : Option Addr} {n0 c0 : Nat} {a1 : Option Addr} {n1 c1 : Nat} {a2 : Option Addr} {n2 c2 : Nat} (hin : Wo.In w (.agg #[.slice a0 n0 c0, .slice a1 n1 c1, .slice a2 n2 c2]) W') {B0 : Nat} (hb : Below B0 w0 w) (hB0 : B0 ≤ B) :
    ∃ (z0 z1 z2 : Value) (X1 X2 X3 : World),
    (w.cell? ⟨B, 0, none⟩ = some z0 ∧ w.frozen? ⟨B, 0, none⟩ = false ∧ w.setCell ⟨B, 0, none⟩ (.slice a0 n0 c0) = X1) ∧
    (X1.cell? ⟨B, 1, none⟩ = some z1 ∧ X1.frozen? ⟨B, 1, none⟩ = false ∧ X1.setCell ⟨B, 1, none⟩ (.slice a1 n1 c1) = X2) ∧
    (X2.cell? ⟨B, 2, none⟩ = some z2 ∧ X2.frozen? ⟨B, 2, none⟩ = false ∧ X2.setCell ⟨B, 2, none⟩ (.slice a2 n2 c2) = X3) ∧
    Hid (Wf.St B X3 W' h t ∧ Below B0 w0 X3 ∧ X3.heap.size = w.heap.size) := by
  obtain ⟨fv0, iv0, ov0, h0, hin0⟩ := s.1
  obtain ⟨_, _, _, _, _, _, _, _, _, X1, X2, X3, hv, g0, g1, g2, HX⟩ := Wf.box h0 (Wf.oth3 hin0) hin
  simp only [Value.agg.injEq, Array.mk.injEq, List.cons.injEq, Value.slice.injEq, and_true] at hv
  obtain ⟨⟨rfl, rfl, rfl⟩, ⟨rfl, rfl, rfl⟩, rfl, rfl, rfl⟩ := hv
  exact ⟨_, _, _, X1, X2, X3, g0, g1, g2, Lib.hid ⟨s.setW HX.out.1 HX.out.2.1 HX.out.2.2.1 HX.out.2.2.2.1, HX.out.2.2.2.2 _ _ hb hB0, HX.out.2.2.1⟩⟩
/-- held[k] and there[k] are stored, one behind the other. -/
theorem Wf.St.both {B : Nat} {w w0 : World} {W : Wo.W} {h : Nat → ByteArray} {t : Nat → Bool} (s : Wf.St B w W h t) {k : Nat} (hk : k < 8) {v : Value} {d : ByteArray} (hd : By.In w v d) (b : Bool) {B0 : Nat} (hb : Below B0 w0 w) (hB0 : B0 ≤ B) :
    ∃ X Y, (w.setCell ⟨B + 1, k, none⟩ v = X ∧ (∃ u, w.cell? ⟨B + 1, k, none⟩ = some u) ∧ w.frozen? ⟨B + 1, k, none⟩ = false) ∧
      (X.setCell ⟨B + 1 + 1, k, none⟩ (.bool b) = Y ∧ (∃ u, X.cell? ⟨B + 1 + 1, k, none⟩ = some u) ∧ X.frozen? ⟨B + 1 + 1, k, none⟩ = false) ∧
      Hid (Wf.St B Y W (Wf.upd h k d) (Wf.upd t k b) ∧ Below B0 w0 Y ∧ Y.heap.size = w.heap.size ∧ (∀ {v : Value} {W : Wo.W}, Wo.In w v W → Wo.In Y v W) ∧ ∀ q, q ≠ B + 1 → q ≠ B + 2 → Y.heap[q]? = w.heap[q]?) := by
  obtain ⟨X, x1, x2, x3, s1, b1, z1, _, i1, o1⟩ := s.setH hk hd hb hB0
  obtain ⟨Y, y1, y2, y3, s2, b2, z2, _, i2, o2⟩ := s1.setT hk b b1 hB0
  exact ⟨X, Y, ⟨x1, x2, x3⟩, ⟨y1, y2, y3⟩, Lib.hid ⟨s2, b2, z2.trans z1, fun hx => i2 (i1 hx), fun q h1 h2 => (o2 q h2).trans (o1 q h1)⟩⟩
theorem Wf.upd_le {h : Nat → ByteArray} {k : Nat} {d : ByteArray} {n : Nat} (hh : ∀ k, k < 8 → (h k).size ≤ n) (hd : d.size ≤ n) : ∀ j, j < 8 → (Wf.upd h k d j).size ≤ n := fun j hj => by
  unfold Wf.upd
  split
  · exact hd
  · exact hh j hj
/-- The text that is made of two bytes. -/
theorem Wf.name_at (w : World) (m : Nat) (hm : m < 8) : ∃ W5, w.alloc (.cells #[.int .u8 102, .int .u8 (48 + (m : Int))] 5) = W5 ∧ By.In W5 (.slice (some ⟨w.heap.size, 0, none⟩) 2 2) (Wf.nm m) ∧ W5.heap.size = w.heap.size + 1 ∧ Below w.heap.size w W5 := by
  refine ⟨_, rfl, .inr (.inr ⟨(show 0 < 2 by decide), w.heap.size, 0, 2, rfl, (show 2 ≤ 2 by decide), by simp, fun j hj => ?_⟩), by simp, (Below.refl _ _).alloc (Nat.le_refl _) _⟩
  have hm8 : ∀ m, m < 8 → Cd.byt (Wf.nm m) 0 = 102 ∧ Cd.byt (Wf.nm m) 1 = 48 + (m : Int) := by decide
  obtain ⟨h0, h1⟩ := hm8 m hm
  match j, hj with
  | 0, _ => simp only [World.cell?]; rw [heap_alloc_new, h0]; rfl
  | 1, _ => simp only [World.cell?]; rw [heap_alloc_new, h1]; rfl
end Go.Proofs.Ytdikkknjdbchbaa
