/-
  Numbers: exact.own.
  exact.Sound of any number, check.
-/
import Derived.Test.YtikmebkfdpbidaaGreatDoorRtAddT
import Derived.Test.YtikmebkfdpbidaaGreatDoorTc
namespace Go.Proofs.YtikmebkfdpbidaaGreatDoor
open Go.RowKit
set_option linter.unusedVariables false
set_option linter.unusedSimpArgs false
/-- Two boxes behind a world. -/
theorem Rt.two (w : World) (o o2 : Obj) : ∃ W2, (w.alloc o).alloc o2 = W2 ∧ W2.heap[w.heap.size]? = some o ∧ W2.heap[w.heap.size + 1]? = some o2 ∧ W2.heap.size = w.heap.size + 2 ∧ Below w.heap.size w W2 := by
  have h1 : (w.alloc o).heap.size = w.heap.size + 1 := by simp
  refine ⟨_, rfl, ?_, ?_, by simp, ?_⟩
  · exact (Lib.alloc_old _ _ _ (by rw [h1]; omega)).trans (heap_alloc_new w o)
  · have := heap_alloc_new (w.alloc o) o2
    rwa [h1] at this
  · exact ((Below.refl _ _).alloc (Nat.le_refl _) _).alloc (by rw [h1]; omega) _
/-- A number's value: what is real, what is imaginary. -/
def Rt.Q (w : World) (v : Value) (s : Bool) (t b : Nat) (s2 : Bool) (t2 b2 : Nat) : Prop := ∃ tv bv tv2 bv2, v = .agg #[.bool s, tv, bv, .bool s2, tv2, bv2] ∧ Nt.N w tv t ∧ Nt.N w bv b ∧ Nt.N w tv2 t2 ∧ Nt.N w bv2 b2
theorem Rt.Q.below {w w' : World} {v : Value} {s : Bool} {t b : Nat} {s2 : Bool} {t2 b2 B : Nat} (h : Rt.Q w v s t b s2 t2 b2) (hb : Below B w w') (hB : w.heap.size ≤ B) : Rt.Q w' v s t b s2 t2 b2 := by
  obtain ⟨tv, bv, tv2, bv2, hv, h1, h2, h3, h4⟩ := h
  exact ⟨tv, bv, tv2, bv2, hv, h1.below hb hB, h2.below hb hB, h3.below hb hB, h4.below hb hB⟩
theorem Rt.noWords6 {s s2 : Bool} {a1 a2 a3 a4 : Option Addr} {n1 n2 n3 n4 c1 c2 c3 c4 : Nat} : ∀ (k : Nat) (n : Int), (#[Value.bool s, .slice a1 n1 c1, .slice a2 n2 c2, .bool s2, .slice a3 n3 c3, .slice a4 n4 c4] : Array Value)[k]? ≠ some (.int .u32 n) := by
  intro k n h
  have hm := Array.mem_of_getElem? h
  simp at hm
theorem Rt.cells6 {w : World} {b : Nat} {v0 v1 v2 v3 v4 v5 : Value} {t : TypeId} (h : w.heap[b]? = some (.cells #[v0, v1, v2, v3, v4, v5] t (0, 0))) : w.cell? ⟨b, 0, none⟩ = some v0 ∧ w.cell? ⟨b, 1, none⟩ = some v1 ∧ w.cell? ⟨b, 2, none⟩ = some v2 ∧ w.cell? ⟨b, 3, none⟩ = some v3 ∧ w.cell? ⟨b, 4, none⟩ = some v4 ∧ w.cell? ⟨b, 5, none⟩ = some v5 := ⟨Rt.cell_of h 0, Rt.cell_of h 1, Rt.cell_of h 2, Rt.cell_of h 3, Rt.cell_of h 4, Rt.cell_of h 5⟩
/-- Six cells are stored. -/
theorem Rt.put6 {w : World} {b : Nat} {v0 v1 v2 v3 v4 v5 : Value} {t : TypeId} (h : w.heap[b]? = some (.cells #[v0, v1, v2, v3, v4, v5] t (0, 0))) (u0 u1 u2 u3 u4 u5 : Value) :
    ∃ W1 W2 W3 W4 W5 W6 : World,
    (w.cell? ⟨b, 0, none⟩ = some v0 ∧ w.frozen? ⟨b, 0, none⟩ = false ∧ w.setCell ⟨b, 0, none⟩ u0 = W1) ∧
    (W1.cell? ⟨b, 1, none⟩ = some v1 ∧ W1.frozen? ⟨b, 1, none⟩ = false ∧ W1.setCell ⟨b, 1, none⟩ u1 = W2) ∧
    (W2.cell? ⟨b, 2, none⟩ = some v2 ∧ W2.frozen? ⟨b, 2, none⟩ = false ∧ W2.setCell ⟨b, 2, none⟩ u2 = W3) ∧
    (W3.cell? ⟨b, 3, none⟩ = some v3 ∧ W3.frozen? ⟨b, 3, none⟩ = false ∧ W3.setCell ⟨b, 3, none⟩ u3 = W4) ∧
    (W4.cell? ⟨b, 4, none⟩ = some v4 ∧ W4.frozen? ⟨b, 4, none⟩ = false ∧ W4.setCell ⟨b, 4, none⟩ u4 = W5) ∧
    (W5.cell? ⟨b, 5, none⟩ = some v5 ∧ W5.frozen? ⟨b, 5, none⟩ = false ∧ W5.setCell ⟨b, 5, none⟩ u5 = W6) ∧
    (W6.cell? ⟨b, 0, none⟩ = some u0 ∧ W6.cell? ⟨b, 1, none⟩ = some u1 ∧ W6.cell? ⟨b, 2, none⟩ = some u2 ∧ W6.cell? ⟨b, 3, none⟩ = some u3 ∧ W6.cell? ⟨b, 4, none⟩ = some u4 ∧ W6.cell? ⟨b, 5, none⟩ = some u5) ∧
    Hid (W6.heap[b]? = some (.cells #[u0, u1, u2, u3, u4, u5] t (0, 0)) ∧ W6.heap.size = w.heap.size ∧ (∀ q, q ≠ b → W6.heap[q]? = w.heap[q]?) ∧ ∀ (B : Nat) (w0 : World), Below B w0 w → B ≤ b → Below B w0 W6) := by
  obtain ⟨A1, h1⟩ : ∃ z, w.setCell ⟨b, 0, none⟩ u0 = z := ⟨_, rfl⟩
  obtain ⟨A2, h2⟩ : ∃ z, A1.setCell ⟨b, 1, none⟩ u1 = z := ⟨_, rfl⟩
  obtain ⟨A3, h3⟩ : ∃ z, A2.setCell ⟨b, 2, none⟩ u2 = z := ⟨_, rfl⟩
  obtain ⟨A4, h4⟩ : ∃ z, A3.setCell ⟨b, 3, none⟩ u3 = z := ⟨_, rfl⟩
  obtain ⟨A5, h5⟩ : ∃ z, A4.setCell ⟨b, 4, none⟩ u4 = z := ⟨_, rfl⟩
  obtain ⟨A6, h6⟩ : ∃ z, A5.setCell ⟨b, 5, none⟩ u5 = z := ⟨_, rfl⟩
  have g1 : A1.heap[b]? = some (.cells #[u0, v1, v2, v3, v4, v5] t (0, 0)) := h1 ▸ Rt.setCells h 0 u0
  have g2 : A2.heap[b]? = some (.cells #[u0, u1, v2, v3, v4, v5] t (0, 0)) := h2 ▸ Rt.setCells g1 1 u1
  have g3 : A3.heap[b]? = some (.cells #[u0, u1, u2, v3, v4, v5] t (0, 0)) := h3 ▸ Rt.setCells g2 2 u2
  have g4 : A4.heap[b]? = some (.cells #[u0, u1, u2, u3, v4, v5] t (0, 0)) := h4 ▸ Rt.setCells g3 3 u3
  have g5 : A5.heap[b]? = some (.cells #[u0, u1, u2, u3, u4, v5] t (0, 0)) := h5 ▸ Rt.setCells g4 4 u4
  have g6 : A6.heap[b]? = some (.cells #[u0, u1, u2, u3, u4, u5] t (0, 0)) := h6 ▸ Rt.setCells g5 5 u5
  refine ⟨A1, A2, A3, A4, A5, A6, ⟨Rt.cell_of h 0, Rt.frozen_of h 0, h1⟩, ⟨Rt.cell_of g1 1, Rt.frozen_of g1 1, h2⟩, ⟨Rt.cell_of g2 2, Rt.frozen_of g2 2, h3⟩, ⟨Rt.cell_of g3 3, Rt.frozen_of g3 3, h4⟩, ⟨Rt.cell_of g4 4, Rt.frozen_of g4 4, h5⟩, ⟨Rt.cell_of g5 5, Rt.frozen_of g5 5, h6⟩, Rt.cells6 g6, Lib.hid ⟨g6, ?_, fun q hq => ?_, fun B w0 hb hB => ?_⟩⟩
  · subst h1 h2 h3 h4 h5 h6
    simp
  · subst h1 h2 h3 h4 h5 h6
    rw [Below.heap_setCell _ ⟨b, 5, none⟩ _ q hq, Below.heap_setCell _ ⟨b, 4, none⟩ _ q hq, Below.heap_setCell _ ⟨b, 3, none⟩ _ q hq, Below.heap_setCell _ ⟨b, 2, none⟩ _ q hq, Below.heap_setCell _ ⟨b, 1, none⟩ _ q hq, Below.heap_setCell _ ⟨b, 0, none⟩ _ q hq]
  · subst h1 h2 h3 h4 h5 h6
    exact (((((hb.setCell (p := ⟨b, 0, none⟩) hB _).setCell (p := ⟨b, 1, none⟩) hB _).setCell (p := ⟨b, 2, none⟩) hB _).setCell (p := ⟨b, 3, none⟩) hB _).setCell (p := ⟨b, 4, none⟩) hB _).setCell (p := ⟨b, 5, none⟩) hB _
/-- A slice that lies in blocks from B on, if in any. -/
def Nt.Fr (B : Nat) (v : Value) : Prop := ∀ b off l c, v = .slice (some ⟨b, off, none⟩) l c → B ≤ b
theorem Nt.Fr.mono {B B' : Nat} {v : Value} (h : Nt.Fr B v) (hB : B' ≤ B) : Nt.Fr B' v := fun b off l c e => Nat.le_trans hB (h b off l c e)
theorem Nt.Fr.own {w : World} {B : Nat} {t : TypeId} {v : Value} {n : Nat} {xs : List Value} (h : w.ownsRow B t 1 v n xs) : Nt.Fr B v := by
  intro b off l c e
  rcases h.2 with ⟨hv, _⟩ | ⟨g, cap, cur, hv, hB, _⟩
  · rw [hv] at e; simp at e
  · rw [hv] at e
    simp only [Value.slice.injEq, Option.some.injEq, Addr.mk.injEq] at e
    omega
theorem Nt.Clone_fr (ws : List Nat) (v : Value) (w : World) (h : Nt.In w v ws) (hl : ws.length ≤ 1000000) : Calls Tryz.prog 173 #[v] w fun e w' => ∃ v', e = .returned v' ∧ Nt.In w' v' ws ∧ Nt.Fr w.heap.size v' ∧ Below w.heap.size w w' :=
  (Nt.Clone_own ws v w h hl).mono fun _ _ ⟨v', he, ho, hb⟩ => ⟨v', he, Nt.In.of_own ho, Nt.Fr.own ho, hb⟩
/-- A fraction whose words lie in blocks from B on. -/
def Rt.Fr (B : Nat) (v : Value) : Prop := ∃ s tv bv, v = .agg #[s, tv, bv] ∧ Nt.Fr B tv ∧ Nt.Fr B bv
set_option maxHeartbeats 8000000 in
set_option maxRecDepth 1000000 in
theorem Rt.own1_any (s : Bool) (t b : Nat) (v : Value) (w : World) (h : Rt.R w v s t b) (hl : (Nt.dig t).length ≤ 400000 ∧ (Nt.dig b).length ≤ 400000) :
    Calls Tryz.prog 212 #[v] w fun e w' => ∃ v', e = .returned v' ∧ Rt.R w' v' s t b ∧ Rt.Fr w.heap.size v' ∧ Below w.heap.size w w' := by
  have KT := fun v w h => Nt.Clone_fr (Nt.dig t) v w h (by omega)
  have KB := fun v w h => Nt.Clone_fr (Nt.dig b) v w h (by omega)
  clear hl
  obtain ⟨tv1, bv1, rfl, hn1, hd1⟩ := h
  obtain ⟨a1, c1, rfl⟩ := Nt.In.slice hn1
  obtain ⟨a2, c2, rfl⟩ := Nt.In.slice hd1
  generalize (Nt.dig t).length = l1 at *
  generalize (Nt.dig b).length = l2 at *
  obtain ⟨W2, hW2, q0, q1, hsz, hb0⟩ := Rt.two w (.cells #[.bool s, .slice a1 l1 c1, .slice a2 l2 c2] 24) (.cells #[.bool false, .slice none 0 0, .slice none 0 0] 24)
  have HI := Lib.hid (fun (w' : World) (hb : Below W2.heap.size W2 w') => And.intro ((Nt.N.below hn1 hb0 (Nat.le_refl _)).below hb (Nat.le_refl _)) ((Nt.N.below hd1 hb0 (Nat.le_refl _)).below hb (Nat.le_refl _)))
  have HK := Lib.hid (fun (w' : World) (hb : Below W2.heap.size W2 w') => Rt.cells3 ((hb.block w.heap.size (by omega)).trans q0))
  have HR := Lib.hid (fun (w' : World) (hb : Below W2.heap.size W2 w') => (hb.block (w.heap.size + 1) (by omega)).trans q1)
  have HKX := Lib.hid (fun (w' w'' : World) (hb : Below W2.heap.size W2 w') (hx : ∀ q, q ≠ w.heap.size + 1 → w''.heap[q]? = w'.heap[q]?) => (Rt.cells3 ((hx w.heap.size (by omega)).trans ((hb.block w.heap.size (by omega)).trans q0))))
  have HB := Lib.hid (fun (w' : World) (hb : Below W2.heap.size W2 w') => hb0.trans (hb.mono (by omega : w.heap.size ≤ W2.heap.size)))
  have hacc : Below W2.heap.size W2 W2.drew := Rt.belowD (Below.refl _ _)
  have hkeep := HK.out _ hacc
  have HZ : Hid (∀ w', Below W2.heap.size W2 w' → w.heap.size ≤ w'.heap.size) := Lib.hid (fun w' hb => by have := hb.size; omega)
  clear q0 q1 hb0 hn1 hd1 hsz
  go_enter Tryz.func212, Tryz.ntmps212
  go_wp2_with fail
  clear hW2
  go_region_held3 (fun w' => w'.cell? ⟨w.heap.size, 0, none⟩ = some (.bool s) ∧ w'.cell? ⟨w.heap.size, 1, none⟩ = some (.slice a1 l1 c1) ∧ w'.cell? ⟨w.heap.size, 2, none⟩ = some (.slice a2 l2 c2))
    (first | exact hkeep | exact hkeepX)
    (first
      | (go_at_call_of 173 (Value.slice a1 l1 c1)
         refine (KT _ _ (HI.out _ hacc).1).mono ?_
         rintro x w5 ⟨v5, rfl, hv5, hf5, hb5⟩
         have hf5 := Lib.hid (hf5.mono (HZ.out _ hacc))
         have hacc := Rt.belowT hacc hb5
         have hkeep := HK.out _ hacc)
      | (go_at_call_of 173 (Value.slice a2 l2 c2)
         refine (KB _ _ (HI.out _ hacc).2).mono ?_
         rintro x w6 ⟨v6, rfl, hv6, hf6, hb6⟩
         have hf6 := Lib.hid (hf6.mono (HZ.out _ hacc))
         have hn : Nt.N w6 v5 t := Nt.In.below hv5 hb6 (Nat.le_refl _)
         have hd : Nt.N w6 v6 b := hv6
         obtain ⟨a5, c5, rfl⟩ := Nt.In.slice hn
         obtain ⟨a6, c6, rfl⟩ := Nt.In.slice hd
         have hacc := Rt.belowT hacc hb6
         have hkeep := HK.out _ hacc
         obtain ⟨X1, X2, X3, ⟨f0, z0, s0⟩, ⟨f1, z1, s1'⟩, ⟨f2, z2, s2'⟩, ⟨r0, r1, r2'⟩, HX⟩ := Rt.put3 (HR.out _ hacc) (.bool s) (.slice a5 (Nt.dig t).length c5) (.slice a6 (Nt.dig b).length c6)
         have HOUT : Hid (Nt.N X3 (.slice a5 (Nt.dig t).length c5) t ∧ Nt.N X3 (.slice a6 (Nt.dig b).length c6) b ∧ Below w.heap.size w X3) := Lib.hid ⟨Nt.In.othr hn (HR.out _ hacc) Rt.noWords HX.out.2.2.1 HX.out.2.1, Nt.In.othr hd (HR.out _ hacc) Rt.noWords HX.out.2.2.1 HX.out.2.1, HX.out.2.2.2 _ _ (HB.out _ hacc) (by omega)⟩
         have hkeepX := HKX.out _ X3 hacc HX.out.2.2.1))
  all_goals
    clear hkeep hkeepX hacc hb5 hb6 hv5 hv6 hn hd HX
    generalize (Nt.dig t).length = l5 at *
    generalize (Nt.dig b).length = l6 at *
    go_wp2_with fail
    refine bodyPost_ret (v := .agg #[.bool s, .slice a5 l5 c5, .slice a6 l6 c6]) (by simp [results, Tryz.results212, go_sem, r0, r1, r2']) rfl ⟨_, rfl, ⟨_, _, rfl, HOUT.out.1, HOUT.out.2.1⟩, ⟨_, _, _, rfl, hf5.out, hf6.out⟩, HOUT.out.2.2⟩
end Go.Proofs.YtikmebkfdpbidaaGreatDoor
namespace Go.Proofs.YtikmebkfdpbidaaGreatDoor
open Go.RowKit
set_option linter.unusedVariables false
set_option linter.unusedSimpArgs false

/-- A number as it may come. -/
structure Rt.GN (w : World) (v : Value) (s : Bool) (t b : List Nat) (s2 : Bool) (t2 b2 : List Nat) : Prop where
  form : ∃ v3 v4 v6 v7, v = .agg #[.bool s, v3, v4, .bool s2, v6, v7] ∧ Nt.In w v3 t ∧ Nt.In w v4 b ∧ Nt.In w v6 t2 ∧ Nt.In w v7 b2
  ok1 : Rt.GOk t b
  ok2 : Rt.GOk t2 b2
theorem Rt.GN.below {w w' : World} {v : Value} {s s2 : Bool} {t b t2 b2 : List Nat} {B : Nat} (h : Rt.GN w v s t b s2 t2 b2) (hb : Below B w w') (hB : w.heap.size ≤ B) : Rt.GN w' v s t b s2 t2 b2 := by
  obtain ⟨⟨v3, v4, v6, v7, e, h1, h2, h3, h4⟩, o1, o2⟩ := h
  exact ⟨⟨v3, v4, v6, v7, e, h1.below hb hB, h2.below hb hB, h3.below hb hB, h4.below hb hB⟩, o1, o2⟩
def Rt.soundN (s : Bool) (t b : List Nat) (s2 : Bool) (t2 b2 : List Nat) : Bool := Rt.sound s t b && Rt.sound s2 t2 b2
set_option maxHeartbeats 4000000 in
set_option maxRecDepth 1000000 in
theorem Rt.Sound_any (s : Bool) (t b : List Nat) (s2 : Bool) (t2 b2 : List Nat) (v : Value) (w : World) (h : Rt.GN w v s t b s2 t2 b2) : Calls Tryz.prog 118 #[v] w fun e w' => e = .returned (.bool (Rt.soundN s t b s2 t2 b2)) ∧ Below w.heap.size w w' := by
  obtain ⟨⟨v3, v4, v6, v7, rfl, h1, h2, h3, h4⟩, o1, o2⟩ := h
  have K1 := fun w h => Rt.ratSound_any s t b (.agg #[.bool s, v3, v4]) w h o1
  have K2 := fun w h => Rt.ratSound_any s2 t2 b2 (.agg #[.bool s2, v6, v7]) w h o2
  obtain ⟨a1, c1, rfl⟩ := h1.slice
  obtain ⟨a2, c2, rfl⟩ := h2.slice
  obtain ⟨a3, c3, rfl⟩ := h3.slice
  obtain ⟨a4, c4, rfl⟩ := h4.slice
  obtain ⟨W, hW⟩ : ∃ W, w.alloc (.cells #[.bool s, .slice a1 t.length c1, .slice a2 b.length c2, .bool s2, .slice a3 t2.length c3, .slice a4 b2.length c4] 26) = W := ⟨_, rfl⟩
  have q0 : W.heap[w.heap.size]? = some (.cells #[.bool s, .slice a1 t.length c1, .slice a2 b.length c2, .bool s2, .slice a3 t2.length c3, .slice a4 b2.length c4] 26 (0, 0)) := by rw [← hW]; exact heap_alloc_new w _
  have hb0 : Below w.heap.size w W := by rw [← hW]; exact (Below.refl _ _).alloc (Nat.le_refl _) _
  have HI := Lib.hid (fun (w' : World) (hb : Below W.heap.size W w') => And.intro (show Rt.G w' (.agg #[.bool s, .slice a1 t.length c1, .slice a2 b.length c2]) s t b from ⟨_, _, rfl, (h1.below hb0 (Nat.le_refl _)).below hb (Nat.le_refl _), (h2.below hb0 (Nat.le_refl _)).below hb (Nat.le_refl _)⟩) (show Rt.G w' (.agg #[.bool s2, .slice a3 t2.length c3, .slice a4 b2.length c4]) s2 t2 b2 from ⟨_, _, rfl, (h3.below hb0 (Nat.le_refl _)).below hb (Nat.le_refl _), (h4.below hb0 (Nat.le_refl _)).below hb (Nat.le_refl _)⟩))
  have hzw : w.heap.size < W.heap.size := (Array.getElem?_eq_some_iff.1 q0).1
  have HK := Lib.hid (fun (w' : World) (hb : Below W.heap.size W w') => Rt.cells6 ((hb.block w.heap.size hzw).trans q0))
  have HB := Lib.hid (fun (w' : World) (hb : Below W.heap.size W w') => hb0.trans (hb.mono (by omega : w.heap.size ≤ W.heap.size)))
  obtain ⟨d0, d1, d2, d3, d4, d5⟩ := HK.out _ (Below.refl _ _)
  clear h1 h2 h3 h4 o1 o2 q0 hb0 hzw
  unfold Rt.soundN
  generalize Rt.sound s t b = S1 at *
  generalize Rt.sound s2 t2 b2 = S2 at *
  generalize t.length = l1 at *
  generalize b.length = l2 at *
  generalize t2.length = l3 at *
  generalize b2.length = l4 at *
  rcases S1 with _ | _
  · go_enter Tryz.func118, Tryz.ntmps118
    go_wp2_with fail
    refine (K1 _ (HI.out _ (Below.refl _ _)).1).mono ?_
    rintro x w1 ⟨rfl, hb1⟩
    have HB1 := Lib.hid (HB.out _ hb1)
    clear hb1 hW
    go_wp2_with fail
    go_ret
    exact ⟨by simp, HB1.out⟩
  · go_enter Tryz.func118, Tryz.ntmps118
    go_wp2_with fail
    refine (K1 _ (HI.out _ (Below.refl _ _)).1).mono ?_
    rintro x w1 ⟨rfl, hb1⟩
    have HBB := Lib.hid hb1
    clear d0 d1 d2 d3 d4 d5
    obtain ⟨d0, d1, d2, d3, d4, d5⟩ := HK.out _ hb1
    clear hb1 hW
    go_wp2_with fail
    refine (K2 _ (HI.out _ HBB.out).2).mono ?_
    rintro x w2 ⟨rfl, hb2⟩
    have HB2 := Lib.hid (HB.out _ (HBB.out.trans (hb2.mono HBB.out.size)))
    clear hb2
    go_wp2_with fail
    go_ret
    exact ⟨by simp, HB2.out⟩
end Go.Proofs.YtikmebkfdpbidaaGreatDoor
