/-
  Numbers: exact.own.
  nat.short once more: what is left of the number lies in new memory.
  A number's decimal digits, in plain Lean.
  slices.Reverse at bytes.
  Which data are sound: plain law.
  exact.Sound of any number.
  nat.Text in tens.
  The reference's Text of words at 10.
  exact.ratText in tens.
  Numbers: exact.own, fit.
  exact.fit of numbers that are not too large.
  exact.Sound of any number, check.
  exact.check of two sound numbers.
-/
import Derived.Test.YtikmebkfdpbidaaGreatDoorShelf
import Derived.Deep.LoopGhost
import Derived.Lib.Walk
import Derived.Sort.WalkB12
import Derived.Lib.SlicesMore
import Derived.Lib.ValidU
import Derived.Laws.IdiomStrings
import Derived.Maps.AppendAt
import Derived.Laws.OwnMore
import Derived.Test.YtikmebkfdpbidaaGreatDoorRtAddW
import Derived.Test.YtikmebkfdpbidaaGreatDoorWa
import Derived.Test.YtikmebkfdpbidaaGreatDoorWc
import Derived.Test.YtikmebkfdpbidaaGreatDoorWd
namespace Go.Proofs.YtikmebkfdpbidaaGreatDoor
open Go.RowKit
set_option linter.unusedVariables false
set_option linter.unusedSimpArgs false
/-- Two boxes behind a world. -/
theorem Rt.two (w : World) (o o2 : Obj) : ∃ W2, (w.alloc o).alloc o2 = W2 ∧ W2.heap[w.heap.size]? = some o ∧ W2.heap[w.heap.size + 1]? = some o2 ∧ W2.heap.size = w.heap.size + 2 ∧ Below w.heap.size w W2 := by
  have h1 : (w.alloc o).heap.size = w.heap.size + 1 := by simp
  refine ⟨_, rfl, ?_, ?_, by simp, ?_⟩
  · exact (Lib.alloc_old _ _ _ (by rw [h1]; omega)).trans (heap_alloc_new w o)
  · have := heap_alloc_new (w.alloc o) o2
    rwa [h1] at this
  · exact ((Below.refl _ _).alloc (Nat.le_refl _) _).alloc (by rw [h1]; omega) _
/-- A number's value: what is real, what is imaginary. -/
def Rt.Q (w : World) (v : Value) (s : Bool) (t b : Nat) (s2 : Bool) (t2 b2 : Nat) : Prop := ∃ tv bv tv2 bv2, v = .agg #[.bool s, tv, bv, .bool s2, tv2, bv2] ∧ Nt.N w tv t ∧ Nt.N w bv b ∧ Nt.N w tv2 t2 ∧ Nt.N w bv2 b2
theorem Rt.Q.below {w w' : World} {v : Value} {s : Bool} {t b : Nat} {s2 : Bool} {t2 b2 B : Nat} (h : Rt.Q w v s t b s2 t2 b2) (hb : Below B w w') (hB : w.heap.size ≤ B) : Rt.Q w' v s t b s2 t2 b2 := by
  obtain ⟨tv, bv, tv2, bv2, hv, h1, h2, h3, h4⟩ := h
  exact ⟨tv, bv, tv2, bv2, hv, h1.below hb hB, h2.below hb hB, h3.below hb hB, h4.below hb hB⟩
theorem Rt.noWords6 {s s2 : Bool} {a1 a2 a3 a4 : Option Addr} {n1 n2 n3 n4 c1 c2 c3 c4 : Nat} : ∀ (k : Nat) (n : Int), (#[Value.bool s, .slice a1 n1 c1, .slice a2 n2 c2, .bool s2, .slice a3 n3 c3, .slice a4 n4 c4] : Array Value)[k]? ≠ some (.int .u32 n) := by
  intro k n h
  have hm := Array.mem_of_getElem? h
  simp at hm
theorem Rt.cells6 {w : World} {b : Nat} {v0 v1 v2 v3 v4 v5 : Value} {t : TypeId} (h : w.heap[b]? = some (.cells #[v0, v1, v2, v3, v4, v5] t (0, 0))) : w.cell? ⟨b, 0, none⟩ = some v0 ∧ w.cell? ⟨b, 1, none⟩ = some v1 ∧ w.cell? ⟨b, 2, none⟩ = some v2 ∧ w.cell? ⟨b, 3, none⟩ = some v3 ∧ w.cell? ⟨b, 4, none⟩ = some v4 ∧ w.cell? ⟨b, 5, none⟩ = some v5 := ⟨Rt.cell_of h 0, Rt.cell_of h 1, Rt.cell_of h 2, Rt.cell_of h 3, Rt.cell_of h 4, Rt.cell_of h 5⟩
/-- Six cells are stored. -/
theorem Rt.put6 {w : World} {b : Nat} {v0 v1 v2 v3 v4 v5 : Value} {t : TypeId} (h : w.heap[b]? = some (.cells #[v0, v1, v2, v3, v4, v5] t (0, 0))) (u0 u1 u2 u3 u4 u5 : Value) :
    ∃ W1 W2 W3 W4 W5 W6 : World,
    (w.cell? ⟨b, 0, none⟩ = some v0 ∧ w.frozen? ⟨b, 0, none⟩ = false ∧ w.setCell ⟨b, 0, none⟩ u0 = W1) ∧
    (W1.cell? ⟨b, 1, none⟩ = some v1 ∧ W1.frozen? ⟨b, 1, none⟩ = false ∧ W1.setCell ⟨b, 1, none⟩ u1 = W2) ∧
    (W2.cell? ⟨b, 2, none⟩ = some v2 ∧ W2.frozen? ⟨b, 2, none⟩ = false ∧ W2.setCell ⟨b, 2, none⟩ u2 = W3) ∧
    (W3.cell? ⟨b, 3, none⟩ = some v3 ∧ W3.frozen? ⟨b, 3, none⟩ = false ∧ W3.setCell ⟨b, 3, none⟩ u3 = W4) ∧
    (W4.cell? ⟨b, 4, none⟩ = some v4 ∧ W4.frozen? ⟨b, 4, none⟩ = false ∧ W4.setCell ⟨b, 4, none⟩ u4 = W5) ∧
    (W5.cell? ⟨b, 5, none⟩ = some v5 ∧ W5.frozen? ⟨b, 5, none⟩ = false ∧ W5.setCell ⟨b, 5, none⟩ u5 = W6) ∧
    (W6.cell? ⟨b, 0, none⟩ = some u0 ∧ W6.cell? ⟨b, 1, none⟩ = some u1 ∧ W6.cell? ⟨b, 2, none⟩ = some u2 ∧ W6.cell? ⟨b, 3, none⟩ = some u3 ∧ W6.cell? ⟨b, 4, none⟩ = some u4 ∧ W6.cell? ⟨b, 5, none⟩ = some u5) ∧
    Hid (W6.heap[b]? = some (.cells #[u0, u1, u2, u3, u4, u5] t (0, 0)) ∧ W6.heap.size = w.heap.size ∧ (∀ q, q ≠ b → W6.heap[q]? = w.heap[q]?) ∧ ∀ (B : Nat) (w0 : World), Below B w0 w → B ≤ b → Below B w0 W6) := by
  obtain ⟨A1, h1⟩ : ∃ z, w.setCell ⟨b, 0, none⟩ u0 = z := ⟨_, rfl⟩
  obtain ⟨A2, h2⟩ : ∃ z, A1.setCell ⟨b, 1, none⟩ u1 = z := ⟨_, rfl⟩
  obtain ⟨A3, h3⟩ : ∃ z, A2.setCell ⟨b, 2, none⟩ u2 = z := ⟨_, rfl⟩
  obtain ⟨A4, h4⟩ : ∃ z, A3.setCell ⟨b, 3, none⟩ u3 = z := ⟨_, rfl⟩
  obtain ⟨A5, h5⟩ : ∃ z, A4.setCell ⟨b, 4, none⟩ u4 = z := ⟨_, rfl⟩
  obtain ⟨A6, h6⟩ : ∃ z, A5.setCell ⟨b, 5, none⟩ u5 = z := ⟨_, rfl⟩
  have g1 : A1.heap[b]? = some (.cells #[u0, v1, v2, v3, v4, v5] t (0, 0)) := h1 ▸ Rt.setCells h 0 u0
  have g2 : A2.heap[b]? = some (.cells #[u0, u1, v2, v3, v4, v5] t (0, 0)) := h2 ▸ Rt.setCells g1 1 u1
  have g3 : A3.heap[b]? = some (.cells #[u0, u1, u2, v3, v4, v5] t (0, 0)) := h3 ▸ Rt.setCells g2 2 u2
  have g4 : A4.heap[b]? = some (.cells #[u0, u1, u2, u3, v4, v5] t (0, 0)) := h4 ▸ Rt.setCells g3 3 u3
  have g5 : A5.heap[b]? = some (.cells #[u0, u1, u2, u3, u4, v5] t (0, 0)) := h5 ▸ Rt.setCells g4 4 u4
  have g6 : A6.heap[b]? = some (.cells #[u0, u1, u2, u3, u4, u5] t (0, 0)) := h6 ▸ Rt.setCells g5 5 u5
  refine ⟨A1, A2, A3, A4, A5, A6, ⟨Rt.cell_of h 0, Rt.frozen_of h 0, h1⟩, ⟨Rt.cell_of g1 1, Rt.frozen_of g1 1, h2⟩, ⟨Rt.cell_of g2 2, Rt.frozen_of g2 2, h3⟩, ⟨Rt.cell_of g3 3, Rt.frozen_of g3 3, h4⟩, ⟨Rt.cell_of g4 4, Rt.frozen_of g4 4, h5⟩, ⟨Rt.cell_of g5 5, Rt.frozen_of g5 5, h6⟩, Rt.cells6 g6, Lib.hid ⟨g6, ?_, fun q hq => ?_, fun B w0 hb hB => ?_⟩⟩
  · subst h1 h2 h3 h4 h5 h6
    simp
  · subst h1 h2 h3 h4 h5 h6
    rw [Below.heap_setCell _ ⟨b, 5, none⟩ _ q hq, Below.heap_setCell _ ⟨b, 4, none⟩ _ q hq, Below.heap_setCell _ ⟨b, 3, none⟩ _ q hq, Below.heap_setCell _ ⟨b, 2, none⟩ _ q hq, Below.heap_setCell _ ⟨b, 1, none⟩ _ q hq, Below.heap_setCell _ ⟨b, 0, none⟩ _ q hq]
  · subst h1 h2 h3 h4 h5 h6
    exact (((((hb.setCell (p := ⟨b, 0, none⟩) hB _).setCell (p := ⟨b, 1, none⟩) hB _).setCell (p := ⟨b, 2, none⟩) hB _).setCell (p := ⟨b, 3, none⟩) hB _).setCell (p := ⟨b, 4, none⟩) hB _).setCell (p := ⟨b, 5, none⟩) hB _
/-- A slice that lies in blocks from B on, if in any. -/
def Nt.Fr (B : Nat) (v : Value) : Prop := ∀ b off l c, v = .slice (some ⟨b, off, none⟩) l c → B ≤ b
theorem Nt.Fr.mono {B B' : Nat} {v : Value} (h : Nt.Fr B v) (hB : B' ≤ B) : Nt.Fr B' v := fun b off l c e => Nat.le_trans hB (h b off l c e)
theorem Nt.Fr.own {w : World} {B : Nat} {t : TypeId} {v : Value} {n : Nat} {xs : List Value} (h : w.ownsRow B t 1 v n xs) : Nt.Fr B v := by
  intro b off l c e
  rcases h.2 with ⟨hv, _⟩ | ⟨g, cap, cur, hv, hB, _⟩
  · rw [hv] at e; simp at e
  · rw [hv] at e
    simp only [Value.slice.injEq, Option.some.injEq, Addr.mk.injEq] at e
    omega
theorem Nt.Clone_fr (ws : List Nat) (v : Value) (w : World) (h : Nt.In w v ws) (hl : ws.length ≤ 1000000) : Calls Tryz.prog 173 #[v] w fun e w' => ∃ v', e = .returned v' ∧ Nt.In w' v' ws ∧ Nt.Fr w.heap.size v' ∧ Below w.heap.size w w' :=
  (Nt.Clone_own ws v w h hl).mono fun _ _ ⟨v', he, ho, hb⟩ => ⟨v', he, Nt.In.of_own ho, Nt.Fr.own ho, hb⟩
/-- A fraction whose words lie in blocks from B on. -/
def Rt.Fr (B : Nat) (v : Value) : Prop := ∃ s tv bv, v = .agg #[s, tv, bv] ∧ Nt.Fr B tv ∧ Nt.Fr B bv
set_option maxHeartbeats 8000000 in
set_option maxRecDepth 1000000 in
theorem Rt.own1_any (s : Bool) (t b : Nat) (v : Value) (w : World) (h : Rt.R w v s t b) (hl : (Nt.dig t).length ≤ 400000 ∧ (Nt.dig b).length ≤ 400000) :
    Calls Tryz.prog 212 #[v] w fun e w' => ∃ v', e = .returned v' ∧ Rt.R w' v' s t b ∧ Rt.Fr w.heap.size v' ∧ Below w.heap.size w w' := by
  have KT := fun v w h => Nt.Clone_fr (Nt.dig t) v w h (by omega)
  have KB := fun v w h => Nt.Clone_fr (Nt.dig b) v w h (by omega)
  clear hl
  obtain ⟨tv1, bv1, rfl, hn1, hd1⟩ := h
  obtain ⟨a1, c1, rfl⟩ := Nt.In.slice hn1
  obtain ⟨a2, c2, rfl⟩ := Nt.In.slice hd1
  generalize (Nt.dig t).length = l1 at *
  generalize (Nt.dig b).length = l2 at *
  obtain ⟨W2, hW2, q0, q1, hsz, hb0⟩ := Rt.two w (.cells #[.bool s, .slice a1 l1 c1, .slice a2 l2 c2] 24) (.cells #[.bool false, .slice none 0 0, .slice none 0 0] 24)
  have HI := Lib.hid (fun (w' : World) (hb : Below W2.heap.size W2 w') => And.intro ((Nt.N.below hn1 hb0 (Nat.le_refl _)).below hb (Nat.le_refl _)) ((Nt.N.below hd1 hb0 (Nat.le_refl _)).below hb (Nat.le_refl _)))
  have HK := Lib.hid (fun (w' : World) (hb : Below W2.heap.size W2 w') => Rt.cells3 ((hb.block w.heap.size (by omega)).trans q0))
  have HR := Lib.hid (fun (w' : World) (hb : Below W2.heap.size W2 w') => (hb.block (w.heap.size + 1) (by omega)).trans q1)
  have HKX := Lib.hid (fun (w' w'' : World) (hb : Below W2.heap.size W2 w') (hx : ∀ q, q ≠ w.heap.size + 1 → w''.heap[q]? = w'.heap[q]?) => (Rt.cells3 ((hx w.heap.size (by omega)).trans ((hb.block w.heap.size (by omega)).trans q0))))
  have HB := Lib.hid (fun (w' : World) (hb : Below W2.heap.size W2 w') => hb0.trans (hb.mono (by omega : w.heap.size ≤ W2.heap.size)))
  have hacc : Below W2.heap.size W2 W2.drew := Rt.belowD (Below.refl _ _)
  have hkeep := HK.out _ hacc
  have HZ : Hid (∀ w', Below W2.heap.size W2 w' → w.heap.size ≤ w'.heap.size) := Lib.hid (fun w' hb => by have := hb.size; omega)
  clear q0 q1 hb0 hn1 hd1 hsz
  go_enter Tryz.func212, Tryz.ntmps212
  go_wp2_with fail
  clear hW2
  go_region_held3 (fun w' => w'.cell? ⟨w.heap.size, 0, none⟩ = some (.bool s) ∧ w'.cell? ⟨w.heap.size, 1, none⟩ = some (.slice a1 l1 c1) ∧ w'.cell? ⟨w.heap.size, 2, none⟩ = some (.slice a2 l2 c2))
    (first | exact hkeep | exact hkeepX)
    (first
      | (go_at_call_of 173 (Value.slice a1 l1 c1)
         refine (KT _ _ (HI.out _ hacc).1).mono ?_
         rintro x w5 ⟨v5, rfl, hv5, hf5, hb5⟩
         have hf5 := Lib.hid (hf5.mono (HZ.out _ hacc))
         have hacc := Rt.belowT hacc hb5
         have hkeep := HK.out _ hacc)
      | (go_at_call_of 173 (Value.slice a2 l2 c2)
         refine (KB _ _ (HI.out _ hacc).2).mono ?_
         rintro x w6 ⟨v6, rfl, hv6, hf6, hb6⟩
         have hf6 := Lib.hid (hf6.mono (HZ.out _ hacc))
         have hn : Nt.N w6 v5 t := Nt.In.below hv5 hb6 (Nat.le_refl _)
         have hd : Nt.N w6 v6 b := hv6
         obtain ⟨a5, c5, rfl⟩ := Nt.In.slice hn
         obtain ⟨a6, c6, rfl⟩ := Nt.In.slice hd
         have hacc := Rt.belowT hacc hb6
         have hkeep := HK.out _ hacc
         obtain ⟨X1, X2, X3, ⟨f0, z0, s0⟩, ⟨f1, z1, s1'⟩, ⟨f2, z2, s2'⟩, ⟨r0, r1, r2'⟩, HX⟩ := Rt.put3 (HR.out _ hacc) (.bool s) (.slice a5 (Nt.dig t).length c5) (.slice a6 (Nt.dig b).length c6)
         have HOUT : Hid (Nt.N X3 (.slice a5 (Nt.dig t).length c5) t ∧ Nt.N X3 (.slice a6 (Nt.dig b).length c6) b ∧ Below w.heap.size w X3) := Lib.hid ⟨Nt.In.othr hn (HR.out _ hacc) Rt.noWords HX.out.2.2.1 HX.out.2.1, Nt.In.othr hd (HR.out _ hacc) Rt.noWords HX.out.2.2.1 HX.out.2.1, HX.out.2.2.2 _ _ (HB.out _ hacc) (by omega)⟩
         have hkeepX := HKX.out _ X3 hacc HX.out.2.2.1))
  all_goals
    clear hkeep hkeepX hacc hb5 hb6 hv5 hv6 hn hd HX
    generalize (Nt.dig t).length = l5 at *
    generalize (Nt.dig b).length = l6 at *
    go_wp2_with fail
    refine bodyPost_ret (v := .agg #[.bool s, .slice a5 l5 c5, .slice a6 l6 c6]) (by simp [results, Tryz.results212, go_sem, r0, r1, r2']) rfl ⟨_, rfl, ⟨_, _, rfl, HOUT.out.1, HOUT.out.2.1⟩, ⟨_, _, _, rfl, hf5.out, hf6.out⟩, HOUT.out.2.2⟩
end Go.Proofs.YtikmebkfdpbidaaGreatDoor
namespace Go.Proofs.YtikmebkfdpbidaaGreatDoor
open Go.RowKit
set_option linter.unusedVariables false
set_option linter.unusedSimpArgs false

theorem Tx.norm_fr (ws : List Nat) (b off l cap : Nat) (w : World) (h : Nt.In w (.slice (some ⟨b, off, none⟩) l cap) ws) (hw : Nt.Wd ws) (hl : ws.length ≤ 4611686018427387904) : Calls Tryz.prog 85 #[.slice (some ⟨b, off, none⟩) l cap] w fun e w' => ∃ v', e = .returned v' ∧ Nt.N w' v' (Nt.val ws) ∧ Nt.Fr b v' ∧ Below w.heap.size w w' := by
  obtain ⟨ad, cap2, e⟩ := h.slice
  simp only [Value.slice.injEq] at e
  obtain ⟨rfl, rfl, rfl⟩ := e
  refine (Nt.norm_eq ws _ cap w h hw hl).mono fun e w' ⟨he, hb⟩ => ⟨_, he, ?_, ?_, hb⟩
  · unfold Nt.N
    have := (h.below hb (Nat.le_refl _)).takeN _ (Nt.take_dig hw).1
    rwa [(Nt.take_dig hw).2] at this
  · intro b2 off2 l2 c2 e2
    simp only [Value.slice.injEq, Option.some.injEq, Addr.mk.injEq] at e2
    omega
set_option maxHeartbeats 4000000 in
set_option maxRecDepth 1000000 in
theorem Tx.short_fr (a : List Nat) (d : Nat) (v : Value) (w : World) (h : Nt.In w v a) (ha : Nt.Wd a) (hl : a.length ≤ 500000) (hd0 : 0 < d) (hd : d < 4294967296) : Calls Tryz.prog 174 #[v, .int .u32 d] w fun e w' => ∃ v', e = .returned (.tuple #[v', .int .u32 (Nt.val a % d : Nat)]) ∧ Nt.N w' v' (Nt.val a / d) ∧ Nt.Fr w.heap.size v' ∧ Below w.heap.size w w' := by
  obtain ⟨ad, cap, rfl⟩ := h.slice
  have H := Lib.hid h
  have HA := Lib.hid ha
  have hmk := Nt.make a.length w (by omega)
  clear h ha
  obtain ⟨T, hT⟩ : ∃ T, w.heap.size = T := ⟨_, rfl⟩
  obtain ⟨w2, hw2⟩ : ∃ z, w.alloc (.cells (Nt.row (List.replicate a.length 0)) 144) = z := ⟨_, rfl⟩
  have q2 : w2.heap[T]? = some (.cells (Nt.row (List.replicate a.length 0)) 144 (0, 0)) := by rw [← hw2, ← hT]; exact heap_alloc_new w _
  have hb2 : Below w.heap.size w w2 := hw2 ▸ (Below.refl _ _).alloc (Nat.le_refl _) _
  rw [hT, hw2] at hmk
  have HT := Lib.hid hT
  have HB2 := Lib.hid hb2
  have HQ2 := Lib.hid q2
  clear hT hw2 hb2 q2
  go_enter Tryz.func174, Tryz.ntmps174
  go_wp2_with fail
  go_loopw [7, 8] (fun rv i wr => ∃ (k r : Nat) (ws : List Nat), i = .int .i64 ((k : Int) - 1) ∧ rv = .int .u64 r ∧ k ≤ a.length ∧ r < d ∧ ws.length = a.length ∧ Nt.Wd ws ∧ Nt.val (a.drop k) = d * Nt.val (ws.drop k) + r ∧ wr.heap[T]? = some (.cells (Nt.row ws) 144 (0, 0)) ∧ Below w.heap.size w wr) (fun _ i _ => (intOf i + 1).toNat)
  case atStart => exact ⟨a.length, 0, List.replicate a.length 0, by first | rfl | go_num | (simp; try omega), rfl, Nat.le_refl _, hd0, by simp, Nt.Wd.zeros _, by rw [List.drop_length, List.drop_eq_nil_of_le (by simp)]; simp [Nt.val], HQ2.out, HB2.out⟩
  case round =>
    obtain ⟨k, r, ws, rfl, rfl, hk, hr, hwl, hwd, hval, hq, hbw⟩ := hrel
    obtain ⟨wo, hwo⟩ : ∃ z, z = wr := ⟨_, rfl⟩
    subst hwo
    have HWD := Lib.hid hwd
    have HV := Lib.hid hval
    have HQ := Lib.hid hq
    have HBW := Lib.hid hbw
    have HWL := Lib.hid hwl
    clear hwd hval hq hbw hwl
    rcases k with _ | k
    · have hval := HV.out
      rw [List.drop_zero, List.drop_zero] at hval
      have hq : Nt.val ws = Nt.val a / d := by
        rw [hval, Nat.mul_add_div hd0, Nat.div_eq_of_lt hr, Nat.add_zero]
      have hm : r = Nt.val a % d := by
        rw [hval, Nat.mul_add_mod, Nat.mod_eq_of_lt hr]
      have hin : Nt.In wo (.slice (some ⟨T, 0, none⟩) a.length a.length) ws := by
        have := Nt.In.of_row HQ.out
        rw [HWL.out] at this
        exact this
      have KN := Tx.norm_fr ws T 0 _ _ wo hin HWD.out (by have := HWL.out; omega)
      rw [hq] at KN
      have HM := Lib.hid hm
      have hrw : (r : Int) % 4294967296 = (r : Int) := by omega
      clear hval hq hm hin
      go_wp2_with fail
      refine KN.mono ?_
      rintro z w8 ⟨v8, rfl, hn8, hf8, hb8⟩
      have HN8 := Lib.hid (And.intro hn8 hf8)
      have HB8 := Lib.hid (HBW.out.trans (hb8.mono HBW.out.size))
      clear hn8 hf8 hb8
      go_wp2_with fail
      go_ret2
      exact ⟨_, by rw [← HM.out]; rfl, HN8.out.1, HN8.out.2.mono (by rw [HT.out]; exact Nat.le_refl _), HB8.out⟩
    · have hk1 : (((k + 1 : Nat) : Int) - 1) = (k : Int) := by omega
      rw [hk1]
      have hkk : k < a.length := by omega
      obtain ⟨b1, o1, rfl, _, hcap1, hbl1, hcell1⟩ := (H.out.below HBW.out (Nat.le_refl _)).at (by omega)
      have c1 := hcell1 k hkk
      have hxb := HA.out.getD k
      have hstep := Nt.short_step (a := a) (ws := ws) (i := k) (r := r) (d := d) HV.out hd0 hkk (by have := HWL.out; omega)
      have hqlt := Nt.short_lt (a := a.getD k 0) (r := r) (d := d) hxb hr
      have HSTEP := Lib.hid hstep
      clear hcell1 hstep
      generalize a.getD k 0 = x at *
      have hj := Nt.join64 r x (by omega) hxb
      obtain ⟨N, hN⟩ : ∃ N, 4294967296 * r + x = N := ⟨_, rfl⟩
      rw [hN] at HSTEP hqlt hj
      have hNl : N < 18446744073709551616 := by omega
      have hsh : ((r : Int) * 4294967296) % 18446744073709551616 = (r : Int) * 4294967296 := by omega
      obtain ⟨q, hq⟩ : ∃ q, N / d = q := ⟨_, rfl⟩
      obtain ⟨m, hm⟩ : ∃ m, N % d = m := ⟨_, rfl⟩
      rw [hq] at HSTEP hqlt
      rw [hm] at HSTEP
      have hml : m < d := hm ▸ Nat.mod_lt _ hd0
      have hqI : (N : Int) / (d : Int) = (q : Int) := by rw [← hq]; rfl
      have hmI : (N : Int) % (d : Int) = (m : Int) := by rw [← hm]; rfl
      have hqw : (q : Int) % 4294967296 = (q : Int) := by omega
      obtain ⟨W, hW, e1, e2, hQ9, hB9, hS9⟩ := Nt.store HQ.out k q (by have := HWL.out; omega) HBW.out (by have := HT.out; omega)
      have hdz : ((d : Int) == 0) = false := by simp; omega
      have HQL := Lib.hid hqlt
      have HQ9 := Lib.hid hQ9
      have HB9 := Lib.hid hB9
      have HML := Lib.hid hml
      clear hN hq hm hqlt hQ9 hB9 hml hS9
      go_wp2_with fail
      go_roundw
      case rel => exact ⟨k, m, _, by first | rfl | go_num | (simp; try omega), by first | rfl | rw [hmI], by omega, HML.out, by rw [List.length_set]; exact HWL.out, HWD.out.set _ _ HQL.out, HSTEP.out, HQ9.out, HB9.out⟩
      case measure => simp [intOf]
end Go.Proofs.YtikmebkfdpbidaaGreatDoor
namespace Go.Proofs.YtikmebkfdpbidaaGreatDoor
open Go.RowKit
set_option linter.unusedVariables false

/-- The digit of d, less than 10. -/
def Tx.dg (d : Nat) : UInt8 := UInt8.ofNat (48 + d)
/-- A number's digits, the lowest first, at least one. -/
def Tx.lo (n : Nat) : List UInt8 := if h : n < 10 then [Tx.dg n] else Tx.dg (n % 10) :: Tx.lo (n / 10)
termination_by n
decreasing_by omega
def Tx.dec (n : Nat) : List UInt8 := (Tx.lo n).reverse
theorem Tx.lo_small {n : Nat} (h : n < 10) : Tx.lo n = [Tx.dg n] := by rw [Tx.lo, dif_pos h]
theorem Tx.lo_big {n : Nat} (h : ¬ n < 10) : Tx.lo n = Tx.dg (n % 10) :: Tx.lo (n / 10) := by rw [Tx.lo, dif_neg h]
theorem Tx.lo_pos (n : Nat) : 0 < (Tx.lo n).length := by
  by_cases h : n < 10
  · rw [Tx.lo_small h]; simp
  · rw [Tx.lo_big h]; simp
theorem Tx.lo_len : ∀ (k n : Nat), n < 2 ^ k → (Tx.lo n).length ≤ k + 1
  | 0, n, h => by
    rw [Tx.lo_small (by simp at h; omega)]
    simp
  | k + 1, n, h => by
    by_cases h10 : n < 10
    · rw [Tx.lo_small h10]; simp
    · rw [Tx.lo_big h10, List.length_cons]
      have := Tx.lo_len k (n / 10) (by
        rw [Nat.pow_succ] at h
        omega)
      omega
theorem Tx.lo_len_dig {n k : Nat} (h : (Nt.dig n).length ≤ k) : (Tx.lo n).length ≤ 32 * k + 1 := Tx.lo_len (32 * k) n (by
  refine Nat.lt_of_lt_of_le (Nt.dig_lt_pow n) ?_
  refine Nat.le_trans (Nat.pow_le_pow_right (by decide) h) ?_
  have e : (2 : Nat) ^ 32 = 4294967296 := by decide
  rw [Nat.pow_mul, e]
  exact Nat.le_refl _)
theorem Tx.dg_inj {a b : Nat} (ha : a < 10) (hb : b < 10) (h : Tx.dg a = Tx.dg b) : a = b := by
  have h2 : (Tx.dg a).toNat = (Tx.dg b).toNat := by rw [h]
  unfold Tx.dg at h2
  simp only [UInt8.toNat_ofNat'] at h2
  omega
theorem Tx.lo_inj : ∀ (a b : Nat), Tx.lo a = Tx.lo b → a = b := by
  intro a
  induction a using Nat.strongRecOn with
  | ind a ih =>
    intro b h
    by_cases ha : a < 10
    · by_cases hb : b < 10
      · rw [Tx.lo_small ha, Tx.lo_small hb] at h
        simp only [List.cons.injEq, and_true] at h
        exact Tx.dg_inj ha hb h
      · rw [Tx.lo_small ha, Tx.lo_big hb] at h
        simp only [List.cons.injEq] at h
        have := Tx.lo_pos (b / 10)
        rw [← h.2] at this
        simp at this
    · by_cases hb : b < 10
      · rw [Tx.lo_big ha, Tx.lo_small hb] at h
        simp only [List.cons.injEq] at h
        have := Tx.lo_pos (a / 10)
        rw [h.2] at this
        simp at this
      · rw [Tx.lo_big ha, Tx.lo_big hb] at h
        simp only [List.cons.injEq] at h
        have h1 := Tx.dg_inj (Nat.mod_lt _ (by decide)) (Nat.mod_lt _ (by decide)) h.1
        have h2 := ih (a / 10) (by omega) (b / 10) h.2
        omega
theorem Tx.dec_inj {a b : Nat} (h : Tx.dec a = Tx.dec b) : a = b := Tx.lo_inj a b (List.reverse_inj.1 h)
end Go.Proofs.YtikmebkfdpbidaaGreatDoor
namespace Go.Proofs.YtikmebkfdpbidaaGreatDoor
open Go.RowKit Go.Lib Go.Sort
set_option linter.unusedVariables false
set_option linter.unusedSimpArgs false

def Tx.enc (n : Int) : Value := .int .u8 n
set_option maxHeartbeats 2000000 in
set_option maxRecDepth 1000000 in
theorem Tx.Reverse_arr (blk off cap : Nat) (d : Array Int) (w : World) (hH : Holds Tx.enc w blk off d) (hsz : d.size ≤ 9223372036854775807) :
    Calls Tryz.prog 214 #[.slice (some ⟨blk, off, none⟩) d.size cap] w fun e w' => e = .returned (.tuple #[]) ∧ ∃ n, w' = putRow Tx.enc (Sort.ahead w n) blk off d.reverse := by
  go_enter Tryz.func214, Tryz.ntmps214
  go_wp2
  go_loopg [2, 3] d.size (fun k s2 s3 wr => ∃ (i jn : Nat) (jz : Int) (dk : Array Int) (n : Nat), s2 = .int .i64 i ∧ s3 = .int .i64 jz ∧ ((i : Int) < jz → jz = jn ∧ jn < d.size) ∧ (¬ (i : Int) < jz → ¬ i < jn) ∧ jn - i ≤ k ∧
    dk.size = d.size ∧ wr = putRow Tx.enc (Sort.ahead w n) blk off dk ∧ reverseLoop i jn dk = reverseLoop 0 (d.size - 1) d)
  case atStart => exact ⟨0, d.size - 1, (d.size : Int) - 1, d, 0, rfl, by first | rfl | go_num | (simp; try omega), fun h => ⟨by omega, by omega⟩, fun h => by omega, by omega, rfl, (putRow_self Tx.enc w blk off d hH).symm, rfl⟩
  case round =>
    obtain ⟨i, jn, jz, dk, n, rfl, rfl, h1, h2, hk, hds, hwr, heq⟩ := hrel
    by_cases hlt : (i : Int) < jz
    · obtain ⟨rfl, hjn⟩ := h1 hlt
      have hij : i < jn := by omega
      have hHk : Holds Tx.enc wr blk off dk := by rw [hwr]; exact holds_putRow Tx.enc _ blk off d dk (holds_ahead Tx.enc w n blk off d hH) hds
      obtain ⟨ci, fi⟩ := hHk i (by omega)
      obtain ⟨cj, fj⟩ := hHk jn (by omega)
      have A := Lib.hid (show wr = putRow Tx.enc (Sort.ahead w n) blk off dk from hwr)
      have q1 : ((i : Int) < (d.size : Int)) := by omega
      have q2 : ((jn : Int) < (d.size : Int)) := by omega
      clear hwr hHk hH h1 h2
      unfold Tx.enc at ci cj
      go_wp2_with fail
      go_region
      go_wp2
      go_roundg (jn - 1 - (i + 1))
      case measure => omega
      case rel =>
        rw [reverseLoop, if_pos hij] at heq
        exact ⟨i + 1, jn - 1, (jn : Int) - 1, swp dk i jn, n + 1, by first | rfl | go_num | (simp; try omega), by first | rfl | go_num | (simp; try omega), fun h => ⟨by omega, by omega⟩, fun h => by omega, Nat.le_refl _, by rw [size_swp]; exact hds,
          swap_world Tx.enc (by omega) (by omega) A.out (by first | rfl | simp [Tx.enc, getElem!_pos, show jn < dk.size by omega]) (by first | rfl | simp [Tx.enc, getElem!_pos, show i < dk.size by omega]), heq⟩
    · have hnot := h2 hlt
      go_wp2
      go_end0
      refine ⟨rfl, n, ?_⟩
      rw [reverseLoop, if_neg hnot] at heq
      rw [← Lib.reverseLoop_reverse, ← heq]
theorem Tx.Reverse_own (l : List UInt8) (v : Value) (w : World) (B : Nat) (h : w.ownsRow B 5 1 v l.length (By.bv l)) (h0 : 0 < l.length) :
    Calls Tryz.prog 214 #[v] w fun e w' => e = .returned (.tuple #[]) ∧ w'.ownsRow B 5 1 v l.length (By.bv l.reverse) ∧ w.grownBy w' v.ownBlock := by
  obtain ⟨hlen, h⟩ := h
  rcases h with ⟨_, e⟩ | ⟨g, cap, cur, rfl, hB, hg, hnc, hcm, hcs, htake⟩
  · omega
  have key : ∀ (j : Nat) (hj : j < l.length), cur[j]? = some (.int .u8 (l[j].toNat : Nat)) := by
    intro j hj
    have e1 : (cur.toList.take (l.length * 1))[j]? = (By.bv l)[j]? := by rw [htake]
    rw [List.getElem?_take, if_pos (by omega), Array.getElem?_toList] at e1
    rw [e1]
    simp [By.bv, hj]
  obtain ⟨d, hd⟩ : ∃ d : Array Int, d = (l.map (fun b => (b.toNat : Int))).toArray := ⟨_, rfl⟩
  have hds : d.size = l.length := by rw [hd]; simp
  have hda : ∀ (j : Nat) (hj : j < l.length), d[j]! = (l[j].toNat : Int) := by
    intro j hj
    rw [hd, getElem!_pos _ j (by simpa using hj)]
    simp
  have hH : Holds Tx.enc w g 0 d := by
    intro j hj
    rw [hds] at hj
    refine ⟨?_, by simp [World.frozen?, hg]⟩
    rw [hda j hj]
    have : w.cell? ⟨g, 0 + j, none⟩ = cur[0 + j]? := by simp [World.cell?, hg]
    rw [this, Nat.zero_add, key j hj]
    rfl
  have K := Tx.Reverse_arr g 0 cap d w hH (by rw [hds]; simp only [maxLen] at hcm; omega)
  rw [hds] at K
  refine K.mono ?_
  rintro e w' ⟨rfl, n, rfl⟩
  have hg' : (putRow Tx.enc (Sort.ahead w n) g 0 d.reverse).heap[g]? = some (.cells (putCells Tx.enc 0 d.reverse cur) 5 (0, 0)) := by
    show (w.heap.modify g _)[g]? = _
    rw [Array.getElem?_modify, if_pos rfl, hg]
    rfl
  refine ⟨rfl, ⟨by simp [By.bv], .inr ⟨g, cap, _, rfl, hB, hg', hnc, hcm, ?_, ?_⟩⟩, ?_⟩
  · simp [putCells, hcs]
  · apply List.ext_getElem?
    intro k
    rw [List.getElem?_take]
    by_cases hk : k < l.length
    · rw [if_pos (by omega), Array.getElem?_toList]
      have e1 : (putCells Tx.enc 0 d.reverse cur)[k]? = some (Tx.enc d.reverse[k]!) := by
        unfold putCells
        rw [Array.getElem?_mapIdx, key k hk]
        simp [hds, hk]
      rw [e1, getElem!_pos _ k (by simpa [hds] using hk)]
      have e2 : d.reverse[k]'(by simpa [hds] using hk) = (l.reverse[k]'(by simpa using hk)).toNat := by
        subst hd
        simp
      rw [e2]
      simp [By.bv, hk, Tx.enc]
    · rw [if_neg (by omega)]
      simp [By.bv]
      omega
  · refine ⟨rfl, rfl, rfl, by simp, fun k hk hne => ?_⟩
    show (w.heap.modify g _)[k]? = _
    rw [Array.getElem?_modify, if_neg]
    intro e
    subst e
    exact hne rfl
end Go.Proofs.YtikmebkfdpbidaaGreatDoor
namespace Go.Proofs.YtikmebkfdpbidaaGreatDoor
set_option linter.unusedVariables false

/-- Is it a fraction? -/
def Rt.sound (s : Bool) (t b : List Nat) : Bool := Nt.sound t && Nt.sound b && decide (b.length ≠ 0) && !(decide (t.length = 0) && s) && decide (Nat.gcd (Nt.val t) (Nt.val b) = 1)
/-- Is it a fraction without words? -/
def Rt.noRat (s : Bool) (t b : List Nat) : Bool := !s && decide (t.length = 0) && decide (b.length = 0)
/-- The number of a node. -/
def Tr.Hd.num (h : Tr.Hd) : Bool := if h.k = 3 then Rt.sound h.s1 h.t1 h.b1 && Rt.sound h.s2 h.t2 h.b2 else Rt.noRat h.s1 h.t1 h.b1 && Rt.noRat h.s2 h.t2 h.b2
def Tr.isText (k : Int) : Bool := decide (k = 5) || decide (k = 6) || decide (k = 11)
def Tr.isChar (n : Int) : Bool := decide (0 ≤ n) && decide (n ≤ 55295) || decide (57344 ≤ n) && decide (n ≤ 1114111)
/-- What the kind asks of the number and of the list's length. -/
def Tr.own (k n : Int) (l : Nat) : Bool :=
  if k = 8 then decide (n = 0) && decide (l = 2) else if k = 9 then decide (n = 0) else if k = 2 then (decide (n = 0) || decide (n = 1)) && decide (l = 0)
  else if k = 4 then Tr.isChar n && decide (l = 0) else decide (1 ≤ k) && decide (k ≤ 11) && decide (n = 0) && decide (l = 0)
/-- Is a node sound by its kind, but for its list's data? -/
def Tr.Hd.shape (h : Tr.Hd) (l : Nat) : Bool :=
  h.num && (Tr.isText h.k || decide (h.x.size = 0)) && Lib.validD h.x.data.toList && (decide (h.k = 7) || decide (h.raw.size = 0)) && Tr.own h.k h.n l
theorem Tr.own_pair {n : Int} {l : Nat} (h : Tr.own 8 n l = true) : l = 2 := by
  simp [Tr.own] at h; exact h.2
theorem Tr.Hd.shape_pair {h : Tr.Hd} {l : Nat} (hs : h.shape l = true) (hk : h.k = 8) : l = 2 := by
  unfold Tr.Hd.shape at hs
  simp only [Bool.and_eq_true] at hs
  have := hs.2
  rw [hk] at this
  exact Tr.own_pair this
mutual
/-- How many nodes a datum has. -/
def Tr.size : Tr → Nat
  | .mk _ l => 1 + Tr.sizeL l
def Tr.sizeL : List Tr → Nat
  | [] => 0
  | t :: ts => Tr.size t + Tr.sizeL ts
end
theorem Tr.size_mk (h : Tr.Hd) (l : List Tr) : Tr.size (.mk h l) = 1 + Tr.sizeL l := by rw [Tr.size]
theorem Tr.sizeL_nil : Tr.sizeL [] = 0 := by rw [Tr.sizeL]
theorem Tr.sizeL_cons (t : Tr) (ts : List Tr) : Tr.sizeL (t :: ts) = Tr.size t + Tr.sizeL ts := by rw [Tr.sizeL]
theorem Tr.size_pos (t : Tr) : 0 < Tr.size t := by cases t; rw [Tr.size_mk]; omega
theorem Tr.size_at : ∀ (l : List Tr) (k : Nat) (t : Tr), l[k]? = some t → Tr.size t ≤ Tr.sizeL l
  | [], k, t, h => by simp at h
  | x :: ts, 0, t, h => by
    obtain rfl : x = t := by simpa using h
    rw [Tr.sizeL_cons]; omega
  | x :: ts, k + 1, t, h => by
    have := Tr.size_at ts k t (by simpa using h)
    rw [Tr.sizeL_cons]; omega
theorem Tr.size_lt {t u : Tr} {k : Nat} (h : t.li[k]? = some u) : Tr.size u < Tr.size t := by
  have := Tr.size_at t.li k u h
  cases t with
  | mk hd l => rw [Tr.size_mk]; simp only [Tr.li] at this; omega
mutual
/-- sound: d deep, so many nodes are left: is it, and how many are left then. -/
def Tr.snd : Tr → Nat → Int → Bool × Int
  | .mk h l, d, left =>
    if left - 1 < 0 ∨ 200 < d ∨ h.shape l.length = false then (false, left - 1)
    else if h.k = 8 then
      match l with
      | [a, b] => if (Tr.snd a (d + 1) (left - 1)).1 = true then Tr.snd b d (Tr.snd a (d + 1) (left - 1)).2 else (false, (Tr.snd a (d + 1) (left - 1)).2)
      | _ => (true, left - 1)
    else Tr.sndL l (d + 1) (left - 1)
/-- Data one behind the other. -/
def Tr.sndL : List Tr → Nat → Int → Bool × Int
  | [], _, left => (true, left)
  | t :: ts, d, left => if (Tr.snd t d left).1 = true then Tr.sndL ts d (Tr.snd t d left).2 else (false, (Tr.snd t d left).2)
end
theorem Tr.snd_bad {h : Tr.Hd} {l : List Tr} {d : Nat} {left : Int} (hb : left - 1 < 0 ∨ 200 < d ∨ h.shape l.length = false) : Tr.snd (.mk h l) d left = (false, left - 1) := by
  rw [Tr.snd.eq_def]; simp only; rw [if_pos hb]
theorem Tr.snd_pair {h : Tr.Hd} {a b : Tr} {d : Nat} {left : Int} (hb : ¬ (left - 1 < 0 ∨ 200 < d ∨ h.shape 2 = false)) (hk : h.k = 8) : Tr.snd (.mk h [a, b]) d left = if (Tr.snd a (d + 1) (left - 1)).1 = true then Tr.snd b d (Tr.snd a (d + 1) (left - 1)).2 else (false, (Tr.snd a (d + 1) (left - 1)).2) := by
  rw [Tr.snd.eq_def]; simp only [List.length_cons, List.length_nil]; rw [if_neg hb, if_pos hk]
theorem Tr.snd_list {h : Tr.Hd} {l : List Tr} {d : Nat} {left : Int} (hb : ¬ (left - 1 < 0 ∨ 200 < d ∨ h.shape l.length = false)) (hk : h.k ≠ 8) : Tr.snd (.mk h l) d left = Tr.sndL l (d + 1) (left - 1) := by
  rw [Tr.snd.eq_def]; simp only; rw [if_neg hb, if_neg hk]
theorem Tr.sndL_nil {d : Nat} {left : Int} : Tr.sndL [] d left = (true, left) := by rw [Tr.sndL]
theorem Tr.sndL_cons {t : Tr} {ts : List Tr} {d : Nat} {left : Int} : Tr.sndL (t :: ts) d left = if (Tr.snd t d left).1 = true then Tr.sndL ts d (Tr.snd t d left).2 else (false, (Tr.snd t d left).2) := by rw [Tr.sndL]
mutual
/-- The nodes that are left only become fewer. -/
theorem Tr.snd_le : ∀ (t : Tr) (d : Nat) (left : Int), -1 ≤ left → (Tr.snd t d left).2 ≤ left ∧ ((Tr.snd t d left).1 = true → 0 ≤ (Tr.snd t d left).2)
  | .mk h l, d, left, h0 => by
    by_cases hb : left - 1 < 0 ∨ 200 < d ∨ h.shape l.length = false
    · rw [Tr.snd_bad hb]; exact ⟨by show left - 1 ≤ left; omega, fun h => by cases h⟩
    · have hb2 : 0 ≤ left - 1 := by
        rcases Int.lt_or_le (left - 1) 0 with h | h
        · exact absurd (Or.inl h) hb
        · exact h
      by_cases hk : h.k = 8
      · have hs : h.shape l.length = true := by
          cases e : h.shape l.length with
          | true => rfl
          | false => exact absurd (Or.inr (Or.inr e)) hb
        have hl := Tr.Hd.shape_pair hs hk
        match l, hl with
        | [a, b], _ =>
          rw [Tr.snd_pair hb hk]
          have ha := Tr.snd_le a (d + 1) (left - 1) (by omega)
          split
          · rename_i h1
            have h2 := ha.2 h1
            have hb' := Tr.snd_le b d _ (by omega : -1 ≤ (Tr.snd a (d + 1) (left - 1)).2)
            exact ⟨by omega, hb'.2⟩
          · exact ⟨by show (Tr.snd a (d + 1) (left - 1)).2 ≤ left; omega, fun h => by cases h⟩
      · rw [Tr.snd_list hb hk]
        have := Tr.sndL_le l (d + 1) (left - 1) hb2
        exact ⟨by omega, this.2⟩
theorem Tr.sndL_le : ∀ (l : List Tr) (d : Nat) (left : Int), 0 ≤ left → (Tr.sndL l d left).2 ≤ left ∧ ((Tr.sndL l d left).1 = true → 0 ≤ (Tr.sndL l d left).2)
  | [], d, left, h0 => by rw [Tr.sndL_nil]; exact ⟨Int.le_refl _, fun _ => h0⟩
  | t :: ts, d, left, h0 => by
    rw [Tr.sndL_cons]
    have ht := Tr.snd_le t d left (by omega)
    split
    · rename_i h1
      have h2 := ht.2 h1
      have hs := Tr.sndL_le ts d _ h2
      exact ⟨by omega, hs.2⟩
    · exact ⟨ht.1, fun h => by cases h⟩
end
/-- Is it a datum? -/
def Tr.sound (t : Tr) : Bool := (Tr.snd t 1 20000).1
end Go.Proofs.YtikmebkfdpbidaaGreatDoor
namespace Go.Proofs.YtikmebkfdpbidaaGreatDoor
open Go.RowKit
set_option linter.unusedVariables false
set_option linter.unusedSimpArgs false

set_option maxHeartbeats 4000000 in
set_option maxRecDepth 1000000 in
theorem Nt.Sound_same (ws : List Nat) (v : Value) (w : World) (h : Nt.In w v ws) (hw : Nt.Wd ws) (hl : ws.length ≤ 4611686018427387904) : Calls Tryz.prog 210 #[v] w fun e w' => e = .returned (.bool (Nt.sound ws)) ∧ w = w' := by
  have KT := fun w h => Nt.Trim_same ws v w h hw hl
  obtain ⟨ad, cap, rfl⟩ := h.slice
  have H := Lib.hid h
  clear h
  have hs : Nt.sound ws = (decide (ws.length ≤ 512) && decide ((Nt.dig (Nt.val ws)).length = ws.length)) := rfl
  rw [hs]
  generalize (Nt.dig (Nt.val ws)).length = n at *
  clear hs hw hl
  by_cases h1 : ws.length ≤ 512
  · have h1I : (ws.length : Int) ≤ 512 := by omega
    rw [decide_eq_true h1]
    go_enter Tryz.func210, Tryz.ntmps210
    go_wp2_with fail
    refine (KT _ H.out).mono ?_
    rintro x w1 ⟨rfl, hw1⟩
    subst hw1
    by_cases h2 : n = ws.length
    · subst h2
      go_wp2_with fail
      go_ret
      exact ⟨by simp, rfl⟩
    · have h2I : ((n : Int) == (ws.length : Int)) = false := by simp; omega
      go_wp2_with fail
      go_ret
      exact ⟨by simp [h2], rfl⟩
  · have h1I : ¬ (ws.length : Int) ≤ 512 := by omega
    rw [decide_eq_false h1]
    go_enter Tryz.func210, Tryz.ntmps210
    go_wp2_with fail
    go_ret
    exact ⟨by simp, rfl⟩

/-- A fraction as it may come: sign and words. -/
def Rt.G (w : World) (v : Value) (s : Bool) (t b : List Nat) : Prop := ∃ tv bv, v = .agg #[.bool s, tv, bv] ∧ Nt.In w tv t ∧ Nt.In w bv b
structure Rt.GOk (t b : List Nat) : Prop where
  w1 : Nt.Wd t
  w2 : Nt.Wd b
  l1 : t.length ≤ 4611686018427387904
  l2 : b.length ≤ 4611686018427387904
/-- A number's words, looked at: is it 1? -/
theorem Rt.isOne {w : World} {v : Value} {g : Nat} (h : Nt.N w v g) (h0 : 0 < g) : ∃ S : Bool, S = decide (g = 1) ∧ ((∃ ad cap, v = .slice ad (Nt.dig g).length cap ∧ (((Nt.dig g).length : Int) == 1) = false ∧ S = false) ∨ ∃ b off cap, v = .slice (some ⟨b, off, none⟩) 1 cap ∧ w.cell? ⟨b, off, none⟩ = some (.int .u32 g) ∧ ((g : Int) == 1) = S) := by
  refine ⟨_, rfl, ?_⟩
  by_cases hl : (Nt.dig g).length = 1
  · right
    obtain ⟨ad, cap, rfl⟩ := Nt.In.slice h
    obtain ⟨b, off, rfl, _, _, _, hc⟩ := Nt.In.at h (by omega)
    have hc0 := hc 0 (by omega)
    have hg : (Nt.dig g).getD 0 0 = g := by
      have e := Nt.val_dig g
      match hd : Nt.dig g, hl with
      | [x], _ => rw [hd] at e; simpa [Nt.val] using e
    rw [hg] at hc0
    refine ⟨b, off, cap, by rw [hl], hc0, ?_⟩
    by_cases h1 : g = 1
    · subst h1; rfl
    · simp [h1]; omega
  · left
    obtain ⟨ad, cap, rfl⟩ := Nt.In.slice h
    refine ⟨ad, cap, rfl, by simp; omega, ?_⟩
    apply decide_eq_false
    intro e
    subst e
    exact hl (by rw [Nt.dig_small (by decide) (by decide)]; rfl)
set_option maxHeartbeats 4000000 in
set_option maxRecDepth 1000000 in
theorem Rt.ratSound_any (s : Bool) (t b : List Nat) (v : Value) (w : World) (h : Rt.G w v s t b) (hok : Rt.GOk t b) : Calls Tryz.prog 166 #[v] w fun e w' => e = .returned (.bool (Rt.sound s t b)) ∧ Below w.heap.size w w' := by
  obtain ⟨tv, bv, rfl, h1, h2⟩ := h
  have K1 := fun w h => Nt.Sound_same t tv w h hok.w1 hok.l1
  have K2 := fun w h => Nt.Sound_same b bv w h hok.w2 hok.l2
  obtain ⟨a1, c1, rfl⟩ := h1.slice
  obtain ⟨a2, c2, rfl⟩ := h2.slice
  have hal : ∀ o, Below w.heap.size w (w.alloc o) := fun o => (Below.refl _ _).alloc (Nat.le_refl _) _
  have H1 : Hid (∀ o, Nt.In (w.alloc o) (.slice a1 t.length c1) t) := Lib.hid (fun o => h1.below (hal o) (Nat.le_refl _))
  have H2 : Hid (∀ o, Nt.In (w.alloc o) (.slice a2 b.length c2) b) := Lib.hid (fun o => h2.below (hal o) (Nat.le_refl _))
  have HAL := Lib.hid hal
  have HOK := Lib.hid hok
  have hdef : Rt.sound s t b = (Nt.sound t && Nt.sound b && decide (b.length ≠ 0) && !(decide (t.length = 0) && s) && decide (Nat.gcd (Nt.val t) (Nt.val b) = 1)) := rfl
  rw [hdef]
  clear hdef hal h1 h2 hok
  obtain ⟨S1, hS1⟩ : ∃ S, Nt.sound t = S := ⟨_, rfl⟩
  obtain ⟨S2, hS2⟩ : ∃ S, Nt.sound b = S := ⟨_, rfl⟩
  rw [hS1] at K1 ⊢
  rw [hS2] at K2 ⊢
  have HS1 := Lib.hid hS1
  have HS2 := Lib.hid hS2
  clear hS1 hS2
  have hmain : ∃ g vt vb : Nat, decide (Nat.gcd (Nt.val t) (Nt.val b) = 1) = decide (g = 1) ∧ (S1 = true → S2 = true → b.length ≠ 0 → (∀ o, Nt.N (w.alloc o) (.slice a1 t.length c1) vt ∧ Nt.N (w.alloc o) (.slice a2 b.length c2) vb) ∧ 0 < g ∧ (∀ v v2 w, Nt.N w v vt → Nt.N w v2 vb → Calls Tryz.prog 129 #[v, v2] w fun e w' => ∃ v', e = .returned v' ∧ Nt.N w' v' g ∧ Below w.heap.size w w')) := by
    refine ⟨Nat.gcd (Nt.val t) (Nt.val b), Nt.val t, Nt.val b, rfl, ?_⟩
    intro e1 e2 hb0
    obtain ⟨et, elt⟩ := Nt.sound_eq HOK.out.w1 (HS1.out.trans e1)
    obtain ⟨eb, elb⟩ := Nt.sound_eq HOK.out.w2 (HS2.out.trans e2)
    refine ⟨fun o => ?_, ?_, fun v v2 w h h2 => Nt.Divisor_any (Nt.val t) (Nt.val b) v v2 w h h2 ⟨by rw [← eb]; omega, by rw [← et]; omega⟩⟩
    · unfold Nt.N
      rw [← et, ← eb]
      exact ⟨H1.out o, H2.out o⟩
    · refine Nat.gcd_pos_of_pos_right _ ?_
      rcases Nat.eq_zero_or_pos (Nt.val b) with h0 | h0
      · rw [h0, Nt.dig_zero] at eb
        rw [eb] at hb0
        exact absurd rfl hb0
      · exact h0
  obtain ⟨g, vt, vb, hgd, hmain⟩ := hmain
  rw [hgd]
  have HM := Lib.hid hmain
  clear hmain HS1 HS2 HOK hgd
  obtain ⟨G1, hG1⟩ : ∃ G : Bool, decide (g = 1) = G := ⟨_, rfl⟩
  rw [hG1]
  have HG1 := Lib.hid hG1
  clear hG1
  generalize t.length = l1 at *
  generalize b.length = l2 at *
  rcases S1 with _ | _
  · clear HM
    go_enter Tryz.func166, Tryz.ntmps166
    go_wp2_with fail
    refine (K1 _ (H1.out _)).mono ?_
    rintro x w1 ⟨rfl, hw1⟩
    subst hw1
    go_wp2_with fail
    go_ret
    exact ⟨by simp, HAL.out _⟩
  rcases S2 with _ | _
  · clear HM
    go_enter Tryz.func166, Tryz.ntmps166
    go_wp2_with fail
    refine (K1 _ (H1.out _)).mono ?_
    rintro x w1 ⟨rfl, hw1⟩
    subst hw1
    go_wp2_with fail
    refine (K2 _ (H2.out _)).mono ?_
    rintro x w1 ⟨rfl, hw1⟩
    subst hw1
    go_wp2_with fail
    go_ret
    exact ⟨by simp, HAL.out _⟩
  by_cases hb0 : l2 = 0
  · subst hb0
    clear HM
    go_enter Tryz.func166, Tryz.ntmps166
    go_wp2_with fail
    refine (K1 _ (H1.out _)).mono ?_
    rintro x w1 ⟨rfl, hw1⟩
    subst hw1
    go_wp2_with fail
    refine (K2 _ (H2.out _)).mono ?_
    rintro x w1 ⟨rfl, hw1⟩
    subst hw1
    go_wp2_with fail
    go_ret
    exact ⟨by simp, HAL.out _⟩
  obtain ⟨hm1, hm2, hm3⟩ := HM.out rfl rfl hb0
  have HN := Lib.hid hm1
  have HG0 := Lib.hid hm2
  have HL2 := Lib.hid hb0
  have hl2I : ((l2 : Int) == 0) = false := by simp; exact hb0
  have hl2J : ¬ (l2 : Int) = 0 := by omega
  clear HM hm1 hm2 hb0
  have FIN : Hid (∀ (w1 : World) (tv : Value), Nt.N w1 tv g → (∃ ad cap, tv = .slice ad (Nt.dig g).length cap)) := Lib.hid (fun w1 tv h => Nt.In.slice h)
  by_cases ht0 : l1 = 0
  · subst ht0
    rcases s with _ | _
    · go_enter Tryz.func166, Tryz.ntmps166
      go_wp2_with fail
      refine (K1 _ (H1.out _)).mono ?_
      rintro x w1 ⟨rfl, hw1⟩
      subst hw1
      go_wp2_with fail
      refine (K2 _ (H2.out _)).mono ?_
      rintro x w1 ⟨rfl, hw1⟩
      subst hw1
      go_wp2_with fail
      refine (hm3 _ _ _ (HN.out _).1 (HN.out _).2).mono ?_
      rintro x w1 ⟨vg, rfl, hg, hbg⟩
      have HBG := Lib.hid ((HAL.out _).trans (hbg.mono (HAL.out _).size))
      obtain ⟨S, hS, hK⟩ := Rt.isOne hg HG0.out
      rw [HG1.out] at hS
      subst hS
      clear hg hbg FIN
      rcases hK with ⟨ad, cap, rfl, hf, hSf⟩ | ⟨b', off', cap', rfl, hc, hgS⟩
      · generalize (Nt.dig g).length = l3 at *
        subst hSf
        go_wp2_with fail
        go_ret
        exact ⟨by simp, HBG.out⟩
      · go_wp2_with fail
        go_ret
        exact ⟨by simp [HL2.out], HBG.out⟩
    · go_enter Tryz.func166, Tryz.ntmps166
      go_wp2_with fail
      refine (K1 _ (H1.out _)).mono ?_
      rintro x w1 ⟨rfl, hw1⟩
      subst hw1
      go_wp2_with fail
      refine (K2 _ (H2.out _)).mono ?_
      rintro x w1 ⟨rfl, hw1⟩
      subst hw1
      go_wp2_with fail
      go_ret
      exact ⟨by simp, HAL.out _⟩
  · have ht0I : ((l1 : Int) == 0) = false := by simp; exact ht0
    have ht0J : ¬ (l1 : Int) = 0 := by omega
    have HL1 := Lib.hid ht0
    clear ht0
    go_enter Tryz.func166, Tryz.ntmps166
    go_wp2_with fail
    refine (K1 _ (H1.out _)).mono ?_
    rintro x w1 ⟨rfl, hw1⟩
    subst hw1
    go_wp2_with fail
    refine (K2 _ (H2.out _)).mono ?_
    rintro x w1 ⟨rfl, hw1⟩
    subst hw1
    go_wp2_with fail
    refine (hm3 _ _ _ (HN.out _).1 (HN.out _).2).mono ?_
    rintro x w1 ⟨vg, rfl, hg, hbg⟩
    have HBG := Lib.hid ((HAL.out _).trans (hbg.mono (HAL.out _).size))
    obtain ⟨S, hS, hK⟩ := Rt.isOne hg HG0.out
    rw [HG1.out] at hS
    subst hS
    clear hg hbg FIN
    rcases hK with ⟨ad, cap, rfl, hf, hSf⟩ | ⟨b', off', cap', rfl, hc, hgS⟩
    · generalize (Nt.dig g).length = l3 at *
      subst hSf
      go_wp2_with fail
      go_ret
      exact ⟨by simp, HBG.out⟩
    · go_wp2_with fail
      go_ret
      exact ⟨by simp [HL2.out, HL1.out], HBG.out⟩
end Go.Proofs.YtikmebkfdpbidaaGreatDoor
namespace Go.Proofs.YtikmebkfdpbidaaGreatDoor
open Go.RowKit
set_option linter.unusedVariables false
set_option linter.unusedSimpArgs false

theorem Tx.infoByte : (Tryz.prog.info? 5).map (fun i => (i.zero, i.size, i.bytes)) = some (some (.int .u8 0), 1, 1) := by kernel_rfl
set_option maxHeartbeats 2000000 in
set_option maxRecDepth 1000000 in
theorem Tx.check1 (ws : List Nat) (B : Nat) (ad : Option Addr) (cap : Nat) (w : World) (h : w.heap[B]? = some (.cells #[.slice ad ws.length cap] 22 (0, 0))) (hI : Nt.In w (.slice ad ws.length cap) ws) (hw : Nt.Wd ws) (hs : Nt.sound ws = true) :
    Calls Tryz.prog 213 #[.slice (some ⟨B, 0, none⟩) 1 1] w fun e w' => e = .returned (.int .i64 0) ∧ Below w.heap.size w w' := by
  have hl := (Nt.sound_eq hw hs).2
  have c0 : w.cell? ⟨B, 0, none⟩ = some (.slice ad ws.length cap) := Rt.cell_of h 0
  have KS := Nt.Sound_same ws _ w hI hw (by omega)
  rw [hs] at KS
  clear h hI hw hs
  go_enter Tryz.func213, Tryz.ntmps213
  go_wp2_with fail
  go_loopg [7] 1 (fun g i wr => ∃ k : Nat, k + g = 1 ∧ i = .int .i64 k ∧ wr = w)
  case atStart => exact ⟨0, rfl, rfl, rfl⟩
  case round =>
    obtain ⟨k, hk, rfl, rfl⟩ := hrel
    rcases (show k = 0 ∨ k = 1 by omega) with rfl | rfl
    · go_wp2_with fail
      refine KS.mono ?_
      rintro x w1 ⟨rfl, hw1⟩
      subst hw1
      go_wp2_with fail
      go_roundg 0
      case measure => omega
      case rel => exact ⟨1, rfl, by first | rfl | go_num | (simp; try omega), rfl⟩
    · go_wp2_with fail
      go_ret
      exact ⟨rfl, Below.refl _ _⟩
theorem Tx.own_slice {w : World} {base n size : Nat} {e : TypeId} {v : Value} {xs : List Value} (h : w.ownsRow base e size v n xs) : ∃ ad cap, v = .slice ad n cap := by
  rcases h.2 with ⟨rfl, rfl⟩ | ⟨g, cap, _, rfl, _⟩
  · exact ⟨_, _, rfl⟩
  · exact ⟨_, _, rfl⟩
theorem Tx.in_grown {w w' : World} {v : Value} {ws : List Nat} {row : Option Nat} (h : Nt.In w v ws) (hg : w.grownBy w' row) (hne : ∀ b off l c, v = .slice (some ⟨b, off, none⟩) l c → some b ≠ row) : Nt.In w' v ws := by
  rcases h with h | h | ⟨h0, b, off, cap, hv, hc, hl, hcell⟩
  · exact .inl h
  · exact .inr (.inl h)
  · exact .inr (.inr ⟨h0, b, off, cap, hv, hc, Nat.lt_of_lt_of_le hl hg.size, fun j hj => hg.cell (hcell j hj) (hne b off _ _ hv)⟩)
set_option maxHeartbeats 2000000 in
set_option maxRecDepth 1000000 in
theorem Tx.Text_any (n : Nat) (v : Value) (w : World) (h : Nt.N w v n) (hl : (Nt.dig n).length ≤ 512) :
    Calls Tryz.prog 172 #[v, .int .i64 10] w fun e w' => e = .returned (.tuple #[.string ⟨(Tx.dec n).toArray⟩, .int .i64 0]) ∧ Below w.heap.size w w' := by
  obtain ⟨ad, cap, rfl⟩ := Nt.In.slice h
  have hb0 : ∀ o, Below w.heap.size w (w.alloc o) := fun o => (Below.refl _ _).alloc (Nat.le_refl _) o
  have KC := Tx.check1 (Nt.dig n) w.heap.size ad cap (w.alloc (.cells #[.slice ad (Nt.dig n).length cap] 22)) (heap_alloc_new w _) (Nt.In.below h (hb0 _) (Nat.le_refl _)) (Nt.dig_wd n) (by rw [Nt.sound_dig]; exact decide_eq_true hl)
  have HB0 := Lib.hid (hb0 (.cells #[.slice ad (Nt.dig n).length cap] 22))
  have HN := Lib.hid h
  have HLO := Lib.hid (Tx.lo_len_dig hl)
  obtain ⟨i0, hi, hz0, hz1, hz2⟩ := info_parts Tx.infoByte
  clear h hb0
  go_enter Tryz.func172, Tryz.ntmps172
  go_wp2_with fail
  refine KC.mono ?_
  rintro x w1 ⟨rfl, hb1⟩
  have HB1 := Lib.hid (HB0.out.trans (hb1.mono HB0.out.size))
  clear hb1 KC
  go_wp2_with fail
  go_loopg [0, 7] (Tx.lo n).length (fun g a o wr => ∃ (cur : Nat) (out : List UInt8), Nt.N wr a cur ∧ wr.ownsRow w.heap.size 5 1 o out.length (By.bv out) ∧ Below w.heap.size w wr ∧ cur ≤ n ∧ ((g = 0 ∧ cur = 0 ∧ out = Tx.lo n) ∨ (g = (Tx.lo cur).length ∧ out ++ Tx.lo cur = Tx.lo n ∧ (out = [] ∨ 0 < cur))))
  case atStart => exact ⟨n, [], Nt.In.below HN.out HB1.out (Nat.le_refl _), World.ownsRow_nil _ _ _ _, HB1.out, Nat.le_refl _, .inr ⟨rfl, rfl, .inl rfl⟩⟩
  case round =>
    obtain ⟨cur, out, hN, hown, hbw, hcn, hst⟩ := hrel
    obtain ⟨wo, hwo⟩ : ∃ z, z = wr := ⟨_, rfl⟩
    subst hwo
    obtain ⟨aa, ac, hv⟩ := Nt.In.slice hN
    obtain ⟨L, hL⟩ : ∃ z, z = (Nt.dig cur).length := ⟨_, rfl⟩
    rw [← hL] at hv
    subst hv
    obtain ⟨oa, oc, hv⟩ := Tx.own_slice hown
    obtain ⟨K, hK⟩ : ∃ z, z = out.length := ⟨_, rfl⟩
    rw [← hK] at hv hown
    subst hv
    have HKK := Lib.hid hK
    have HNN := Lib.hid hN
    have HOWN := Lib.hid hown
    have HBW := Lib.hid hbw
    have hlc : (Nt.dig cur).length ≤ 512 := Nat.le_trans (Nt.dig_len_mono hcn) hl
    have hol : out.length ≤ 16385 := by
      have := HLO.out
      rcases hst with ⟨_, _, e⟩ | ⟨_, e, _⟩
      · rw [e]; exact this
      · rw [← e, List.length_append] at this; omega
    clear hN hown hbw
    rcases hst with ⟨hg, hc0, hout⟩ | ⟨hg, hout, hor⟩
    · subst hc0
      have hd0 : L = 0 := by rw [hL, Nt.dig_zero]; rfl
      subst hd0
      clear hL hlc
      have hop : 0 < out.length := by rw [hout]; exact Tx.lo_pos n
      have KR := Tx.Reverse_own out _ wo w.heap.size (by rw [← hK]; exact HOWN.out) hop
      rw [← hK] at KR hop hol
      have HOUT := Lib.hid hout
      have hne : ((K : Int) == 0) = false := beq_eq_false_iff_ne.2 (by omega)
      clear hout hK
      go_wp2_with fail
      refine KR.mono ?_
      rintro x w5 ⟨rfl, hown5, hg5⟩
      have HB5 := Lib.hid (Sl.below_own HBW.out HOWN.out hg5 (Nat.le_refl _) HBW.out.size)
      have hcv : (convert 27 9 (.slice oa K oc)).run Tryz.prog w5 = .ok (.string ⟨(Tx.dec n).toArray⟩) w5 := by
        rcases hown5.2 with ⟨_, e⟩ | ⟨g, c, cu, hv, _⟩
        · omega
        · simp only [Value.slice.injEq] at hv
          obtain ⟨rfl, _, rfl⟩ := hv
          have h2 := World.ownsRow.cells hown5 (g := g) rfl
          have h3 := run_convert_bytes_back (P := Tryz.prog) w5 27 9 5 ⟨g, 0, none⟩ oc out.reverse Tryz.underlying27 Tryz.underlying5 Tryz.underlying9 (fun j hj => h2 j _ (by
            unfold By.bv
            rw [List.getElem?_map, List.getElem?_eq_getElem hj]
            rfl))
          rw [List.length_reverse, ← HKK.out] at h3
          rw [h3, HOUT.out]
          rfl
      clear hown5 hg5 KR
      go_wp2_with fail
      go_ret2
      exact ⟨rfl, HB5.out⟩
    · have KS := Tx.short_fr (Nt.dig cur) 10 _ wo HNN.out (Nt.dig_wd cur) (by omega) (by decide) (by decide)
      rw [Nt.val_dig] at KS
      have hol2 : K < 16386 := by
        rw [hK]
        have := HLO.out
        rw [← hout, List.length_append] at this
        have := Tx.lo_pos cur
        omega
      have HST := Lib.hid (And.intro hg (And.intro hout hor))
      have hgo : ((L : Int) > 0) ∨ (L = 0 ∧ K = 0) := by
        rw [hL]
        rcases Nat.eq_zero_or_pos cur with h0 | h0
        · refine .inr ⟨?_, ?_⟩
          · rw [h0, Nt.dig_zero]; rfl
          · rcases hor with h | h
            · rw [hK, h]; rfl
            · omega
        · have := Nt.dig_len_pos.2 h0
          exact .inl (by omega)
      obtain ⟨r, hr⟩ : ∃ z, z = cur % 10 := ⟨_, rfl⟩
      have hr10 : r < 10 := by rw [hr]; exact Nat.mod_lt _ (by decide)
      rw [← hr] at KS
      have HR := Lib.hid hr
      clear hg hout hor hr hL hlc hK
      have FIN : Hid (∀ (o' : Value) (vq : Value) (w9 : World) (g0 : Nat), Nt.N w9 vq (cur / 10) → w9.ownsRow w.heap.size 5 1 o' (K + 1) (By.bv out ++ [.int .u8 ((48 + r : Nat) : Int)]) → Below w.heap.size w w9 →
          ∃ g', g' < gk ∧ ∃ (cur' : Nat) (out' : List UInt8), Nt.N w9 vq cur' ∧ w9.ownsRow w.heap.size 5 1 o' out'.length (By.bv out') ∧ Below w.heap.size w w9 ∧ cur' ≤ n ∧ ((g' = 0 ∧ cur' = 0 ∧ out' = Tx.lo n) ∨ (g' = (Tx.lo cur').length ∧ out' ++ Tx.lo cur' = Tx.lo n ∧ (out' = [] ∨ 0 < cur')))) := Lib.hid (fun o' vq w9 g0 a1 a2 a3 => by
        obtain ⟨hg, hout, hor⟩ := HST.out
        have hbv : By.bv (out ++ [Tx.dg r]) = By.bv out ++ [.int .u8 ((48 + r : Nat) : Int)] := by
          rw [By.bv_append]
          congr 1
          show [Value.int .u8 ((Tx.dg r).toNat : Int)] = _
          have : (Tx.dg r).toNat = 48 + r := by unfold Tx.dg; simp only [UInt8.toNat_ofNat']; omega
          rw [this]
        by_cases hlt : cur < 10
        · refine ⟨0, by rw [hg]; exact Tx.lo_pos _, cur / 10, out ++ [Tx.dg r], a1, ?_, a3, by omega, .inl ⟨rfl, by omega, ?_⟩⟩
          · rw [hbv, List.length_append, ← HKK.out]; exact a2
          · rw [← hout, Tx.lo_small hlt, HR.out, Nat.mod_eq_of_lt hlt]
        · rw [Tx.lo_big hlt] at hout hg
          refine ⟨(Tx.lo (cur / 10)).length, by rw [hg, List.length_cons]; omega, cur / 10, out ++ [Tx.dg r], a1, ?_, a3, by omega, .inr ⟨rfl, ?_, .inr (by omega)⟩⟩
          · rw [hbv, List.length_append, ← HKK.out]; exact a2
          · rw [← hout, HR.out, List.append_assoc]; rfl)
      rcases hgo with hgo | ⟨rfl, rfl⟩
      · go_wp2_with fail
        refine KS.mono ?_
        rintro x w2 ⟨vq, rfl, hq, hf, hb2⟩
        obtain ⟨qa, qc, rfl⟩ := Nt.In.slice hq
        have HBW2 := Lib.hid (HBW.out.trans (hb2.mono HBW.out.size))
        have HQ := Lib.hid (And.intro hq hf)
        have HO2 := Lib.hid (Sl.own_below HOWN.out hb2 (Nat.le_refl _))
        have HLT := Lib.hid HOWN.out.lt
        clear hq hf hb2 KS
        rcases (show r = 0 ∨ r = 1 ∨ r = 2 ∨ r = 3 ∨ r = 4 ∨ r = 5 ∨ r = 6 ∨ r = 7 ∨ r = 8 ∨ r = 9 by omega) with rfl | rfl | rfl | rfl | rfl | rfl | rfl | rfl | rfl | rfl
        all_goals
          go_wp2_with (at_builtin; refine wpList_append_own _ rfl _ _ 27 rfl w.heap.size 5 i0 (.int .u8 0) 1 1 Tryz.underlying27 hi hz0 hz1 hz2 rfl (by decide) _ _ _ rfl (HO2.out.alloc _) ⟨w2.heap.size, 0, none⟩ 1 1 [_] rfl rfl (Sl.one_new _ _ _) ?c2 ?c3 ?c4 ?c5 ?_)
          case c2 => intro u hu; simp only [List.mem_singleton] at hu; subst hu; rfl
          case c3 => simp only [maxLen]; omega
          case c4 => omega
          case c5 => have := HBW2.out.size; simp; omega
          intro o' w3 hown3 hg3 _
          have hB3 := Sl.below_own (HBW2.out.alloc HBW2.out.size _) (HO2.out.alloc _) hg3 (Nat.le_refl _) (by have := HBW2.out.size; simp; omega)
          have hN3 := Tx.in_grown (Nt.In.below HQ.out.1 ((Below.refl _ _).alloc (Nat.le_refl _) _) (Nat.le_refl _)) hg3 (fun b off l c e => by
            intro e2
            have h1 := (HLT.out b e2.symm).2
            have h2 := HQ.out.2 b off l c e
            omega)
          obtain ⟨g', hlt', hrel'⟩ := FIN.out o' _ w3 0 hN3 hown3 hB3
          obtain ⟨oa', oc', rfl⟩ := Tx.own_slice hown3
          have HREL := Lib.hid hrel'
          clear hrel' hN3 hown3 hg3 hB3
          go_wp2_with fail
          go_roundg g'
          case measure => exact hlt'
          case rel => exact HREL.out
      · go_wp2_with fail
        refine KS.mono ?_
        rintro x w2 ⟨vq, rfl, hq, hf, hb2⟩
        obtain ⟨qa, qc, rfl⟩ := Nt.In.slice hq
        have HBW2 := Lib.hid (HBW.out.trans (hb2.mono HBW.out.size))
        have HQ := Lib.hid (And.intro hq hf)
        have HO2 := Lib.hid (Sl.own_below HOWN.out hb2 (Nat.le_refl _))
        have HLT := Lib.hid HOWN.out.lt
        clear hq hf hb2 KS
        rcases (show r = 0 ∨ r = 1 ∨ r = 2 ∨ r = 3 ∨ r = 4 ∨ r = 5 ∨ r = 6 ∨ r = 7 ∨ r = 8 ∨ r = 9 by omega) with rfl | rfl | rfl | rfl | rfl | rfl | rfl | rfl | rfl | rfl
        all_goals
          go_wp2_with (at_builtin; refine wpList_append_own _ rfl _ _ 27 rfl w.heap.size 5 i0 (.int .u8 0) 1 1 Tryz.underlying27 hi hz0 hz1 hz2 rfl (by decide) _ _ _ rfl (HO2.out.alloc _) ⟨w2.heap.size, 0, none⟩ 1 1 [_] rfl rfl (Sl.one_new _ _ _) ?c2 ?c3 ?c4 ?c5 ?_)
          case c2 => intro u hu; simp only [List.mem_singleton] at hu; subst hu; rfl
          case c3 => simp only [maxLen]; omega
          case c4 => omega
          case c5 => have := HBW2.out.size; simp; omega
          intro o' w3 hown3 hg3 _
          have hB3 := Sl.below_own (HBW2.out.alloc HBW2.out.size _) (HO2.out.alloc _) hg3 (Nat.le_refl _) (by have := HBW2.out.size; simp; omega)
          have hN3 := Tx.in_grown (Nt.In.below HQ.out.1 ((Below.refl _ _).alloc (Nat.le_refl _) _) (Nat.le_refl _)) hg3 (fun b off l c e => by
            intro e2
            have h1 := (HLT.out b e2.symm).2
            have h2 := HQ.out.2 b off l c e
            omega)
          obtain ⟨g', hlt', hrel'⟩ := FIN.out o' _ w3 0 hN3 hown3 hB3
          obtain ⟨oa', oc', rfl⟩ := Tx.own_slice hown3
          have HREL := Lib.hid hrel'
          clear hrel' hN3 hown3 hg3 hB3
          go_wp2_with fail
          go_roundg g'
          case measure => exact hlt'
          case rel => exact HREL.out
end Go.Proofs.YtikmebkfdpbidaaGreatDoor
namespace Go.Proofs.YtikmebkfdpbidaaGreatDoor
open Go.RowKit
set_option linter.unusedVariables false
set_option linter.unusedSimpArgs false

set_option maxHeartbeats 1000000 in
set_option maxRecDepth 1000000 in
theorem Wt.digitR (r : Nat) (hr : r < 10) (w : World) : Calls Tryz.prog 205 #[.int .u32 r] w fun e w' => e = .returned (.int .u8 ((48 + r : Nat) : Int)) ∧ w = w' := by
  have h1 : (r : Int) < 10 := by omega
  have h2 : (r : Int) % 256 = (r : Int) := by omega
  have h3 : (48 + (r : Int)) % 256 = 48 + (r : Int) := by omega
  have h4 : (((48 + r : Nat)) : Int) = 48 + (r : Int) := by omega
  rw [h4]
  go_enter Tryz.func205, Tryz.ntmps205
  go_wp2_with fail
  go_ret
  exact ⟨rfl, rfl⟩
/-- A number's digits, the last one first; nought has none. -/
def Wt.loz (n : Nat) : List UInt8 := if n = 0 then [] else Tx.lo n
theorem Wt.loz_zero : Wt.loz 0 = [] := rfl
theorem Wt.loz_pos {n : Nat} (h : n ≠ 0) : Wt.loz n = Tx.dg (n % 10) :: Wt.loz (n / 10) := by
  unfold Wt.loz
  rw [if_neg h]
  by_cases h1 : n < 10
  · rw [if_pos (by omega), Tx.lo_small h1, Nat.mod_eq_of_lt h1]
  · rw [if_neg (by omega), Tx.lo_big h1]
/-- A store into an own row. -/
theorem Wt.put_own {w : World} {B g L cap : Nat} {t : TypeId} {ws : List Nat} (h : w.ownsRow B t 1 (.slice (some ⟨g, 0, none⟩) L cap) L (Nt.vs ws)) (k x : Nat) (hk : k < ws.length) (hl : ws.length = L) :
    ∃ W, w.setCell ⟨g, k, none⟩ (.int .u32 (x : Int)) = W ∧ w.cell? ⟨g, k, none⟩ = some (.int .u32 (ws.getD k 0 : Nat)) ∧ w.frozen? ⟨g, k, none⟩ = false ∧ W.ownsRow B t 1 (.slice (some ⟨g, 0, none⟩) L cap) L (Nt.vs (ws.set k x)) ∧ w.grownBy W (some g) := by
  have h2 := h.stored k (.int .u32 (x : Int))
  refine ⟨_, rfl, ?_, h.frozenAt k, ?_, h2.2⟩
  · rw [h.cellAt k (by omega), List.getD_eq_getElem?_getD, List.getElem?_eq_getElem hk]
    simp [Nt.vs, List.getElem?_eq_getElem hk]
  · have e : Nt.vs (ws.set k x) = (Nt.vs ws).set k (.int .u32 (x : Int)) := by simp [Nt.vs, List.map_set]
    rw [e]
    exact h2.1
theorem Wt.own_mono {w : World} {B B2 sz : Nat} {t : TypeId} {v : Value} {n : Nat} {xs : List Value} (h : w.ownsRow B t sz v n xs) (hb : B2 ≤ B) : w.ownsRow B2 t sz v n xs := by
  refine ⟨h.1, ?_⟩
  rcases h.2 with hv | ⟨g, cap, cur, hv, hB', hg, rest⟩
  · exact .inl hv
  · exact .inr ⟨g, cap, cur, hv, Nat.le_trans hb hB', hg, rest⟩
/-- Of no one block. -/
def Wt.apart (o v : Value) : Prop := ∀ g, o.ownBlock = some g → v.ownBlock ≠ some g
theorem Wt.apart_ne {o v : Value} (h : Wt.apart o v) : o.ownBlock = none ∨ o.ownBlock ≠ v.ownBlock := by
  cases e : o.ownBlock with
  | none => exact .inl rfl
  | some g => exact .inr (fun e2 => h g e e2.symm)
theorem Wt.vs_nil : Nt.vs (Nt.dig 0) = [] := by rw [Nt.dig_zero]; rfl
theorem Wt.loz_len {n : Nat} (h : (Nt.dig n).length ≤ 512) : (Wt.loz n).length ≤ 16385 := by
  unfold Wt.loz
  by_cases h0 : n = 0
  · rw [if_pos h0]; simp
  · rw [if_neg h0]; exact Tx.lo_len_dig h
theorem Wt.apart_next {o d o' : Value} {s : Nat} (h : Wt.apart o d) (hd : ∀ g, d.ownBlock = some g → g < s) (h2 : o'.ownBlock = o.ownBlock ∨ o'.ownBlock = some s) : Wt.apart o' d := fun g hg he => by
  rcases h2 with e | e
  · exact h g (e ▸ hg) he
  · have := hd g he
    rw [e] at hg
    simp only [Option.some.injEq] at hg
    omega
theorem Wt.apart_symm {o d : Value} (h : Wt.apart o d) : Wt.apart d o := fun g hg he => h g he hg
theorem Wt.bv_snoc (out : List UInt8) (x : UInt8) : By.bv (out ++ [x]) = By.bv out ++ [.int .u8 (x.toNat : Int)] := by rw [By.bv_append]; rfl
set_option maxHeartbeats 4000000 in
set_option maxRecDepth 1000000 in
theorem Wt.natR_any (n : Nat) (v : Value) (w : World) (h : Nt.N w v n) (hl : (Nt.dig n).length ≤ 512) :
    Calls Tryz.prog 162 #[v, .int .i64 10] w fun e w' => e = .returned (.tuple #[.string ⟨(Tx.dec n).toArray⟩, .int .i64 0]) ∧ Below w.heap.size w w' := by
  obtain ⟨ad, cap, rfl⟩ := Nt.In.slice h
  have KS := Rn.Sound_any (Nt.dig n) _ w h (Nt.dig_wd n) (by omega)
  rw [show Nt.sound (Nt.dig n) = true by rw [Nt.sound_dig]; exact decide_eq_true hl] at KS
  have HN := Lib.hid h
  have HLO := Lib.hid (Wt.loz_len hl)
  have HL := Lib.hid hl
  obtain ⟨i0, hi, hz0, hz1, hz2⟩ := info_parts Tx.infoByte
  clear h
  obtain ⟨L0, hL0⟩ : ∃ z, z = (Nt.dig n).length := ⟨_, rfl⟩
  rw [← hL0] at KS HN
  rw [← hL0]
  have HL0 := Lib.hid hL0
  clear hL0 hl
  go_enter Tryz.func162, Tryz.ntmps162
  go_wp2_with fail
  refine KS.mono ?_
  rintro x w1 ⟨rfl, hb1⟩
  have hin1 : Nt.In (w1.alloc (.cells #[] 5)) (.slice ad L0 cap) (Nt.dig n) := (Nt.In.below HN.out hb1 (Nat.le_refl _)).below ((Below.refl _ _).alloc (Nat.le_refl _) _) (Nat.le_refl _)
  have KN := Rn.Norm_own (Nt.dig n) _ _ hin1 (Nt.dig_wd n) (by have := HL.out; omega)
  rw [Nt.val_dig] at KN
  have HB1 := Lib.hid (hb1.alloc hb1.size (.cells #[] 5))
  have HSZ := Lib.hid hb1.size
  clear hin1 hb1 KS
  go_wp2_with fail
  refine KN.mono ?_
  rintro x w2 ⟨vl, rfl, hown2, hb2⟩
  obtain ⟨la, lc, rfl⟩ := Tx.own_slice hown2
  have HOL := Lib.hid (Wt.own_mono hown2 (by simp; have := HSZ.out; omega : w.heap.size ≤ (w1.alloc (.cells #[] 5)).heap.size))
  have HOD := Lib.hid (Wt.own_mono (Sl.own_below (Sl.own_empty w1 5) hb2 (Nat.le_refl _)) HSZ.out)
  have HAP : Hid (Wt.apart (.slice (some ⟨w1.heap.size, 0, none⟩) 0 0) (.slice la (Nt.dig n).length lc)) := Lib.hid (fun g hg he => by
    have h1 := (hown2.lt g he).1
    simp only [Value.ownBlock, Option.some.injEq] at hg
    simp at h1
    omega)
  have HB2 := Lib.hid (HB1.out.trans (hb2.mono HB1.out.size))
  clear hown2 hb2 KN
  go_wp2_with fail
  go_loopg [6, 7] (Wt.loz n).length (fun g o v wr => ∃ (cur : Nat) (out : List UInt8), wr.ownsRow w.heap.size 144 1 v (Nt.dig cur).length (Nt.vs (Nt.dig cur)) ∧ wr.ownsRow w.heap.size 5 1 o out.length (By.bv out) ∧ Wt.apart o v ∧ Below w.heap.size w wr ∧ cur ≤ n ∧ g = (Wt.loz cur).length ∧ out ++ Wt.loz cur = Wt.loz n)
  case atStart => exact ⟨n, [], HOL.out, HOD.out, HAP.out, HB2.out, Nat.le_refl _, rfl, rfl⟩
  case round =>
    obtain ⟨cur, out, hown, hod, hap, hbw, hcn, hg, hout⟩ := hrel
    obtain ⟨wo, hwo⟩ : ∃ z, z = wr := ⟨_, rfl⟩
    subst hwo
    obtain ⟨aa, ac, hv⟩ := Tx.own_slice hown
    obtain ⟨L, hL⟩ : ∃ z, z = (Nt.dig cur).length := ⟨_, rfl⟩
    rw [← hL] at hv hown
    subst hv
    obtain ⟨oa, oc, hv⟩ := Tx.own_slice hod
    obtain ⟨K, hK⟩ : ∃ z, z = out.length := ⟨_, rfl⟩
    rw [← hK] at hv hod
    subst hv
    have HKK := Lib.hid hK
    have HLL := Lib.hid hL
    have HOWN := Lib.hid hown
    have HOD2 := Lib.hid hod
    have HAPT := Lib.hid hap
    have HBW := Lib.hid hbw
    have HCN := Lib.hid hcn
    have HG := Lib.hid hg
    have HOUT := Lib.hid hout
    have hol : K ≤ 16385 := by
      have := HLO.out
      rw [← hout, List.length_append] at this
      omega
    clear hown hod hap hbw hcn hg hout HOL HOD HAP HB2 HB1 HSZ
    rcases Nat.eq_zero_or_pos cur with hc | hc
    · subst hc
      have hl0 : L = 0 := by rw [hL, Nt.dig_zero]; rfl
      subst hl0
      have hout : out = Wt.loz n := by have := HOUT.out; rw [Wt.loz_zero, List.append_nil] at this; exact this
      clear hL
      rcases Nat.eq_zero_or_pos n with hn | hn
      · have hk0 : K = 0 := by rw [hK, hout, hn]; rfl
        subst hk0
        have he : Tx.dec n = [48] := by rw [hn]; exact (by decide : [Tx.dg 0] = [48]) ▸ (by unfold Tx.dec; rw [Tx.lo_small (by decide)]; rfl)
        have HE := Lib.hid he
        clear hK hout hn he
        go_wp2_with fail
        go_ret2
        exact ⟨by rw [HE.out]; rfl, HBW.out⟩
      · have hk0 : ((K : Int) == 0) = false := beq_eq_false_iff_ne.2 (by
          rw [hK, hout, Wt.loz_pos (by omega)]
          simp
          omega)
        have hkp : 0 < K := by have := beq_eq_false_iff_ne.1 hk0; omega
        have hlo : out = Tx.lo n := by rw [hout]; unfold Wt.loz; rw [if_neg (by omega)]
        have HLN := Lib.hid hlo
        obtain ⟨g, hg⟩ : ∃ g, oa = some ⟨g, 0, none⟩ := by
          rcases HOD2.out.2 with ⟨_, e⟩ | ⟨g, c, cu, hv, _⟩
          · omega
          · simp only [Value.slice.injEq] at hv
            exact ⟨g, hv.1⟩
        subst hg
        clear hK hout hlo
        go_wp2_with fail
        go_loopw [10, 11] (fun o i wr => ∃ (k : Nat), i = .int .i64 ((k : Int) - 1) ∧ k ≤ K ∧ wr.ownsRow w.heap.size 5 1 o (K - k) (By.bv (out.drop k).reverse) ∧ wr.ownsRow w.heap.size 5 1 (.slice (some ⟨g, 0, none⟩) K oc) K (By.bv out) ∧ Wt.apart o (.slice (some ⟨g, 0, none⟩) K oc) ∧ Below w.heap.size w wr) (fun _ i _ => (intOf i + 1).toNat)
        case atStart =>
          have hb := HBW.out.alloc HBW.out.size (.cells #[] 5)
          refine ⟨K, by first | rfl | go_num | (simp; try omega), Nat.le_refl _, ?_, HOD2.out.alloc _, fun b hb2 he => ?_, hb⟩
          · rw [show K - K = 0 by omega, List.drop_eq_nil_of_le (by have := HKK.out; omega)]
            exact Wt.own_mono (Sl.own_empty wo 5) HBW.out.size
          · have h1 := (HOD2.out.lt b he).2
            simp only [Value.ownBlock, Option.some.injEq] at hb2
            omega
        case round =>
          obtain ⟨k, rfl, hk, hown, hod, hap, hbw⟩ := hrel
          obtain ⟨wi, hwi⟩ : ∃ z, z = wr := ⟨_, rfl⟩
          subst hwi
          obtain ⟨ba, bc, hv⟩ := Tx.own_slice hown
          subst hv
          have HO := Lib.hid (And.intro hown (And.intro hod (And.intro hap hbw)))
          clear hown hod hap hbw
          rcases k with _ | k
          · have hcv : (convert 27 9 (.slice ba (K - 0) bc)).run Tryz.prog wi = .ok (.string ⟨(Tx.dec n).toArray⟩) wi := by
              rcases HO.out.1.2 with ⟨_, e⟩ | ⟨g5, c, cu, hv, _⟩
              · omega
              · simp only [Value.slice.injEq] at hv
                obtain ⟨rfl, _, rfl⟩ := hv
                have h2 := World.ownsRow.cells HO.out.1 (g := g5) rfl
                have h3 := run_convert_bytes_back (P := Tryz.prog) wi 27 9 5 ⟨g5, 0, none⟩ bc (out.drop 0).reverse Tryz.underlying27 Tryz.underlying5 Tryz.underlying9 (fun j hj => h2 j _ (by
                  unfold By.bv
                  rw [List.getElem?_map, List.getElem?_eq_getElem hj]
                  rfl))
                rw [List.length_reverse, List.length_drop, ← HKK.out] at h3
                rw [h3, HLN.out]
                rfl
            rw [show K - 0 = K by omega] at hcv ⊢
            have HCV := Lib.hid hcv
            go_wp2_with fail
            go_ret2
            exact ⟨rfl, HO.out.2.2.2⟩
          · have hkk : k < K := by omega
            have c0 := HO.out.2.1.cellAt k (by omega)
            have hx : (By.bv out)[k]? = some (.int .u8 ((out.getD k 0).toNat : Int)) := by
              unfold By.bv
              rw [List.getElem?_map, List.getElem?_eq_getElem (by have := HKK.out; omega), List.getD_eq_getElem?_getD, List.getElem?_eq_getElem (by have := HKK.out; omega)]
              rfl
            rw [hx] at c0
            have hrow : (out.drop k).reverse = (out.drop (k + 1)).reverse ++ [out.getD k 0] := by
              rw [List.drop_eq_getElem_cons (by have := HKK.out; omega), List.reverse_cons, List.getD_eq_getElem?_getD, List.getElem?_eq_getElem (by have := HKK.out; omega)]
              rfl
            have HROW := Lib.hid hrow
            have hk1 : (((k + 1 : Nat) : Int) - 1) = (k : Int) := by omega
            rw [hk1]
            clear hx hrow
            generalize out.getD k 0 = x at *
            obtain ⟨M, hM⟩ : ∃ z, z = K - (k + 1) := ⟨_, rfl⟩
            rw [← hM] at HO ⊢
            have HM := Lib.hid hM
            clear hM
            go_wp2_with (at_builtin; refine wpList_append_own_at _ rfl _ _ 27 rfl w.heap.size 5 i0 (.int .u8 0) 1 1 Tryz.underlying27 hi hz0 hz1 hz2 rfl (by decide) _ _ _ rfl (HO.out.1.alloc _) ⟨wi.heap.size, 0, none⟩ 1 1 [_] rfl rfl (Sl.one_new _ _ _) ?c2 ?c3 ?c4 ?c5 ?_)
            case c2 => intro u hu; simp only [List.mem_singleton] at hu; subst hu; rfl
            case c3 => simp only [maxLen]; have := HM.out; omega
            case c4 => have := HM.out; omega
            case c5 => have := HO.out.2.2.2.size; simp; omega
            intro o' w3 hown3 hg3 _ hat
            have hod3 := (HO.out.2.1.alloc (.cells #[.int .u8 (x.toNat : Int)] 5)).kept hg3 (Wt.apart_ne (Wt.apart_symm HO.out.2.2.1))
            have hap3 : Wt.apart o' (.slice (some ⟨g, 0, none⟩) K oc) := Wt.apart_next HO.out.2.2.1 (fun b hb => by have := (HO.out.2.1.lt b hb).2; omega) hat
            have hb3 := Sl.below_own (HO.out.2.2.2.alloc HO.out.2.2.2.size _) (HO.out.1.alloc _) hg3 (Nat.le_refl _) (by have := HO.out.2.2.2.size; simp; omega)
            obtain ⟨oa', oc', rfl⟩ := Tx.own_slice hown3
            rw [← Wt.bv_snoc, ← HROW.out] at hown3
            have HR := Lib.hid (And.intro hown3 (And.intro hod3 (And.intro hap3 hb3)))
            clear hown3 hod3 hap3 hb3 hg3 hat
            go_wp2_with fail
            go_roundw
            case rel => 
              refine ⟨k, by first | rfl | go_num | (simp; try omega), by omega, ?_, HR.out.2.1, ?_, HR.out.2.2.2⟩
              · rw [show K - k = M + 1 by have := HM.out; omega]
                exact HR.out.1
              · exact HR.out.2.2.1
            case measure => simp [intOf]
    · obtain ⟨g, hg⟩ : ∃ g, aa = some ⟨g, 0, none⟩ := by
        rcases HOWN.out.2 with ⟨_, e⟩ | ⟨g, c, cu, hv, _⟩
        · have := Nt.dig_len_pos.2 hc; omega
        · simp only [Value.slice.injEq] at hv
          exact ⟨g, hv.1⟩
      subst hg
      have hL0 : (0 : Int) < (L : Int) := by have := Nt.dig_len_pos.2 hc; omega
      have hlc : (Nt.dig cur).length ≤ 512 := Nat.le_trans (Nt.dig_len_mono HCN.out) HL.out
      rw [← hL] at hlc
      have HHC := Lib.hid hc
      clear hL hK hc
      go_wp2_with fail
      go_loopw [8, 9] (fun rv i wr => ∃ (k r : Nat) (ws : List Nat), i = .int .i64 ((k : Int) - 1) ∧ rv = .int .u64 r ∧ k ≤ L ∧ r < 10 ∧ ws.length = L ∧ Nt.Wd ws ∧ Nt.val ((Nt.dig cur).drop k) = 10 * Nt.val (ws.drop k) + r ∧ (∀ j, j < k → ws.getD j 0 = (Nt.dig cur).getD j 0) ∧ wr.ownsRow w.heap.size 144 1 (.slice (some ⟨g, 0, none⟩) L ac) L (Nt.vs ws) ∧ wr.ownsRow w.heap.size 5 1 (.slice oa K oc) K (By.bv out) ∧ Below w.heap.size w wr) (fun _ i _ => (intOf i + 1).toNat)
      case atStart => exact ⟨L, 0, Nt.dig cur, by first | rfl | go_num | (simp; try omega), rfl, Nat.le_refl _, by decide, HLL.out.symm, Nt.dig_wd cur, by rw [List.drop_eq_nil_of_le (by rw [← HLL.out]; exact Nat.le_refl _)]; rfl, fun _ _ => rfl, HOWN.out, HOD2.out, HBW.out⟩
      case round =>
        obtain ⟨k, r, ws, rfl, rfl, hk, hr, hwl, hwd, hval, hlow, hown, hod, hbw⟩ := hrel
        obtain ⟨wi, hwi⟩ : ∃ z, z = wr := ⟨_, rfl⟩
        subst hwi
        have HWD := Lib.hid hwd
        have HV := Lib.hid hval
        have HLOW := Lib.hid hlow
        have HO := Lib.hid (And.intro hown (And.intro hod hbw))
        have HWL := Lib.hid hwl
        clear hwd hval hlow hown hod hbw hwl
        rcases k with _ | k
        · have hval := HV.out
          rw [List.drop_zero, List.drop_zero, Nt.val_dig] at hval
          have hq : Nt.val ws = cur / 10 := by omega
          have hm : r = cur % 10 := by omega
          have hin : Nt.In wi (.slice (some ⟨g, 0, none⟩) L ac) ws := Nt.In.of_own (B := w.heap.size) (t := 144) (by rw [HWL.out]; exact HO.out.1)
          have KN := Rn.Norm_own ws _ wi hin HWD.out (by have := HWL.out; omega)
          rw [hq] at KN
          have HM := Lib.hid hm
          have hrw : (r : Int) % 4294967296 = (r : Int) := by omega
          clear hval hq hm hin
          go_wp2_with fail
          refine KN.mono ?_
          rintro z w8 ⟨v8, rfl, hn8, hb8⟩
          obtain ⟨la, lc, rfl⟩ := Tx.own_slice hn8
          have KD := Wt.digitR r hr w8
          have HN8 := Lib.hid (And.intro hn8 hb8)
          clear hn8 hb8 KN
          go_wp2_with fail
          refine KD.mono ?_
          rintro z w9 ⟨rfl, hw9⟩
          subst hw9
          clear KD
          have hod8 := Sl.own_below HO.out.2.1 HN8.out.2 (Nat.le_refl _)
          have HBW8 := Lib.hid (HO.out.2.2.trans (HN8.out.2.mono HO.out.2.2.size))
          go_wp2_with (at_builtin; refine wpList_append_own_at _ rfl _ _ 27 rfl w.heap.size 5 i0 (.int .u8 0) 1 1 Tryz.underlying27 hi hz0 hz1 hz2 rfl (by decide) _ _ _ rfl (hod8.alloc _) ⟨w8.heap.size, 0, none⟩ 1 1 [_] rfl rfl (Sl.one_new _ _ _) ?c2 ?c3 ?c4 ?c5 ?_)
          case c2 => intro u hu; simp only [List.mem_singleton] at hu; subst hu; rfl
          case c3 => simp only [maxLen]; omega
          case c4 => omega
          case c5 => have := HBW8.out.size; simp; omega
          intro o' w3 hown3 hg3 _ hat
          have hvl8 := (HN8.out.1.alloc (.cells #[.int .u8 (48 + (r : Int))] 5))
          have hle8 := HN8.out.2.size
          have hold : ∀ b, (Value.slice oa K oc).ownBlock = some b → b < wi.heap.size := fun b hb => (HO.out.2.1.lt b hb).2
          have hap0 : Wt.apart (.slice oa K oc) (.slice la (Nt.dig (cur / 10)).length lc) := fun b hb he => by
            have h1 := hold b hb
            have h2 := (HN8.out.1.lt b he).1
            omega
          have hvl3 := hvl8.kept hg3 (Wt.apart_ne (Wt.apart_symm hap0))
          have hap3 : Wt.apart o' (.slice la (Nt.dig (cur / 10)).length lc) := Wt.apart_next hap0 (fun b hb => by have := (HN8.out.1.lt b hb).2; omega) hat
          have hb3 := Sl.below_own (HBW8.out.alloc HBW8.out.size _) (hod8.alloc _) hg3 (Nat.le_refl _) (by have := HBW8.out.size; simp; omega)
          obtain ⟨oa', oc', rfl⟩ := Tx.own_slice hown3
          have hdg : (Tx.dg r).toNat = 48 + r := by unfold Tx.dg; simp only [UInt8.toNat_ofNat']; omega
          have hbv : By.bv out ++ [.int .u8 (48 + (r : Int))] = By.bv (out ++ [Tx.dg r]) := by rw [Wt.bv_snoc, hdg, show ((48 + r : Nat) : Int) = 48 + (r : Int) by omega]
          rw [hbv] at hown3
          have HR := Lib.hid (And.intro (Wt.own_mono hvl3 HO.out.2.2.size) (And.intro hown3 (And.intro hap3 hb3)))
          clear hown3 hvl3 hap3 hb3 hg3 hat hvl8 hle8 hold hap0 hdg hbv hod8
          go_wp2_with fail
          have hlz := Wt.loz_pos (n := cur) (by have := HHC.out; omega)
          go_roundg (Wt.loz (cur / 10)).length
          case measure => rw [HG.out, hlz]; exact Nat.lt_succ_self _
          case rel => 
            refine ⟨cur / 10, out ++ [Tx.dg r], HR.out.1, ?_, HR.out.2.2.1, HR.out.2.2.2, by have := HCN.out; omega, rfl, ?_⟩
            · rw [List.length_append, ← HKK.out]
              exact HR.out.2.1
            · rw [← HOUT.out, hlz, ← HM.out, List.append_assoc]
              rfl
        · have hk1 : (((k + 1 : Nat) : Int) - 1) = (k : Int) := by omega
          rw [hk1]
          have hkk : k < L := by omega
          have hxe := HLOW.out k (by omega)
          have hxb := (Nt.dig_wd cur).getD k
          have hstep := Nt.short_step (a := Nt.dig cur) (ws := ws) (i := k) (r := r) (d := 10) HV.out (by decide) (by have := HLL.out; omega) (by have := HWL.out; omega)
          have hqlt := Nt.short_lt (a := (Nt.dig cur).getD k 0) (r := r) (d := 10) hxb hr
          obtain ⟨x, hx⟩ : ∃ x, (Nt.dig cur).getD k 0 = x := ⟨_, rfl⟩
          rw [hx] at hxe hxb hstep hqlt
          obtain ⟨N, hN⟩ : ∃ N, 4294967296 * r + x = N := ⟨_, rfl⟩
          rw [hN] at hstep hqlt
          have HSTEP := Lib.hid hstep
          clear hstep hx
          have hNl : N < 18446744073709551616 := by omega
          obtain ⟨q, hq⟩ : ∃ q, N / 10 = q := ⟨_, rfl⟩
          obtain ⟨m, hm⟩ : ∃ m, N % 10 = m := ⟨_, rfl⟩
          rw [hq] at HSTEP hqlt
          rw [hm] at HSTEP
          have hml : m < 10 := hm ▸ Nat.mod_lt _ (by decide)
          have hqI : ((r : Int) * 4294967296 + (x : Int)) / 10 = (q : Int) := by omega
          have hmI : ((r : Int) * 4294967296 + (x : Int)) % 10 = (m : Int) := by omega
          have hqw : (q : Int) % 4294967296 = (q : Int) := by omega
          obtain ⟨W, hW, e1, e2, hO9, hG9⟩ := Wt.put_own HO.out.1 k q (by have := HWL.out; omega) HWL.out
          rw [hxe] at e1
          have hD9 := HO.out.2.1.kept hG9 (Wt.apart_ne (v := .slice (some ⟨g, 0, none⟩) L ac) HAPT.out)
          have hB9 := Sl.below_own HO.out.2.2 HO.out.1 hG9 (Nat.le_refl _) HO.out.2.2.size
          have HR := Lib.hid (And.intro hqlt (And.intro hml (And.intro hO9 (And.intro hD9 hB9))))
          have HX := Lib.hid hxe
          clear hN hq hm hqlt hml hO9 hD9 hB9 hG9 hxe
          go_wp2_with fail
          go_roundw
          case rel => 
            refine ⟨k, m, _, by first | rfl | go_num | (simp; try omega), by first | rfl | rw [hmI], by omega, HR.out.2.1, by rw [List.length_set]; exact HWL.out, HWD.out.set _ _ HR.out.1, HSTEP.out, fun j hj => ?_, HR.out.2.2.1, HR.out.2.2.2.1, HR.out.2.2.2.2⟩
            rw [Nt.getD_set_ne ws k j _ (by omega)]
            exact HLOW.out j (by omega)
          case measure => simp [intOf]
end Go.Proofs.YtikmebkfdpbidaaGreatDoor
namespace Go.Proofs.YtikmebkfdpbidaaGreatDoor
open Go.RowKit
set_option linter.unusedVariables false
set_option linter.unusedSimpArgs false

/-- Bytes as a text. -/
def Tx.str (l : List UInt8) : ByteArray := ⟨l.toArray⟩
theorem Tx.str_append (a b : List UInt8) : Tx.str a ++ Tx.str b = Tx.str (a ++ b) := by
  unfold Tx.str
  apply ByteArray.ext
  simp
/-- A fraction's text. -/
def Tx.rat (s : Bool) (t b : Nat) : List UInt8 := (if s = true then [45] else []) ++ (Tx.dec t ++ if b = 1 then [] else 47 :: Tx.dec b)
set_option maxHeartbeats 2000000 in
set_option maxRecDepth 1000000 in
theorem Tx.ratText_any (s : Bool) (t b : Nat) (v : Value) (w : World) (h : Rt.R w v s t b) (hb : 0 < b) (hl : (Nt.dig t).length ≤ 512 ∧ (Nt.dig b).length ≤ 512) :
    Calls Tryz.prog 126 #[v, .int .i64 10] w fun e w' => e = .returned (.string (Tx.str (Tx.rat s t b))) ∧ Below w.heap.size w w' := by
  obtain ⟨tv, bv, rfl, h1, h2⟩ := h
  obtain ⟨S, hS, hone⟩ := Rt.isOne h2 hb
  obtain ⟨ta, tc, hv⟩ := Nt.In.slice h1
  obtain ⟨L, hL⟩ : ∃ z, z = (Nt.dig t).length := ⟨_, rfl⟩
  rw [← hL] at hv
  subst hv
  obtain ⟨ba, bc, hv2⟩ := Nt.In.slice h2
  obtain ⟨M, hM⟩ : ∃ z, z = (Nt.dig b).length := ⟨_, rfl⟩
  rw [← hM] at hv2
  subst hv2
  have HB0 : Hid (∀ o, Below w.heap.size w (w.alloc o)) := Lib.hid (fun o => (Below.refl _ _).alloc (Nat.le_refl _) o)
  have KT := Lib.hid (fun w' (hb : Below w.heap.size w w') => Tx.Text_any t _ w' (Nt.In.below h1 hb (Nat.le_refl _)) hl.1)
  have KB := Lib.hid (fun w' (hb : Below w.heap.size w w') => Tx.Text_any b _ w' (Nt.In.below h2 hb (Nat.le_refl _)) hl.2)
  have hq : (w.alloc (.cells #[.bool s, .slice ta L tc, .slice ba M bc] 24)).heap[w.heap.size]? = some (.cells #[.bool s, .slice ta L tc, .slice ba M bc] 24 (0, 0)) := heap_alloc_new w _
  have HF : Hid (∀ w', Below (w.heap.size + 1) (w.alloc (.cells #[.bool s, .slice ta L tc, .slice ba M bc] 24)) w' → (w'.cell? ⟨w.heap.size, 0, none⟩ = some (.bool s) ∧ w'.cell? ⟨w.heap.size, 1, none⟩ = some (.slice ta L tc) ∧ w'.cell? ⟨w.heap.size, 2, none⟩ = some (.slice ba M bc)) ∧ Below w.heap.size w w') := Lib.hid (fun w' hb => by
    have a0 := (hb.block w.heap.size (Nat.lt_succ_self _)).trans hq
    exact ⟨Rt.cells3 a0, (HB0.out _).trans (hb.mono (Nat.le_succ _))⟩)
  have HONE : Hid (∀ w', Below w.heap.size w w' → (S = false ∧ ((M : Int) == 1) = false) ∨ ∃ bb off, ba = some ⟨bb, off, none⟩ ∧ M = 1 ∧ w'.cell? ⟨bb, off, none⟩ = some (.int .u32 b) ∧ ((b : Int) == 1) = S) := Lib.hid (fun w' hb => by
    rcases hone with ⟨ad, cap, e, e2, e3⟩ | ⟨bb, off, cap, e, e2, e3⟩
    · rw [← hM] at e2
      exact .inl ⟨e3, e2⟩
    · simp only [Value.slice.injEq] at e
      obtain ⟨rfl, rfl, rfl⟩ := e
      rcases h2 with ⟨e, _⟩ | ⟨a, c, e, e4⟩ | ⟨h0, b3, off3, cap3, e, hc, hlt, hcell⟩
      · cases e
      · simp only [Value.slice.injEq] at e
        omega
      · simp only [Value.slice.injEq, Option.some.injEq, Addr.mk.injEq] at e
        obtain ⟨⟨rfl, rfl, _⟩, _, _⟩ := e
        exact .inr ⟨bb, off, rfl, rfl, (hb.cell (p := ⟨bb, off, none⟩) hlt).trans e2, e3⟩)
  have HS := Lib.hid hS
  have hz : (w.alloc (.cells #[.bool s, .slice ta L tc, .slice ba M bc] 24)).heap.size = w.heap.size + 1 := by simp
  have HZ := Lib.hid hz
  have n1 : (Tx.dec t).length ≤ 16385 := by unfold Tx.dec; rw [List.length_reverse]; exact Tx.lo_len_dig hl.1
  have n2 : (Tx.dec b).length ≤ 16385 := by unfold Tx.dec; rw [List.length_reverse]; exact Tx.lo_len_dig hl.2
  have f1 : (9223372036854775807 < 1 + (Tx.dec t).length) = False := eq_false (by omega)
  have f2 : (9223372036854775807 < 1 + (Tx.dec b).length) = False := eq_false (by omega)
  have f3 : (9223372036854775807 < (Tx.dec t).length + (1 + (Tx.dec b).length)) = False := eq_false (by omega)
  have f4 : (9223372036854775807 < 1 + (Tx.dec t).length + (1 + (Tx.dec b).length)) = False := eq_false (by omega)
  clear h1 h2 hone hL hM hq hS hz hl n1 n2
  go_enter Tryz.func126, Tryz.ntmps126
  go_wp2_with fail
  refine (KT.out _ (HB0.out _)).mono ?_
  rintro x w1 ⟨rfl, hb1⟩
  rw [HZ.out] at hb1
  have HB1 := Lib.hid hb1
  obtain ⟨⟨c0, c1, c2⟩, hbw1⟩ := HF.out _ hb1
  have hcase := HONE.out _ hbw1
  have HBW1 := Lib.hid hbw1
  have HTT : Hid (∀ (R : List UInt8), (if S = true then [] else 47 :: Tx.dec b) = R → (if s = true then [45] else []) ++ (Tx.dec t ++ R) = Tx.rat s t b) := Lib.hid (fun R e => by
    unfold Tx.rat
    rw [← e, HS.out]
    by_cases hb1 : b = 1
    · simp [hb1]
    · simp [hb1])
  clear hb1 hbw1
  rcases hcase with ⟨rfl, hM1⟩ | ⟨bb, off, rfl, rfl, c3, hb1⟩
  · have hM2 : ((M : Int) != 1) = true := by rw [bne, hM1]; rfl
    cases s
    all_goals
      go_wp2_with fail
      refine (KB.out _ HBW1.out).mono ?_
      rintro x w2 ⟨rfl, hb2⟩
      have HB2 := Lib.hid (HBW1.out.trans (hb2.mono HBW1.out.size))
      clear hb2
      go_wp2_with fail
      go_ret
      refine ⟨?_, HB2.out⟩
      rw [← HTT.out _ rfl]
      first | rfl | (simp [Tx.str, Tx.str_append]; done) | (simp [Tx.str]; apply ByteArray.ext; simp)
  · have hb2 : ((b : Int) != 1) = !S := by rw [bne, hb1]
    cases S
    · have hb3 : ((b : Int) != 1) = true := hb2
      cases s
      all_goals
        go_wp2_with fail
        refine (KB.out _ HBW1.out).mono ?_
        rintro x w2 ⟨rfl, hb2⟩
        have HB2 := Lib.hid (HBW1.out.trans (hb2.mono HBW1.out.size))
        clear hb2
        go_wp2_with fail
        go_ret
        refine ⟨?_, HB2.out⟩
        rw [← HTT.out _ rfl]
        first | rfl | (simp [Tx.str, Tx.str_append]; done) | (simp [Tx.str]; apply ByteArray.ext; simp)
    · have hb3 : ((b : Int) != 1) = false := hb2
      cases s
      all_goals
        go_wp2_with fail
        go_ret
        refine ⟨?_, HBW1.out⟩
        rw [← HTT.out _ rfl]
        first | rfl | (simp [Tx.str, Tx.str_append]; done) | (simp [Tx.str]; apply ByteArray.ext; simp)
end Go.Proofs.YtikmebkfdpbidaaGreatDoor
namespace Go.Proofs.YtikmebkfdpbidaaGreatDoor
open Go.RowKit
set_option linter.unusedVariables false
set_option linter.unusedSimpArgs false
/-- A number whose words lie in blocks from B on. -/
def Rt.FrN (B : Nat) (v : Value) : Prop := ∃ s tv bv s2 tv2 bv2, v = .agg #[s, tv, bv, s2, tv2, bv2] ∧ Nt.Fr B tv ∧ Nt.Fr B bv ∧ Nt.Fr B tv2 ∧ Nt.Fr B bv2
def Rt.Len (n : Nat) : Prop := (Nt.dig n).length ≤ 400000
theorem Rt.Fr.open {B B' : Nat} {s tv bv : Value} (h : Rt.Fr B (.agg #[s, tv, bv])) (hB : B' ≤ B) : Nt.Fr B' tv ∧ Nt.Fr B' bv := by
  obtain ⟨s', tv', bv', e, h1, h2⟩ := h
  simp only [Value.agg.injEq] at e
  have e1 : tv = tv' := by have := congrArg (fun a : Array Value => a[1]?) e; simpa using this
  have e2 : bv = bv' := by have := congrArg (fun a : Array Value => a[2]?) e; simpa using this
  subst e1 e2
  exact ⟨h1.mono hB, h2.mono hB⟩
set_option maxHeartbeats 8000000 in
set_option maxRecDepth 1000000 in
theorem Rt.own_any (s : Bool) (t b : Nat) (s2 : Bool) (t2 b2 : Nat) (v : Value) (w : World) (h : Rt.Q w v s t b s2 t2 b2) (hl : (Nt.dig t).length ≤ 400000 ∧ (Nt.dig b).length ≤ 400000 ∧ (Nt.dig t2).length ≤ 400000 ∧ (Nt.dig b2).length ≤ 400000) :
    Calls Tryz.prog 171 #[v] w fun e w' => ∃ v', e = .returned v' ∧ Rt.Q w' v' s t b s2 t2 b2 ∧ Rt.FrN w.heap.size v' ∧ Below w.heap.size w w' := by
  have K1 := fun v w h => Rt.own1_any s t b v w h ⟨hl.1, hl.2.1⟩
  have K2 := fun v w h => Rt.own1_any s2 t2 b2 v w h ⟨hl.2.2.1, hl.2.2.2⟩
  clear hl
  obtain ⟨tv1, bv1, tv2, bv2, rfl, hn1, hd1, hn2, hd2⟩ := h
  obtain ⟨a1, c1, rfl⟩ := Nt.In.slice hn1
  obtain ⟨a2, c2, rfl⟩ := Nt.In.slice hd1
  obtain ⟨a3, c3, rfl⟩ := Nt.In.slice hn2
  obtain ⟨a4, c4, rfl⟩ := Nt.In.slice hd2
  generalize (Nt.dig t).length = l1 at *
  generalize (Nt.dig b).length = l2 at *
  generalize (Nt.dig t2).length = l3 at *
  generalize (Nt.dig b2).length = l4 at *
  obtain ⟨W2, hW2, q0, q1, hsz, hb0⟩ := Rt.two w (.cells #[.bool s, .slice a1 l1 c1, .slice a2 l2 c2, .bool s2, .slice a3 l3 c3, .slice a4 l4 c4] 26) (.cells #[.bool false, .slice none 0 0, .slice none 0 0, .bool false, .slice none 0 0, .slice none 0 0] 26)
  have HI := Lib.hid (fun (w' : World) (hb : Below W2.heap.size W2 w') => And.intro (show Rt.R w' (.agg #[.bool s, .slice a1 l1 c1, .slice a2 l2 c2]) s t b from ⟨_, _, rfl, (Nt.N.below hn1 hb0 (Nat.le_refl _)).below hb (Nat.le_refl _), (Nt.N.below hd1 hb0 (Nat.le_refl _)).below hb (Nat.le_refl _)⟩) (show Rt.R w' (.agg #[.bool s2, .slice a3 l3 c3, .slice a4 l4 c4]) s2 t2 b2 from ⟨_, _, rfl, (Nt.N.below hn2 hb0 (Nat.le_refl _)).below hb (Nat.le_refl _), (Nt.N.below hd2 hb0 (Nat.le_refl _)).below hb (Nat.le_refl _)⟩))
  have HK := Lib.hid (fun (w' : World) (hb : Below W2.heap.size W2 w') => Rt.cells6 ((hb.block w.heap.size (by omega)).trans q0))
  have HR := Lib.hid (fun (w' : World) (hb : Below W2.heap.size W2 w') => (hb.block (w.heap.size + 1) (by omega)).trans q1)
  have HKX := Lib.hid (fun (w' w'' : World) (hb : Below W2.heap.size W2 w') (hx : ∀ q, q ≠ w.heap.size + 1 → w''.heap[q]? = w'.heap[q]?) => (Rt.cells6 ((hx w.heap.size (by omega)).trans ((hb.block w.heap.size (by omega)).trans q0))))
  have HB := Lib.hid (fun (w' : World) (hb : Below W2.heap.size W2 w') => hb0.trans (hb.mono (by omega : w.heap.size ≤ W2.heap.size)))
  have hacc : Below W2.heap.size W2 W2.drew := Rt.belowD (Below.refl _ _)
  have hkeep := HK.out _ hacc
  have HZ : Hid (∀ w', Below W2.heap.size W2 w' → w.heap.size ≤ w'.heap.size) := Lib.hid (fun w' hb => by have := hb.size; omega)
  clear q0 q1 hb0 hn1 hd1 hn2 hd2 hsz
  go_enter Tryz.func171, Tryz.ntmps171
  go_wp2_with fail
  clear hW2
  go_region_held3 (fun w' => w'.cell? ⟨w.heap.size, 0, none⟩ = some (.bool s) ∧ w'.cell? ⟨w.heap.size, 1, none⟩ = some (.slice a1 l1 c1) ∧ w'.cell? ⟨w.heap.size, 2, none⟩ = some (.slice a2 l2 c2) ∧ w'.cell? ⟨w.heap.size, 3, none⟩ = some (.bool s2) ∧ w'.cell? ⟨w.heap.size, 4, none⟩ = some (.slice a3 l3 c3) ∧ w'.cell? ⟨w.heap.size, 5, none⟩ = some (.slice a4 l4 c4))
    (first | exact hkeep | exact hkeepX)
    (first
      | (go_at_call_of 212 (Value.agg #[.bool s, .slice a1 l1 c1, .slice a2 l2 c2])
         refine (K1 _ _ (HI.out _ hacc).1).mono ?_
         rintro x w5 ⟨v5, rfl, hv5, hf5, hb5⟩
         obtain ⟨tvx, bvx, rfl, hn5, hd5⟩ := hv5
         have hf5 := Lib.hid (Rt.Fr.open hf5 (HZ.out _ hacc))
         have hacc := Rt.belowT hacc hb5
         have hkeep := HK.out _ hacc)
      | (go_at_call_of 212 (Value.agg #[.bool s2, .slice a3 l3 c3, .slice a4 l4 c4])
         refine (K2 _ _ (HI.out _ hacc).2).mono ?_
         rintro x w6 ⟨v6, rfl, hv6, hf6, hb6⟩
         obtain ⟨tvy, bvy, rfl, hn6, hd6⟩ := hv6
         have hf6 := Lib.hid (Rt.Fr.open hf6 (HZ.out _ hacc))
         have hn := hn5.below hb6 (Nat.le_refl _)
         have hd := hd5.below hb6 (Nat.le_refl _)
         obtain ⟨a5, c5, rfl⟩ := Nt.In.slice hn
         obtain ⟨a6, c6, rfl⟩ := Nt.In.slice hd
         obtain ⟨a7, c7, rfl⟩ := Nt.In.slice hn6
         obtain ⟨a8, c8, rfl⟩ := Nt.In.slice hd6
         have hacc := Rt.belowT hacc hb6
         have hkeep := HK.out _ hacc
         obtain ⟨X1, X2, X3, X4, X5, X6, ⟨f0, z0, s0⟩, ⟨f1, z1, s1'⟩, ⟨f2, z2, s2'⟩, ⟨f3, z3, s3'⟩, ⟨f4, z4, s4'⟩, ⟨f5, z5, s5'⟩, ⟨r0, r1, r2', r3, r4, r5⟩, HX⟩ := Rt.put6 (HR.out _ hacc) (.bool s) (.slice a5 (Nt.dig t).length c5) (.slice a6 (Nt.dig b).length c6) (.bool s2) (.slice a7 (Nt.dig t2).length c7) (.slice a8 (Nt.dig b2).length c8)
         have HOUT : Hid (Rt.Q X6 (.agg #[.bool s, .slice a5 (Nt.dig t).length c5, .slice a6 (Nt.dig b).length c6, .bool s2, .slice a7 (Nt.dig t2).length c7, .slice a8 (Nt.dig b2).length c8]) s t b s2 t2 b2 ∧ Below w.heap.size w X6) := Lib.hid ⟨⟨_, _, _, _, rfl, Nt.In.othr hn (HR.out _ hacc) Rt.noWords6 HX.out.2.2.1 HX.out.2.1, Nt.In.othr hd (HR.out _ hacc) Rt.noWords6 HX.out.2.2.1 HX.out.2.1, Nt.In.othr hn6 (HR.out _ hacc) Rt.noWords6 HX.out.2.2.1 HX.out.2.1, Nt.In.othr hd6 (HR.out _ hacc) Rt.noWords6 HX.out.2.2.1 HX.out.2.1⟩, HX.out.2.2.2 _ _ (HB.out _ hacc) (by omega)⟩
         have hkeepX := HKX.out _ X6 hacc HX.out.2.2.1))
  all_goals
    clear hkeep hkeepX hacc hb5 hb6 hn5 hd5 hn6 hd6 hn hd HX
    generalize (Nt.dig t).length = l5 at *
    generalize (Nt.dig b).length = l6 at *
    generalize (Nt.dig t2).length = l7 at *
    generalize (Nt.dig b2).length = l8 at *
    go_wp2_with fail
    refine bodyPost_ret (v := .agg #[.bool s, .slice a5 l5 c5, .slice a6 l6 c6, .bool s2, .slice a7 l7 c7, .slice a8 l8 c8]) (by simp [results, Tryz.results171, go_sem, r0, r1, r2', r3, r4, r5]) rfl ⟨_, rfl, HOUT.out.1, ⟨_, _, _, _, _, _, rfl, hf5.out.1, hf5.out.2, hf6.out.1, hf6.out.2⟩, HOUT.out.2⟩
end Go.Proofs.YtikmebkfdpbidaaGreatDoor
namespace Go.Proofs.YtikmebkfdpbidaaGreatDoor
open Go.RowKit
set_option linter.unusedVariables false
set_option linter.unusedSimpArgs false

theorem Rt.FrN.mono {B B' : Nat} {v : Value} (h : Rt.FrN B v) (hB : B' ≤ B) : Rt.FrN B' v := by
  obtain ⟨s, tv, bv, s2, tv2, bv2, e, h1, h2, h3, h4⟩ := h
  exact ⟨s, tv, bv, s2, tv2, bv2, e, h1.mono hB, h2.mono hB, h3.mono hB, h4.mono hB⟩
set_option maxHeartbeats 8000000 in
set_option maxRecDepth 1000000 in
theorem Rt.fit_ok (s : Bool) (t b : Nat) (s2 : Bool) (t2 b2 : Nat) (v v2 : Value) (w : World) (h : Rt.R w v s t b) (h2 : Rt.R w v2 s2 t2 b2) (hl : (Nt.dig t).length ≤ 512 ∧ (Nt.dig b).length ≤ 512 ∧ (Nt.dig t2).length ≤ 512 ∧ (Nt.dig b2).length ≤ 512) :
    Calls Tryz.prog 125 #[v, v2] w fun e w' => ∃ v', e = .returned (.tuple #[v', .int .i64 0]) ∧ Rt.Q w' v' s t b s2 t2 b2 ∧ Rt.FrN w.heap.size v' ∧ Below w.heap.size w w' := by
  have KO := fun v w h => Rt.own_any s t b s2 t2 b2 v w h ⟨by omega, by omega, by omega, by omega⟩
  obtain ⟨tv1, bv1, rfl, hn1, hd1⟩ := h
  obtain ⟨tv2, bv2, rfl, hn2, hd2⟩ := h2
  obtain ⟨a1, c1, rfl⟩ := Nt.In.slice hn1
  obtain ⟨a2, c2, rfl⟩ := Nt.In.slice hd1
  obtain ⟨a3, c3, rfl⟩ := Nt.In.slice hn2
  obtain ⟨a4, c4, rfl⟩ := Nt.In.slice hd2
  obtain ⟨g1, g2, g3, g4⟩ := hl
  have HI := Lib.hid (fun (w' : World) (hb : Below w.heap.size w w') => (show Rt.Q w' (.agg #[.bool s, .slice a1 (Nt.dig t).length c1, .slice a2 (Nt.dig b).length c2, .bool s2, .slice a3 (Nt.dig t2).length c3, .slice a4 (Nt.dig b2).length c4]) s t b s2 t2 b2 from ⟨_, _, _, _, rfl, Nt.N.below hn1 hb (Nat.le_refl _), Nt.N.below hd1 hb (Nat.le_refl _), Nt.N.below hn2 hb (Nat.le_refl _), Nt.N.below hd2 hb (Nat.le_refl _)⟩))
  clear hn1 hd1 hn2 hd2
  generalize (Nt.dig t).length = l1 at *
  generalize (Nt.dig b).length = l2 at *
  generalize (Nt.dig t2).length = l3 at *
  generalize (Nt.dig b2).length = l4 at *
  have i1 : (l1 : Int) ≤ 512 := by omega
  have i2 : (l2 : Int) ≤ 512 := by omega
  have i3 : (l3 : Int) ≤ 512 := by omega
  have i4 : (l4 : Int) ≤ 512 := by omega
  obtain ⟨W2, hW2, q0, q1, q2, hsz, hb0⟩ := Rt.three w (.cells #[.bool s, .slice a1 l1 c1, .slice a2 l2 c2] 24) (.cells #[.bool s2, .slice a3 l3 c3, .slice a4 l4 c4] 24) (.cells #[.bool false, .slice none 0 0, .slice none 0 0, .bool false, .slice none 0 0, .slice none 0 0] 26)
  obtain ⟨W3, hW3⟩ : ∃ z, W2.alloc (.cells #[.slice a1 l1 c1, .slice a2 l2 c2, .slice a3 l3 c3, .slice a4 l4 c4] 22) = z := ⟨_, rfl⟩
  have hb3 : Below w.heap.size w W3 := by rw [← hW3]; exact hb0.alloc hb0.size _
  have r0 := Rt.cells3 (show W3.heap[w.heap.size]? = some _ by rw [← hW3]; exact (Lib.alloc_old _ _ _ (by omega)).trans q0)
  have r1 := Rt.cells3 (show W3.heap[w.heap.size + 1]? = some _ by rw [← hW3]; exact (Lib.alloc_old _ _ _ (by omega)).trans q1)
  have r2 : W3.heap[w.heap.size + 2]? = some (.cells #[.bool false, .slice none 0 0, .slice none 0 0, .bool false, .slice none 0 0, .slice none 0 0] 26 (0, 0)) := by rw [← hW3]; exact (Lib.alloc_old _ _ _ (by omega)).trans q2
  have r3 : W3.heap[W2.heap.size]? = some (.cells #[.slice a1 l1 c1, .slice a2 l2 c2, .slice a3 l3 c3, .slice a4 l4 c4] 22 (0, 0)) := by rw [← hW3]; exact heap_alloc_new W2 _
  obtain ⟨k0, k1, k2⟩ := Rt.cells3 q0
  obtain ⟨m0, m1, m2⟩ := Rt.cells3 q1
  have HR2 := Lib.hid r2
  have HB3 := Lib.hid hb3
  have HR0 := Lib.hid r0
  have HR1 := Lib.hid r1
  have e0 : W3.cell? ⟨W2.heap.size, 0, none⟩ = some (.slice a1 l1 c1) := Rt.cell_of r3 0
  have e1 : W3.cell? ⟨W2.heap.size, 1, none⟩ = some (.slice a2 l2 c2) := Rt.cell_of r3 1
  have e2 : W3.cell? ⟨W2.heap.size, 2, none⟩ = some (.slice a3 l3 c3) := Rt.cell_of r3 2
  have e3 : W3.cell? ⟨W2.heap.size, 3, none⟩ = some (.slice a4 l4 c4) := Rt.cell_of r3 3
  clear q0 q1 q2 hb0 hb3 r0 r1 r2 r3 g1 g2 g3 g4 hsz
  go_enter Tryz.func125, Tryz.ntmps125
  go_wp2_with fail
  go_loopw [18] (fun i wr => wr = W3 ∧ ∃ k : Nat, i = .int .i64 k ∧ k ≤ 4) (fun i _ => 4 - (intOf i).toNat)
  case atStart => exact ⟨rfl, 0, rfl, by decide⟩
  case round =>
    obtain ⟨hwr, k, rfl, hk⟩ := hrel
    subst hwr
    rcases (show k = 0 ∨ k = 1 ∨ k = 2 ∨ k = 3 ∨ k = 4 by omega) with rfl | rfl | rfl | rfl | rfl
    case inr.inr.inr.inr =>
      obtain ⟨k0, k1, k2⟩ := HR0.out
      obtain ⟨m0, m1, m2⟩ := HR1.out
      go_wp2_with fail
      refine (KO _ _ (HI.out _ HB3.out)).mono ?_
      rintro x w4 ⟨v4, rfl, hq4, hf4, hb4⟩
      have hr4 : w4.heap[w.heap.size + 1 + 1]? = some (.cells #[.bool false, .slice none 0 0, .slice none 0 0, .bool false, .slice none 0 0, .slice none 0 0] 26 (0, 0)) := (hb4.block (w.heap.size + 1 + 1) ((Array.getElem?_eq_some_iff.1 HR2.out).1)).trans HR2.out
      have hbw4 : Below w.heap.size w w4 := HB3.out.trans (hb4.mono HB3.out.size)
      have HF4 := Lib.hid (hf4.mono HB3.out.size)
      obtain ⟨tvx, bvx, tvy, bvy, rfl, hn5, hd5, hn6, hd6⟩ := hq4
      obtain ⟨a5, c5, rfl⟩ := Nt.In.slice hn5
      obtain ⟨a6, c6, rfl⟩ := Nt.In.slice hd5
      obtain ⟨a7, c7, rfl⟩ := Nt.In.slice hn6
      obtain ⟨a8, c8, rfl⟩ := Nt.In.slice hd6
      obtain ⟨X1, X2, X3, X4, X5, X6, ⟨f0, z0, s0⟩, ⟨f1, z1, s1'⟩, ⟨f2, z2, s2'⟩, ⟨f3, z3, s3'⟩, ⟨f4, z4, s4'⟩, ⟨f5, z5, s5'⟩, ⟨r0, r1, r2', r3, r4, r5⟩, HX⟩ := Rt.put6 hr4 (.bool s) (.slice a5 (Nt.dig t).length c5) (.slice a6 (Nt.dig b).length c6) (.bool s2) (.slice a7 (Nt.dig t2).length c7) (.slice a8 (Nt.dig b2).length c8)
      have HOUT : Hid (Rt.Q X6 (.agg #[.bool s, .slice a5 (Nt.dig t).length c5, .slice a6 (Nt.dig b).length c6, .bool s2, .slice a7 (Nt.dig t2).length c7, .slice a8 (Nt.dig b2).length c8]) s t b s2 t2 b2 ∧ Below w.heap.size w X6) := Lib.hid ⟨⟨_, _, _, _, rfl, Nt.In.othr hn5 hr4 Rt.noWords6 HX.out.2.2.1 HX.out.2.1, Nt.In.othr hd5 hr4 Rt.noWords6 HX.out.2.2.1 HX.out.2.1, Nt.In.othr hn6 hr4 Rt.noWords6 HX.out.2.2.1 HX.out.2.1, Nt.In.othr hd6 hr4 Rt.noWords6 HX.out.2.2.1 HX.out.2.1⟩, HX.out.2.2.2 _ _ hbw4 (by omega)⟩
      clear hf4 hb4 hbw4 hr4 hn5 hd5 hn6 hd6 HX
      generalize (Nt.dig t).length = l5 at *
      generalize (Nt.dig b).length = l6 at *
      generalize (Nt.dig t2).length = l7 at *
      generalize (Nt.dig b2).length = l8 at *
      go_wp2_with fail
      refine bodyPost_ret (v := .tuple #[.agg #[.bool s, .slice a5 l5 c5, .slice a6 l6 c6, .bool s2, .slice a7 l7 c7, .slice a8 l8 c8], .int .i64 0]) (by simp [results, Tryz.results125, go_sem, r0, r1, r2', r3, r4, r5]) rfl ⟨_, rfl, HOUT.out.1, HF4.out, HOUT.out.2⟩
    all_goals
      go_wp2_with fail
      go_roundw
      case rel => exact ⟨by first | rfl | trivial, _, by first | rfl | go_num, by decide⟩
      case measure => simp [intOf]
end Go.Proofs.YtikmebkfdpbidaaGreatDoor
namespace Go.Proofs.YtikmebkfdpbidaaGreatDoor
open Go.RowKit
set_option linter.unusedVariables false
set_option linter.unusedSimpArgs false

/-- A number as it may come. -/
structure Rt.GN (w : World) (v : Value) (s : Bool) (t b : List Nat) (s2 : Bool) (t2 b2 : List Nat) : Prop where
  form : ∃ v3 v4 v6 v7, v = .agg #[.bool s, v3, v4, .bool s2, v6, v7] ∧ Nt.In w v3 t ∧ Nt.In w v4 b ∧ Nt.In w v6 t2 ∧ Nt.In w v7 b2
  ok1 : Rt.GOk t b
  ok2 : Rt.GOk t2 b2
theorem Rt.GN.below {w w' : World} {v : Value} {s s2 : Bool} {t b t2 b2 : List Nat} {B : Nat} (h : Rt.GN w v s t b s2 t2 b2) (hb : Below B w w') (hB : w.heap.size ≤ B) : Rt.GN w' v s t b s2 t2 b2 := by
  obtain ⟨⟨v3, v4, v6, v7, e, h1, h2, h3, h4⟩, o1, o2⟩ := h
  exact ⟨⟨v3, v4, v6, v7, e, h1.below hb hB, h2.below hb hB, h3.below hb hB, h4.below hb hB⟩, o1, o2⟩
def Rt.soundN (s : Bool) (t b : List Nat) (s2 : Bool) (t2 b2 : List Nat) : Bool := Rt.sound s t b && Rt.sound s2 t2 b2
set_option maxHeartbeats 4000000 in
set_option maxRecDepth 1000000 in
theorem Rt.Sound_any (s : Bool) (t b : List Nat) (s2 : Bool) (t2 b2 : List Nat) (v : Value) (w : World) (h : Rt.GN w v s t b s2 t2 b2) : Calls Tryz.prog 118 #[v] w fun e w' => e = .returned (.bool (Rt.soundN s t b s2 t2 b2)) ∧ Below w.heap.size w w' := by
  obtain ⟨⟨v3, v4, v6, v7, rfl, h1, h2, h3, h4⟩, o1, o2⟩ := h
  have K1 := fun w h => Rt.ratSound_any s t b (.agg #[.bool s, v3, v4]) w h o1
  have K2 := fun w h => Rt.ratSound_any s2 t2 b2 (.agg #[.bool s2, v6, v7]) w h o2
  obtain ⟨a1, c1, rfl⟩ := h1.slice
  obtain ⟨a2, c2, rfl⟩ := h2.slice
  obtain ⟨a3, c3, rfl⟩ := h3.slice
  obtain ⟨a4, c4, rfl⟩ := h4.slice
  obtain ⟨W, hW⟩ : ∃ W, w.alloc (.cells #[.bool s, .slice a1 t.length c1, .slice a2 b.length c2, .bool s2, .slice a3 t2.length c3, .slice a4 b2.length c4] 26) = W := ⟨_, rfl⟩
  have q0 : W.heap[w.heap.size]? = some (.cells #[.bool s, .slice a1 t.length c1, .slice a2 b.length c2, .bool s2, .slice a3 t2.length c3, .slice a4 b2.length c4] 26 (0, 0)) := by rw [← hW]; exact heap_alloc_new w _
  have hb0 : Below w.heap.size w W := by rw [← hW]; exact (Below.refl _ _).alloc (Nat.le_refl _) _
  have HI := Lib.hid (fun (w' : World) (hb : Below W.heap.size W w') => And.intro (show Rt.G w' (.agg #[.bool s, .slice a1 t.length c1, .slice a2 b.length c2]) s t b from ⟨_, _, rfl, (h1.below hb0 (Nat.le_refl _)).below hb (Nat.le_refl _), (h2.below hb0 (Nat.le_refl _)).below hb (Nat.le_refl _)⟩) (show Rt.G w' (.agg #[.bool s2, .slice a3 t2.length c3, .slice a4 b2.length c4]) s2 t2 b2 from ⟨_, _, rfl, (h3.below hb0 (Nat.le_refl _)).below hb (Nat.le_refl _), (h4.below hb0 (Nat.le_refl _)).below hb (Nat.le_refl _)⟩))
  have hzw : w.heap.size < W.heap.size := (Array.getElem?_eq_some_iff.1 q0).1
  have HK := Lib.hid (fun (w' : World) (hb : Below W.heap.size W w') => Rt.cells6 ((hb.block w.heap.size hzw).trans q0))
  have HB := Lib.hid (fun (w' : World) (hb : Below W.heap.size W w') => hb0.trans (hb.mono (by omega : w.heap.size ≤ W.heap.size)))
  obtain ⟨d0, d1, d2, d3, d4, d5⟩ := HK.out _ (Below.refl _ _)
  clear h1 h2 h3 h4 o1 o2 q0 hb0 hzw
  unfold Rt.soundN
  generalize Rt.sound s t b = S1 at *
  generalize Rt.sound s2 t2 b2 = S2 at *
  generalize t.length = l1 at *
  generalize b.length = l2 at *
  generalize t2.length = l3 at *
  generalize b2.length = l4 at *
  rcases S1 with _ | _
  · go_enter Tryz.func118, Tryz.ntmps118
    go_wp2_with fail
    refine (K1 _ (HI.out _ (Below.refl _ _)).1).mono ?_
    rintro x w1 ⟨rfl, hb1⟩
    have HB1 := Lib.hid (HB.out _ hb1)
    clear hb1 hW
    go_wp2_with fail
    go_ret
    exact ⟨by simp, HB1.out⟩
  · go_enter Tryz.func118, Tryz.ntmps118
    go_wp2_with fail
    refine (K1 _ (HI.out _ (Below.refl _ _)).1).mono ?_
    rintro x w1 ⟨rfl, hb1⟩
    have HBB := Lib.hid hb1
    clear d0 d1 d2 d3 d4 d5
    obtain ⟨d0, d1, d2, d3, d4, d5⟩ := HK.out _ hb1
    clear hb1 hW
    go_wp2_with fail
    refine (K2 _ (HI.out _ HBB.out).2).mono ?_
    rintro x w2 ⟨rfl, hb2⟩
    have HB2 := Lib.hid (HB.out _ (HBB.out.trans (hb2.mono HBB.out.size)))
    clear hb2
    go_wp2_with fail
    go_ret
    exact ⟨by simp, HB2.out⟩
end Go.Proofs.YtikmebkfdpbidaaGreatDoor
namespace Go.Proofs.YtikmebkfdpbidaaGreatDoor
open Go.RowKit
set_option linter.unusedVariables false
set_option linter.unusedSimpArgs false

theorem Rt.cells12 {w : World} {b : Nat} {v0 v1 v2 v3 v4 v5 u0 u1 u2 u3 u4 u5 : Value} {t : TypeId} (h : w.heap[b]? = some (.cells #[v0, v1, v2, v3, v4, v5, u0, u1, u2, u3, u4, u5] t (0, 0))) :
    (w.cell? ⟨b, 0, none⟩ = some v0 ∧ w.cell? ⟨b, 1, none⟩ = some v1 ∧ w.cell? ⟨b, 2, none⟩ = some v2 ∧ w.cell? ⟨b, 3, none⟩ = some v3 ∧ w.cell? ⟨b, 4, none⟩ = some v4 ∧ w.cell? ⟨b, 5, none⟩ = some v5) ∧ (w.cell? ⟨b, 6, none⟩ = some u0 ∧ w.cell? ⟨b, 7, none⟩ = some u1 ∧ w.cell? ⟨b, 8, none⟩ = some u2 ∧ w.cell? ⟨b, 9, none⟩ = some u3 ∧ w.cell? ⟨b, 10, none⟩ = some u4 ∧ w.cell? ⟨b, 11, none⟩ = some u5) :=
  ⟨⟨Rt.cell_of h 0, Rt.cell_of h 1, Rt.cell_of h 2, Rt.cell_of h 3, Rt.cell_of h 4, Rt.cell_of h 5⟩, ⟨Rt.cell_of h 6, Rt.cell_of h 7, Rt.cell_of h 8, Rt.cell_of h 9, Rt.cell_of h 10, Rt.cell_of h 11⟩⟩
/-- Sound, whatever world the number is met in behind w. -/
def Rt.SoundAt (w : World) (v : Value) : Prop := ∀ w', Below w.heap.size w w' → Calls Tryz.prog 118 #[v] w' fun e w'' => e = .returned (.bool true) ∧ Below w'.heap.size w' w''
theorem Rt.SoundAt.of {w : World} {v : Value} {s s2 : Bool} {t b t2 b2 : List Nat} (h : Rt.GN w v s t b s2 t2 b2) (hs : Rt.soundN s t b s2 t2 b2 = true) : Rt.SoundAt w v := fun w' hb => by
  have := Rt.Sound_any s t b s2 t2 b2 v w' (h.below hb (Nat.le_refl _))
  rwa [hs] at this
set_option maxHeartbeats 8000000 in
set_option maxRecDepth 1000000 in
theorem Rt.check2 (s1 s2 s3 s4 : Bool) (a1 a2 a3 a4 a5 a6 a7 a8 : Option Addr) (l1 l2 l3 l4 l5 l6 l7 l8 c1 c2 c3 c4 c5 c6 c7 c8 B : Nat) (w : World) (h : w.heap[B]? = some (.cells #[.bool s1, .slice a1 l1 c1, .slice a2 l2 c2, .bool s2, .slice a3 l3 c3, .slice a4 l4 c4, .bool s3, .slice a5 l5 c5, .slice a6 l6 c6, .bool s4, .slice a7 l7 c7, .slice a8 l8 c8] 26 (0, 0)))
    (K1 : Rt.SoundAt w (.agg #[.bool s1, .slice a1 l1 c1, .slice a2 l2 c2, .bool s2, .slice a3 l3 c3, .slice a4 l4 c4])) (K2 : Rt.SoundAt w (.agg #[.bool s3, .slice a5 l5 c5, .slice a6 l6 c6, .bool s4, .slice a7 l7 c7, .slice a8 l8 c8])) :
    Calls Tryz.prog 119 #[.bool false, .slice (some ⟨B, 0, none⟩) 2 2] w fun e w' => e = .returned (.int .i64 0) ∧ Below w.heap.size w w' := by
  have hlt := (Array.getElem?_eq_some_iff.1 h).1
  have HC := Lib.hid (fun (w' : World) (hb : Below w.heap.size w w') => Rt.cells12 ((hb.block B hlt).trans h))
  have HK1 := Lib.hid K1
  have HK2 := Lib.hid K2
  clear h K1 K2
  go_enter Tryz.func119, Tryz.ntmps119
  go_wp2_with fail
  go_loopw [11] (fun i wr => Below w.heap.size w wr ∧ ∃ k : Nat, i = .int .i64 k ∧ k ≤ 2) (fun i _ => 2 - (intOf i).toNat)
  case atStart => exact ⟨Below.refl _ _, 0, rfl, by decide⟩
  case round =>
    obtain ⟨hbw, k, rfl, hk⟩ := hrel
    obtain ⟨wo, hwo⟩ : ∃ z, z = wr := ⟨_, rfl⟩
    subst hwo
    have HBW := Lib.hid hbw
    have HA : Hid (∀ o, Below w.heap.size w (wo.alloc o)) := Lib.hid (fun o => hbw.alloc hbw.size o)
    obtain ⟨⟨d0, d1, d2, d3, d4, d5⟩, d6, d7, d8, d9, d10, d11⟩ := HC.out _ hbw
    clear hbw
    rcases (show k = 0 ∨ k = 1 ∨ k = 2 by omega) with rfl | rfl | rfl
    · go_wp2_with fail
      refine (HK1.out _ (HA.out _)).mono ?_
      rintro x w1 ⟨rfl, hb1⟩
      have HB1 := Lib.hid ((HA.out _).trans (hb1.mono (HA.out _).size))
      clear hb1
      go_wp2_with fail
      go_roundw
      case rel => exact ⟨HB1.out, _, by first | rfl | go_num, by decide⟩
      case measure => simp [intOf]
    · go_wp2_with fail
      refine (HK2.out _ (HA.out _)).mono ?_
      rintro x w1 ⟨rfl, hb1⟩
      have HB1 := Lib.hid ((HA.out _).trans (hb1.mono (HA.out _).size))
      clear hb1
      go_wp2_with fail
      go_roundw
      case rel => exact ⟨HB1.out, _, by first | rfl | go_num, by decide⟩
      case measure => simp [intOf]
    · clear HA
      go_wp2_with fail
      go_loopw [21] (fun i wr => Below w.heap.size w wr ∧ ∃ k : Nat, i = .int .i64 k ∧ k ≤ 2) (fun i _ => 2 - (intOf i).toNat)
      case atStart => exact ⟨HBW.out, 0, rfl, by decide⟩
      case round =>
        obtain ⟨hbw, k, rfl, hk⟩ := hrel
        obtain ⟨wi, hwi⟩ : ∃ z, z = wr := ⟨_, rfl⟩
        subst hwi
        have HBW := Lib.hid hbw
        have HA : Hid (∀ o, Below w.heap.size w (wi.alloc o)) := Lib.hid (fun o => hbw.alloc hbw.size o)
        clear d0 d1 d2 d3 d4 d5 d6 d7 d8 d9 d10 d11
        obtain ⟨⟨d0, d1, d2, d3, d4, d5⟩, d6, d7, d8, d9, d10, d11⟩ := HC.out _ hbw
        clear hbw
        rcases (show k = 0 ∨ k = 1 ∨ k = 2 by omega) with rfl | rfl | rfl
        · go_wp2_with fail
          go_roundw
          case rel => exact ⟨HA.out _, _, by first | rfl | go_num, by decide⟩
          case measure => simp [intOf]
        · go_wp2_with fail
          go_roundw
          case rel => exact ⟨HA.out _, _, by first | rfl | go_num, by decide⟩
          case measure => simp [intOf]
        · go_wp2_with fail
          go_ret
          exact ⟨rfl, HBW.out⟩
end Go.Proofs.YtikmebkfdpbidaaGreatDoor
