/-
  The reference's comparison of numbers, at equal numbers.
  The reference's Alike at equal numbers.
  What stands ahead of a key, and the row of both.
  What the methods of a strings.Builder do that the call itself has made: copyCheck, WriteString, WriteRune (String: the shelf's own). Conditions: the builder is one of the call's own, its length stays within 2^47 bytes.
  The characters' plain functions: what package chars computes for one character, said as Lean functions on Int, with no program in sight. No conditions.
-/
import Derived.Test.YtikmebkfdpbidaaGreatDoorProg
import Derived.WalkKit
import Derived.WalkSpells
import Derived.WalkLawsBesides
import Derived.Handy
import Derived.BigCall
import Derived.BigQuiet
import Derived.Lib.Hide
import Derived.WalkSmall
import Derived.ArgAppend
import Derived.Test.YtikmebkfdpbidaaGreatDoorShelf
import Derived.Test.YtikmebkfdpbidaaGreatDoorTc
import Derived.Test.YtikmebkfdpbidaaGreatDoorTf
namespace Go.Proofs.YtikmebkfdpbidaaGreatDoor
open Go.RowKit
set_option linter.unusedVariables false
set_option linter.unusedSimpArgs false

set_option maxHeartbeats 1000000 in
set_option maxRecDepth 100000 in
theorem Sm.nat (ws : List Nat) (v v2 : Value) (w : World) (hs : ws.length ≤ 4611686018427387904) (h : Nt.In w v ws) (h2 : Nt.In w v2 ws) :
    Calls Tryz.prog 147 #[v, v2] w fun e w' => e = .returned (.bool true) ∧ Below w.heap.size w w' := by
  obtain ⟨ad, cap, rfl⟩ := h.slice
  obtain ⟨ad2, cap2, rfl⟩ := h2.slice
  have H := Lib.hid h; clear h
  have H2 := Lib.hid h2; clear h2
  go_enter Tryz.func147, Tryz.ntmps147
  go_wp2
  go_loopw [5] (fun i wr => ∃ k : Nat, i = .int .i64 k ∧ k ≤ ws.length ∧ Below w.heap.size w wr) (fun i _ => ws.length - (intOf i).toNat)
  case atStart => exact ⟨0, rfl, Nat.zero_le _, Below.refl _ _⟩
  case round =>
    obtain ⟨k, rfl, hk, hb⟩ := hrel
    by_cases hlt : k < ws.length
    · obtain ⟨b, off, had, _, _, hbl, hc⟩ := H.out.at (by omega)
      obtain ⟨b2, off2, had2, _, _, hbl2, hc2⟩ := H2.out.at (by omega)
      subst had
      subst had2
      have c0 := (hb.cell (p := ⟨b, off + k, none⟩) hbl).trans (hc k hlt)
      have c1 := (hb.cell (p := ⟨b2, off2 + k, none⟩) hbl2).trans (hc2 k hlt)
      clear hc hc2
      generalize ws.getD k 0 = x at *
      have HB := Lib.hid hb; clear hb
      go_wp2
      go_quiet (fail)
      have HB2 := Lib.hid (below_drewN HB.out nq)
      go_wp2
      go_roundw
      case rel => exact ⟨k + 1, by first | rfl | go_num | (simp; try omega), by omega, HB2.out⟩
      case measure => simp [intOf]; omega
    · have HB := Lib.hid hb; clear hb
      go_wp2
      go_ret
      exact ⟨rfl, HB.out⟩
set_option maxHeartbeats 1000000 in
set_option maxRecDepth 100000 in
theorem Sm.rat (s : Bool) (ts bs : List Nat) (v3 v4 u3 u4 : Value) (w : World) (h1 : ts.length ≤ 4611686018427387904) (h2 : bs.length ≤ 4611686018427387904) (i3 : Nt.In w v3 ts) (i4 : Nt.In w v4 bs) (j3 : Nt.In w u3 ts) (j4 : Nt.In w u4 bs) :
    Calls Tryz.prog 96 #[.agg #[.bool s, v3, v4], .agg #[.bool s, u3, u4]] w fun e w' => e = .returned (.bool true) ∧ Below w.heap.size w w' := by
  obtain ⟨a3, c3, rfl⟩ := i3.slice
  obtain ⟨a4, c4, rfl⟩ := i4.slice
  obtain ⟨b3, d3, rfl⟩ := j3.slice
  obtain ⟨b4, d4, rfl⟩ := j4.slice
  have hA : ∀ o1 o2, Below w.heap.size w ((w.alloc o1).alloc o2) := fun o1 o2 => ((Below.refl _ _).alloc (Nat.le_refl _) _).alloc (by simp) _
  have hN : ∀ o1 o2, ((w.alloc o1).alloc o2).heap[w.heap.size]? = some o1 ∧ ((w.alloc o1).alloc o2).heap[w.heap.size + 1]? = some o2 ∧ ((w.alloc o1).alloc o2).heap.size = w.heap.size + 2 := fun o1 o2 => by
    refine ⟨(Lib.alloc_old _ _ _ (by simp)).trans (heap_alloc_new w o1), ?_, by simp⟩
    have := heap_alloc_new (w.alloc o1) o2
    rwa [show (w.alloc o1).heap.size = w.heap.size + 1 by simp] at this
  have K1 := fun w' (hb : Below w.heap.size w w') => Sm.nat ts _ _ w' h1 (i3.below hb (Nat.le_refl _)) (j3.below hb (Nat.le_refl _))
  have K2 := fun w' (hb : Below w.heap.size w w') => Sm.nat bs _ _ w' h2 (i4.below hb (Nat.le_refl _)) (j4.below hb (Nat.le_refl _))
  have HK1 := Lib.hid K1
  have HK2 := Lib.hid K2
  have HA := Lib.hid hA
  have HN := Lib.hid hN
  clear K1 K2 hA hN i3 i4 j3 j4
  go_enter Tryz.func96, Tryz.ntmps96
  go_wp2_with fail
  refine (HK1.out _ (HA.out _ _)).mono ?_
  rintro x w1 ⟨rfl, hb1⟩
  obtain ⟨n0, n1, n2⟩ := HN.out (.cells #[.bool s, .slice a3 ts.length c3, .slice a4 bs.length c4] 24) (.cells #[.bool s, .slice b3 ts.length d3, .slice b4 bs.length d4] 24)
  have q0 := (hb1.block w.heap.size (by omega)).trans n0
  have q1 := (hb1.block (w.heap.size + 1) (by omega)).trans n1
  have hbw1 := (HA.out _ _).trans (hb1.mono (HA.out _ _).size)
  have e0 : w1.cell? ⟨w.heap.size, 2, none⟩ = some (.slice a4 bs.length c4) := by simp [World.cell?, q0]
  have e1 : w1.cell? ⟨w.heap.size + 1, 2, none⟩ = some (.slice b4 bs.length d4) := by simp [World.cell?, q1]
  have HB1 := Lib.hid hbw1
  clear hb1 n0 n1 n2 q0 q1 hbw1
  go_wp2_with fail
  refine (HK2.out _ HB1.out).mono ?_
  rintro x w2 ⟨rfl, hb2⟩
  have HB2 := Lib.hid (HB1.out.trans (hb2.mono HB1.out.size))
  clear hb2 e0 e1
  go_wp2_with fail
  go_ret
  exact ⟨rfl, HB2.out⟩
end Go.Proofs.YtikmebkfdpbidaaGreatDoor
namespace Go.Proofs.YtikmebkfdpbidaaGreatDoor
open Go.RowKit
set_option linter.unusedVariables false
set_option linter.unusedSimpArgs false

theorem Sm.two (w : World) (o1 o2 : Obj) : ((w.alloc o1).alloc o2).heap[w.heap.size]? = some o1 ∧ ((w.alloc o1).alloc o2).heap[w.heap.size + 1]? = some o2 ∧ ((w.alloc o1).alloc o2).heap.size = w.heap.size + 2 ∧ Below w.heap.size w ((w.alloc o1).alloc o2) := by
  refine ⟨(Lib.alloc_old _ _ _ (by simp)).trans (heap_alloc_new w o1), ?_, by simp, ((Below.refl _ _).alloc (Nat.le_refl _) _).alloc (by simp) _⟩
  have := heap_alloc_new (w.alloc o1) o2
  rwa [show (w.alloc o1).heap.size = w.heap.size + 1 by simp] at this
set_option maxHeartbeats 1000000 in
set_option maxRecDepth 100000 in
theorem Sm.alike (s1 s2 : Bool) (t1 b1 t2 b2 : List Nat) (v3 v4 v6 v7 u3 u4 u6 u7 : Value) (w : World) (h1 : t1.length ≤ 4611686018427387904) (h2 : b1.length ≤ 4611686018427387904) (h3 : t2.length ≤ 4611686018427387904) (h4 : b2.length ≤ 4611686018427387904)
    (i3 : Nt.In w v3 t1) (i4 : Nt.In w v4 b1) (i6 : Nt.In w v6 t2) (i7 : Nt.In w v7 b2) (j3 : Nt.In w u3 t1) (j4 : Nt.In w u4 b1) (j6 : Nt.In w u6 t2) (j7 : Nt.In w u7 b2) :
    Calls Tryz.prog 67 #[.agg #[.bool s1, v3, v4, .bool s2, v6, v7], .agg #[.bool s1, u3, u4, .bool s2, u6, u7]] w fun e w' => e = .returned (.bool true) ∧ Below w.heap.size w w' := by
  obtain ⟨a3, c3, rfl⟩ := i3.slice
  obtain ⟨a4, c4, rfl⟩ := i4.slice
  obtain ⟨a6, c6, rfl⟩ := i6.slice
  obtain ⟨a7, c7, rfl⟩ := i7.slice
  obtain ⟨d3, f3, rfl⟩ := j3.slice
  obtain ⟨d4, f4, rfl⟩ := j4.slice
  obtain ⟨d6, f6, rfl⟩ := j6.slice
  obtain ⟨d7, f7, rfl⟩ := j7.slice
  have HK1 := Lib.hid (fun w' (hb : Below w.heap.size w w') => Sm.rat s1 t1 b1 _ _ _ _ w' h1 h2 (i3.below hb (Nat.le_refl _)) (i4.below hb (Nat.le_refl _)) (j3.below hb (Nat.le_refl _)) (j4.below hb (Nat.le_refl _)))
  have HK2 := Lib.hid (fun w' (hb : Below w.heap.size w w') => Sm.rat s2 t2 b2 _ _ _ _ w' h3 h4 (i6.below hb (Nat.le_refl _)) (i7.below hb (Nat.le_refl _)) (j6.below hb (Nat.le_refl _)) (j7.below hb (Nat.le_refl _)))
  obtain ⟨n0, n1, n2, n3⟩ := Sm.two w (.cells #[.bool s1, .slice a3 t1.length c3, .slice a4 b1.length c4, .bool s2, .slice a6 t2.length c6, .slice a7 b2.length c7] 26) (.cells #[.bool s1, .slice d3 t1.length f3, .slice d4 b1.length f4, .bool s2, .slice d6 t2.length f6, .slice d7 b2.length f7] 26)
  have HN := Lib.hid (And.intro n0 (And.intro n1 (And.intro n2 n3)))
  clear n0 n1 n2 n3 i3 i4 i6 i7 j3 j4 j6 j7
  go_enter Tryz.func67, Tryz.ntmps67
  go_wp2_with fail
  refine (HK1.out _ HN.out.2.2.2).mono ?_
  rintro x w1 ⟨rfl, hb1⟩
  obtain ⟨n0, n1, n2, n3⟩ := HN.out
  have q0 := (hb1.block w.heap.size (by omega)).trans n0
  have q1 := (hb1.block (w.heap.size + 1) (by omega)).trans n1
  have hbw1 := n3.trans (hb1.mono n3.size)
  have e3 : w1.cell? ⟨w.heap.size, 3, none⟩ = some (.bool s2) := by simp [World.cell?, q0]
  have e4 : w1.cell? ⟨w.heap.size, 4, none⟩ = some (.slice a6 t2.length c6) := by simp [World.cell?, q0]
  have e5 : w1.cell? ⟨w.heap.size, 5, none⟩ = some (.slice a7 b2.length c7) := by simp [World.cell?, q0]
  have g3 : w1.cell? ⟨w.heap.size + 1, 3, none⟩ = some (.bool s2) := by simp [World.cell?, q1]
  have g4 : w1.cell? ⟨w.heap.size + 1, 4, none⟩ = some (.slice d6 t2.length f6) := by simp [World.cell?, q1]
  have g5 : w1.cell? ⟨w.heap.size + 1, 5, none⟩ = some (.slice d7 b2.length f7) := by simp [World.cell?, q1]
  have HB1 := Lib.hid hbw1
  clear hb1 n0 n1 n2 n3 q0 q1 hbw1
  go_wp2_with fail
  refine (HK2.out _ HB1.out).mono ?_
  rintro x w2 ⟨rfl, hb2⟩
  have HB2 := Lib.hid (HB1.out.trans (hb2.mono HB1.out.size))
  clear hb2 e3 e4 e5 g3 g4 g5
  go_wp2_with fail
  go_ret
  exact ⟨rfl, HB2.out⟩
end Go.Proofs.YtikmebkfdpbidaaGreatDoor
namespace Go.Proofs.YtikmebkfdpbidaaGreatDoor
open Go.RowKit
set_option linter.unusedVariables false
set_option linter.unusedSimpArgs false

theorem Tb.infoD : (Tryz.prog.info? 30).map (fun i => (i.zero, i.size, i.bytes)) = some (some (.agg #[.int .i64 0, .int .i64 0, .bool false, .slice none 0 0, .slice none 0 0, .bool false, .slice none 0 0, .slice none 0 0, .string ⟨#[]⟩, .slice none 0 0, .slice none 0 0]), 11, 192) := by kernel_rfl
theorem Tb.row_at {w : World} {b : Nat} {C : Array Value} {t : TypeId} (h : w.heap[b]? = some (.cells C t (0, 0))) : ∀ (j : Nat) (u : Value), C.toList[j]? = some u → w.cell? ((⟨b, 0, none⟩ : Addr).add j) = some u := by
  intro j u hu
  have e : (⟨b, 0, none⟩ : Addr).add j = ⟨b, j, none⟩ := by unfold Addr.add; split <;> simp_all
  rw [e, Rt.cell_of h, ← Array.getElem?_toList]
  exact hu
/-- At most one datum, in a slice without room. -/
def Tb.More (w : World) (vm : Value) (more : List Tr) : Prop := ∃ (ao : Option Addr) (m : Nat) (olds : List Value), vm = .slice ao m m ∧ (ao = none → m = 0 ∧ m = 0) ∧ m = more.length ∧ m ≤ 1 ∧ olds.length = m * 11 ∧ (∀ b, ao = some b → ∀ (j : Nat) u, olds[j]? = some u → w.cell? (b.add j) = some u) ∧ (∀ b, ao = some b → b.block < w.heap.size) ∧ ∀ (k : Nat) t, more[k]? = some t → ∃ C, Tr.In w (fun _ => True) t (.agg C) ∧ ∀ j, j < 11 → olds[11 * k + j]? = C[j]?
theorem Tb.More.nil (w : World) : Tb.More w (.slice none 0 0) [] := ⟨none, 0, [], rfl, fun _ => ⟨rfl, rfl⟩, rfl, Nat.zero_le _, rfl, fun b h => (by cases h), fun b h => (by cases h), fun k t h => by simp at h⟩
theorem Tb.More.one {w : World} {b : Nat} {C : Array Value} {t : Tr} {ty : TypeId} (h : w.heap[b]? = some (.cells C ty (0, 0))) (hI : Tr.In w (fun _ => True) t (.agg C)) : Tb.More w (.slice (some ⟨b, 0, none⟩) 1 1) [t] := by
  have hs := hI.size11
  refine ⟨some ⟨b, 0, none⟩, 1, C.toList, rfl, fun h => (by cases h), rfl, Nat.le_refl _, by simp [hs], fun a ha j u hu => ?_, fun a ha => ?_, fun k u hk => ?_⟩
  · cases ha
    have e : (⟨b, 0, none⟩ : Addr).add j = ⟨b, j, none⟩ := by unfold Addr.add; split <;> simp_all
    rw [e, Rt.cell_of h, ← Array.getElem?_toList]
    exact hu
  · cases ha
    exact (Array.getElem?_eq_some_iff.1 h).1
  · match k, hk with
    | 0, hk =>
      simp only [List.getElem?_cons_zero, Option.some.injEq] at hk
      subst hk
      exact ⟨C, hI, fun j hj => by rw [Nat.mul_zero, Nat.zero_add, Array.getElem?_toList]⟩
    | k + 1, hk => simp at hk
theorem Tb.More.below {w w' : World} {vm : Value} {more : List Tr} {B : Nat} (h : Tb.More w vm more) (hb : Below B w w') (hB : w.heap.size ≤ B) : Tb.More w' vm more := by
  obtain ⟨ao, m, olds, h1, h2, h3, h4, h5, h6, h7, h8⟩ := h
  refine ⟨ao, m, olds, h1, h2, h3, h4, h5, fun b hbb j u hu => ?_, fun b hbb => Nat.lt_of_lt_of_le (h7 b hbb) hb.size, fun k t hk => ?_⟩
  · have hlt := h7 b hbb
    have e := h6 b hbb j u hu
    exact (hb.cell (p := b.add j) (by have : (b.add j).block = b.block := by unfold Addr.add; split <;> rfl
                                      rw [this]; omega)).trans e
  · obtain ⟨C, q1, q2⟩ := h8 k t hk
    exact ⟨C, Tr.In.below q1 hb hB, q2⟩
/-- The row of all. -/
theorem Tb.row_lin {w w1 : World} {B : Nat} {v' : Value} {more : List Tr} {key : Tr} {olds : List Value} {CK : Array Value} (hb : Below w.heap.size w w1) (hl : olds.length = more.length * 11) (hm : ∀ (k : Nat) t, more[k]? = some t → ∃ C, Tr.In w (fun _ => True) t (.agg C) ∧ ∀ j, j < 11 → olds[11 * k + j]? = C[j]?) (hk : Tr.In w (fun _ => True) key (.agg CK))
    (ho : w1.ownsRow B 30 11 v' (more.length + 1) (olds ++ CK.toList)) : Tr.LIn w1 (fun _ => True) (more ++ [key]) v' := by
  have hcell := @World.ownsRow.cells w1 B _ 11 v' (more.length + 1) _ ho
  have hlen : (more ++ [key]).length = more.length + 1 := by simp
  rcases ho.2 with ⟨_, h0⟩ | ⟨g, cap, cur, rfl, hbg, hgc, hnc, hcm, hcs, htake⟩
  · omega
  · refine .inr (.inr ⟨by omega, g, 0, cap, by rw [hlen], by omega, by simp only [maxLen] at hcm; omega, (Array.getElem?_eq_some_iff.1 hgc).1, trivial, Tr.All.of _ g 0 (fun k t hkt => ?_)⟩)
    have hall : ∃ C, Tr.In w (fun _ => True) t (.agg C) ∧ ∀ j, j < 11 → (olds ++ CK.toList)[11 * k + j]? = C[j]? := by
      rcases Nat.lt_or_ge k more.length with h1 | h1
      · rw [List.getElem?_append_left h1] at hkt
        obtain ⟨C, q1, q2⟩ := hm k t hkt
        exact ⟨C, q1, fun j hj => by rw [List.getElem?_append_left (by omega)]; exact q2 j hj⟩
      · have hk2 : k = more.length := by
          have := (List.getElem?_eq_some_iff.1 hkt).1
          omega
        subst hk2
        rw [List.getElem?_append_right (Nat.le_refl _), Nat.sub_self] at hkt
        simp only [List.getElem?_cons_zero, Option.some.injEq] at hkt
        subst hkt
        exact ⟨CK, hk, fun j hj => by rw [List.getElem?_append_right (by omega), show 11 * more.length + j - olds.length = j by omega, Array.getElem?_toList]⟩
    obtain ⟨C, hI, hx⟩ := hall
    refine ⟨C, Tr.In.below hI hb (Nat.le_refl _), fun j hj => ?_⟩
    have hs := hI.size11
    have hu : C[j]? = some C[j] := Array.getElem?_eq_getElem (by omega)
    refine ⟨C[j], hu, ?_⟩
    have := hcell (g := g) rfl (11 * k + j) C[j] ((hx j hj).trans hu)
    have hadd : (⟨g, 0, none⟩ : Addr).add (11 * k + j) = ⟨g, 11 * k + j, none⟩ := by unfold Addr.add; split <;> simp_all
    rw [hadd] at this
    rw [Nat.zero_add]
    exact this
/-- The cells of a datum are of one cell each. -/
theorem Tb.one_cells {w : World} {S : Nat → Prop} {t : Tr} {C : Array Value} (h : Tr.In w S t (.agg C)) : ∀ u ∈ C.toList, u.oneCell' = true := by
  obtain ⟨hd, l, a3, a4, a6, a7, a9, a10, n3, n4, n6, n7, n9, n10, c3, c4, c6, c7, c9, c10, rfl, _⟩ := Tr.In.form2 h
  intro u hu
  unfold Tr.cells at hu
  simp only [List.mem_cons, List.not_mem_nil, or_false] at hu
  rcases hu with rfl | rfl | rfl | rfl | rfl | rfl | rfl | rfl | rfl | rfl | rfl <;> rfl
end Go.Proofs.YtikmebkfdpbidaaGreatDoor
namespace Go.Proofs.YtikmebkfdpbidaaGreatDoor
open Go.RowKit

theorem Bl.infoByte : (Tryz.prog.info? 5).map (fun i => (i.zero, i.size, i.bytes)) = some (some (.int .u8 0), 1, 1) := by kernel_rfl
theorem Bl.sizeBuilder : (Tryz.prog.info? 94).map (·.size) = some 2 := by kernel_rfl
theorem Bl.lies : liesAt Tryz.prog Tryz.prog.depth 94 (2 / Tryz.prog.cellsOf 94) 0 94 1 = true := by kernel_rfl

set_option maxHeartbeats 1000000 in
set_option maxRecDepth 100000 in
theorem Bl.copyCheck_used (b : Nat) (w : World) (h0 : w.cell? ⟨b, 0, none⟩ = some (.pointer (some ⟨b, 0, none⟩))) :
    Calls Tryz.prog 81 #[.pointer (some ⟨b, 0, none⟩)] w fun e w' => e = .returned (.tuple #[]) ∧ w' = w := by
  obtain ⟨j, hj, _⟩ := Option.map_eq_some_iff.1 Bl.sizeBuilder
  go_enter Tryz.func81, Tryz.ntmps81
  go_wp2
  rw [Lib.run_neq_ptr_same w _ Tryz.underlying92 hj]
  go_wp2
  go_end0
  exact ⟨rfl, rfl⟩

set_option maxHeartbeats 1000000 in
set_option maxRecDepth 100000 in
theorem Bl.copyCheck_fresh (b : Nat) (w : World) (h0 : w.cell? ⟨b, 0, none⟩ = some (.pointer none)) (hsh : w.shape? b = some (94, 2)) (hfz : w.frozen? ⟨b, 0, none⟩ = false) :
    Calls Tryz.prog 81 #[.pointer (some ⟨b, 0, none⟩)] w fun e w' => e = .returned (.tuple #[]) ∧ w' = w.setCell ⟨b, 0, none⟩ (.pointer (some ⟨b, 0, none⟩)) := by
  obtain ⟨j, hj, hjs⟩ := Option.map_eq_some_iff.1 Bl.sizeBuilder
  go_enter Tryz.func81, Tryz.ntmps81
  go_wp2
  rw [Lib.run_to_unsafe w ⟨b, 0, none⟩ Tryz.underlying92 Tryz.underlying173 hj (by rw [hjs]; decide) hsh (Nat.zero_lt_succ 1)]
  simp only [Result.andThen]
  rw [Oper.upon_value]
  go_wp2
  rw [run_callFunc_extern Tryz.func127 (by kernel_rfl) (by kernel_rfl) (by kernel_rfl) (e := Extern.AbiNoEscape.same) (by kernel_rfl)]
  rw [Lib.run_noEscape]
  simp only [Result.andThen]
  rw [Oper.upon_value]
  go_wp2
  rw [Lib.run_from_unsafe w ⟨b, 0, none⟩ Tryz.underlying173 Tryz.underlying92 hj hsh Bl.lies]
  simp only [Result.andThen]
  rw [Oper.upon_value]
  go_wp2
  go_end0
  exact ⟨rfl, rfl⟩

theorem Bl.copyCheck (B b : Nat) (bs : List Value) (w : World) (h : Lib.IsBuilderF 94 5 B b bs w) :
    Calls Tryz.prog 81 #[.pointer (some ⟨b, 0, none⟩)] w fun e w' => e = .returned (.tuple #[]) ∧ (Lib.BuilderAtF 94 5 B b (.pointer (some ⟨b, 0, none⟩)) bs w' ∧ Below B w w' ∧ Lib.OthersKept 5 (some b) w w') := by
  rcases h with h | h
  · refine (Bl.copyCheck_fresh b w h.cell0 h.shape h.frozen0).mono ?_
    rintro e w' ⟨rfl, rfl⟩
    exact ⟨rfl, h.used _, (Below.refl B w).setCell (p := ⟨b, 0, none⟩) h.1 _, (Lib.OthersKept.refl _ _ w).setCell ⟨b, 0, none⟩ rfl _⟩
  · refine (Bl.copyCheck_used b w h.cell0).mono ?_
    rintro e w' ⟨rfl, rfl⟩
    exact ⟨rfl, h, Below.refl B _, Lib.OthersKept.refl _ _ _⟩

set_option maxHeartbeats 2000000 in
set_option maxRecDepth 100000 in
theorem Bl.writeString (B b : Nat) (bs : List Value) (s : ByteArray) (w : World) (h : Lib.IsBuilderF 94 5 B b bs w) (hlen : bs.length + s.size ≤ 140737488355328) (hBw : B ≤ w.heap.size) :
    Calls Tryz.prog 45 #[.pointer (some ⟨b, 0, none⟩), .string s] w fun e w' => e = .returned (.tuple #[.int .i64 s.size, .nilIface]) ∧ (Lib.BuilderAtF 94 5 B b (.pointer (some ⟨b, 0, none⟩)) (bs ++ Lib.strCells s) w' ∧ Below B w w' ∧ Lib.OthersKept 5 (some b) w w') := by
  obtain ⟨i0, hi, hz0, hz1, hz2⟩ := info_parts Bl.infoByte
  go_enter Tryz.func45, Tryz.ntmps45
  go_wp2_with (go_at_call 81; refine (Bl.copyCheck B b bs _ h).mono ?_)
  rintro e w1 ⟨rfl, h1, hb1, hk1⟩
  obtain ⟨hB, v, hbk, hown, hne⟩ := h1
  have c0 : w1.cell? ⟨b, 0, none⟩ = some (.pointer (some ⟨b, 0, none⟩)) := by rw [Lib.cell_of_heap hbk]; rfl
  have c1 : w1.cell? ⟨b, 1, none⟩ = some v := by rw [Lib.cell_of_heap hbk]; rfl
  go_wp2_with (at_builtin; refine Lib.wpList_append_own_stringF _ rfl _ _ 27 9 rfl B 5 i0 Tryz.underlying27 Tryz.underlying9 hi hz0 hz1 hz2 _ _ _ rfl hown s rfl ?c3 ?c4 ?c5 ?_)
  case c3 => unfold maxLen; omega
  case c4 => omega
  case c5 => have := hb1.size; omega
  intro v' w2 hown' hgrow _
  have hlt : b < w1.heap.size := by
    rcases Nat.lt_or_ge b w1.heap.size with h' | h'
    · exact h'
    · simp [Array.getElem?_eq_none h'] at hbk
  have hb2 : w2.heap[b]? = some (.cells #[.pointer (some ⟨b, 0, none⟩), v] 94 (0, 0)) := by
    rw [hgrow.block b hlt (fun e => hne e.symm)]
    exact hbk
  have d0 : w2.cell? ⟨b, 0, none⟩ = some (.pointer (some ⟨b, 0, none⟩)) := by rw [Lib.cell_of_heap hb2]; rfl
  have d1 : w2.cell? ⟨b, 1, none⟩ = some v := by rw [Lib.cell_of_heap hb2]; rfl
  have f1 : w2.frozen? ⟨b, 1, none⟩ = false := Lib.frozen_of_heap hb2 1
  obtain ⟨ao, n', cap, rfl⟩ : ∃ ao n' cap, v' = .slice ao n' cap := by
    rcases hown'.2 with ⟨hv, _⟩ | ⟨g, cap, cur, fz, hv, _⟩
    · exact ⟨_, _, _, hv⟩
    · exact ⟨_, _, _, hv⟩
  go_wp2
  go_ret2
  refine ⟨rfl, ?_, ?_, (hk1.grown hgrow (Lib.ownsRowF_kind hown)).setCell ⟨b, 1, none⟩ rfl _⟩
  · exact Lib.BuilderAtF.put (T := 94) (e := 5) hB hb2 (bs' := bs ++ Lib.strCells s) (by simpa [Lib.strCells_length] using hown') (by decide)
  · exact (hb1.grown hgrow (by have := hb1.size; omega) (fun k hk => (hown.lt k hk).1)).setCell (p := ⟨b, 1, none⟩) hB _

set_option maxHeartbeats 4000000 in
set_option maxRecDepth 100000 in
theorem Bl.writeRune (B b : Nat) (bs : List Value) (r : Int) (hr0 : -2147483648 ≤ r) (hr1 : r ≤ 2147483647) (w : World) (h : Lib.IsBuilderF 94 5 B b bs w) (hlen : bs.length + 4 ≤ 140737488355328) (hBw : B ≤ w.heap.size) :
    Calls Tryz.prog 46 #[.pointer (some ⟨b, 0, none⟩), .int .i32 r] w fun e w' => e = .returned (.tuple #[.int .i64 (Lib.runeCells r).length, .nilIface]) ∧ (Lib.BuilderAtF 94 5 B b (.pointer (some ⟨b, 0, none⟩)) (bs ++ Lib.runeCells r) w' ∧ Below B w w' ∧ Lib.OthersKept 5 (some b) w w') := by
  have hk4 := Lib.runeCells_le r
  go_enter Tryz.func46, Tryz.ntmps46
  go_wp2_with (go_at_call 81; refine (Bl.copyCheck B b bs _ h).mono ?_)
  rintro e w1 ⟨rfl, h1, hb1, hk1⟩
  obtain ⟨hB, v, hbk, hown, hne⟩ := h1
  obtain ⟨ao, cap, rfl⟩ : ∃ ao cap, v = .slice ao bs.length cap := by
    rcases hown.2 with ⟨hv, h0⟩ | ⟨g, cap, cur, fz, hv, _⟩
    · exact ⟨none, 0, by rw [hv, h0]⟩
    · exact ⟨_, _, hv⟩
  have c0 : w1.cell? ⟨b, 0, none⟩ = some (.pointer (some ⟨b, 0, none⟩)) := by rw [Lib.cell_of_heap hbk]; rfl
  have c1 : w1.cell? ⟨b, 1, none⟩ = some (.slice ao bs.length cap) := by rw [Lib.cell_of_heap hbk]; rfl
  go_wp2_with (go_at_call 82; refine (Tryz.utf8_AppendRune_row B _ bs.length bs r hr0 hr1 _ hown hlen (by have := hb1.size; omega)).mono ?_)
  rintro e w2 ⟨v', rfl, hown', o, hgrow⟩
  have hlt : b < w1.heap.size := by
    rcases Nat.lt_or_ge b w1.heap.size with h' | h'
    · exact h'
    · simp [Array.getElem?_eq_none h'] at hbk
  have hb2 : w2.heap[b]? = some (.cells #[.pointer (some ⟨b, 0, none⟩), .slice ao bs.length cap] 94 (0, 0)) := by
    rw [hgrow.block b (by simp; omega) (fun e => hne e.symm), Lib.alloc_old w1 _ b hlt]
    exact hbk
  have d0 : w2.cell? ⟨b, 0, none⟩ = some (.pointer (some ⟨b, 0, none⟩)) := by rw [Lib.cell_of_heap hb2]; rfl
  have d1 : w2.cell? ⟨b, 1, none⟩ = some (.slice ao bs.length cap) := by rw [Lib.cell_of_heap hb2]; rfl
  have f1 : w2.frozen? ⟨b, 1, none⟩ = false := Lib.frozen_of_heap hb2 1
  obtain ⟨g, cap', rfl⟩ : ∃ g cap', v' = .slice (some ⟨g, 0, none⟩) (bs.length + (Lib.runeCells r).length) cap' := by
    rcases hown'.2 with ⟨_, h0⟩ | ⟨g, cap', cur, fz, hv, _⟩
    · omega
    · exact ⟨g, cap', hv⟩
  go_wp2
  go_ret2
  refine ⟨?_, ?_, ?_, ((hk1.alloc _).grown hgrow (Lib.ownsRowF_kind (hown.alloc _))).setCell ⟨b, 1, none⟩ rfl _⟩
  · have e : ((bs.length : Int) + ((Lib.runeCells r).length : Int) - (bs.length : Int)) = ((Lib.runeCells r).length : Int) := by omega
    simp [e]
  · exact Lib.BuilderAtF.put (T := 94) (e := 5) hB hb2 (bs' := bs ++ Lib.runeCells r) (by simpa using hown') (by decide)
  · exact ((hb1.alloc (by have := hb1.size; omega) _).grown hgrow (by have := hb1.size; simp; omega) (fun k hk => (hown.lt k hk).1)).setCell (p := ⟨b, 1, none⟩) hB _
end Go.Proofs.YtikmebkfdpbidaaGreatDoor
namespace Go.Proofs.YtikmebkfdpbidaaGreatDoor.Ch

def p1 (r : Int) : Prop := (97 ≤ r ∧ r ≤ 122) ∨ (224 ≤ r ∧ r ≤ 254 ∧ r ≠ 247) ∨ (945 ≤ r ∧ r ≤ 969 ∧ r ≠ 962) ∨ (1072 ≤ r ∧ r ≤ 1103)
def p2 (r : Int) : Prop := (65 ≤ r ∧ r ≤ 90) ∨ (192 ≤ r ∧ r ≤ 222 ∧ r ≠ 215) ∨ (913 ≤ r ∧ r ≤ 937 ∧ r ≠ 930) ∨ (1040 ≤ r ∧ r ≤ 1071)
def p3 (r : Int) : Prop := 1104 ≤ r ∧ r ≤ 1119
def p4 (r : Int) : Prop := 1024 ≤ r ∧ r ≤ 1039
def p5 (r : Int) : Prop := (256 ≤ r ∧ r ≤ 311 ∧ r ≠ 304 ∧ r ≠ 305) ∨ (330 ≤ r ∧ r ≤ 375)
def p6 (r : Int) : Prop := (313 ≤ r ∧ r ≤ 328) ∨ (377 ≤ r ∧ r ≤ 382)
instance (r : Int) : Decidable (p1 r) := by unfold p1; infer_instance
instance (r : Int) : Decidable (p2 r) := by unfold p2; infer_instance
instance (r : Int) : Decidable (p3 r) := by unfold p3; infer_instance
instance (r : Int) : Decidable (p4 r) := by unfold p4; infer_instance
instance (r : Int) : Decidable (p5 r) := by unfold p5; infer_instance
instance (r : Int) : Decidable (p6 r) := by unfold p6; infer_instance

/-- The small letter, the capital of the pair that r is in, and whether it is in one. -/
def pairZ (r : Int) : Int × Int × Bool :=
  if p1 r then (r, r - 32, true) else if p2 r then (r + 32, r, true) else if p3 r then (r, r - 80, true) else if p4 r then (r + 80, r, true)
  else if p5 r then (r - r % 2 + 1, r - r % 2, true) else if p6 r then (r - 1 + r % 2 + 1, r - 1 + r % 2, true) else (r, r, false)

def upZ (r : Int) : Int := if r = 962 then 931 else if r = 383 then 83 else if r = 255 then 376 else (pairZ r).2.1
def downZ (r : Int) : Int := if r = 376 then 255 else (pairZ r).1
def oddLetter (r : Int) : Bool := r == 170 || r == 181 || r == 186 || r == 223 || r == 255 || r == 304 || r == 305 || r == 312 || r == 329 || r == 376 || r == 383 || r == 962
def letterB (r : Int) : Bool := if oddLetter r = true then true else (pairZ r).2.2
def digitZ (r : Int) : Int := if 48 ≤ r ∧ r ≤ 57 then r - 48 else if 1632 ≤ r ∧ r ≤ 1641 then r - 1632 else -1
def blankB (r : Int) : Bool := r == 9 || r == 10 || r == 11 || r == 12 || r == 13 || r == 32 || r == 133 || r == 160 || r == 8232 || r == 8233

theorem pairZ_1 {r : Int} (h : p1 r) : pairZ r = (r, r - 32, true) := by simp [pairZ, h]
theorem pairZ_2 {r : Int} (h1 : ¬ p1 r) (h : p2 r) : pairZ r = (r + 32, r, true) := by simp [pairZ, h1, h]
theorem pairZ_3 {r : Int} (h1 : ¬ p1 r) (h2 : ¬ p2 r) (h : p3 r) : pairZ r = (r, r - 80, true) := by simp [pairZ, h1, h2, h]
theorem pairZ_4 {r : Int} (h1 : ¬ p1 r) (h2 : ¬ p2 r) (h3 : ¬ p3 r) (h : p4 r) : pairZ r = (r + 80, r, true) := by simp [pairZ, h1, h2, h3, h]
theorem pairZ_5 {r : Int} (h1 : ¬ p1 r) (h2 : ¬ p2 r) (h3 : ¬ p3 r) (h4 : ¬ p4 r) (h : p5 r) : pairZ r = (r - r % 2 + 1, r - r % 2, true) := by simp [pairZ, h1, h2, h3, h4, h]
theorem pairZ_6 {r : Int} (h1 : ¬ p1 r) (h2 : ¬ p2 r) (h3 : ¬ p3 r) (h4 : ¬ p4 r) (h5 : ¬ p5 r) (h : p6 r) : pairZ r = (r - 1 + r % 2 + 1, r - 1 + r % 2, true) := by simp [pairZ, h1, h2, h3, h4, h5, h]
theorem pairZ_0 {r : Int} (h1 : ¬ p1 r) (h2 : ¬ p2 r) (h3 : ¬ p3 r) (h4 : ¬ p4 r) (h5 : ¬ p5 r) (h6 : ¬ p6 r) : pairZ r = (r, r, false) := by simp [pairZ, h1, h2, h3, h4, h5, h6]

/-- Beyond the table nothing is a pair. -/
theorem pairZ_out {r : Int} (h : r < 0 ∨ 1300 ≤ r) : pairZ r = (r, r, false) :=
  pairZ_0 (by unfold p1; omega) (by unfold p2; omega) (by unfold p3; omega) (by unfold p4; omega) (by unfold p5; omega) (by unfold p6; omega)

theorem pairZ_bound (r : Int) (g0 : -2147483648 ≤ r) (g1 : r ≤ 2147483647) : (-2147483648 ≤ (pairZ r).1 ∧ (pairZ r).1 ≤ 2147483647) ∧ (-2147483648 ≤ (pairZ r).2.1 ∧ (pairZ r).2.1 ≤ 2147483647) := by
  by_cases h1 : p1 r
  · rw [pairZ_1 h1]; unfold p1 at h1; simp only []; omega
  by_cases h2 : p2 r
  · rw [pairZ_2 h1 h2]; unfold p2 at h2; simp only []; omega
  by_cases h3 : p3 r
  · rw [pairZ_3 h1 h2 h3]; unfold p3 at h3; simp only []; omega
  by_cases h4 : p4 r
  · rw [pairZ_4 h1 h2 h3 h4]; unfold p4 at h4; simp only []; omega
  by_cases h5 : p5 r
  · rw [pairZ_5 h1 h2 h3 h4 h5]; unfold p5 at h5; simp only []; omega
  by_cases h6 : p6 r
  · rw [pairZ_6 h1 h2 h3 h4 h5 h6]; unfold p6 at h6; simp only []; omega
  rw [pairZ_0 h1 h2 h3 h4 h5 h6]; simp only []; omega

theorem or1 : ∀ n : Fin 400, bits .or .i32 (n.val : Int) 1 = (n.val : Int) - (n.val : Int) % 2 + 1 := by decide +kernel
theorem an1 : ∀ n : Fin 400, bits .andNot .i32 (n.val : Int) 1 = (n.val : Int) - (n.val : Int) % 2 := by decide +kernel
theorem and1 : ∀ n : Fin 400, bits .and .i32 (n.val : Int) 1 = (n.val : Int) % 2 := by decide +kernel
theorem or_1 (r : Int) (h0 : 0 ≤ r) (h1 : r < 400) : bits .or .i32 r 1 = r - r % 2 + 1 := by
  obtain ⟨n, rfl⟩ := Int.eq_ofNat_of_zero_le h0
  exact or1 ⟨n, by omega⟩
theorem andNot_1 (r : Int) (h0 : 0 ≤ r) (h1 : r < 400) : bits .andNot .i32 r 1 = r - r % 2 := by
  obtain ⟨n, rfl⟩ := Int.eq_ofNat_of_zero_le h0
  exact an1 ⟨n, by omega⟩
theorem and_1 (r : Int) (h0 : 0 ≤ r) (h1 : r < 400) : bits .and .i32 r 1 = r % 2 := by
  obtain ⟨n, rfl⟩ := Int.eq_ofNat_of_zero_le h0
  exact and1 ⟨n, by omega⟩
end Go.Proofs.YtikmebkfdpbidaaGreatDoor.Ch
