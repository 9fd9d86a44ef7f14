/-
  The reference's Same at equal data.
-/
import Derived.Deep.RegionLaw
import Derived.Deep.LoopGhost
import Derived.Test.YtaepjlghdjcdnaaDoorCd
import Derived.Test.YtaepjlghdjcdnaaDoorCe
namespace Go.Proofs.YtaepjlghdjcdnaaDoor
open Go.RowKit
set_option linter.unusedVariables false
set_option linter.unusedSimpArgs false

def Sm.Says (t : Tr) : Prop := ∀ (S S' : Nat → Prop) (C C' : Array Value) (w : World), Tr.In w S t (.agg C) → Tr.In w S' t (.agg C') →
  Calls Tryd.prog 7 #[.agg C, .agg C'] w fun e w' => e = .returned (.bool true) ∧ Below w.heap.size w w'
theorem Sm.cells {w : World} {b : Nat} {C : Array Value} {t : TypeId} (h : w.heap[b]? = some (.cells C t (0, 0))) (k : Nat) : w.cell? ⟨b, k, none⟩ = C[k]? := by
  simp [World.cell?, h]
set_option maxHeartbeats 4000000 in
set_option maxRecDepth 1000000 in
theorem Sm.same_step (t : Tr) (IH : ∀ u, Tr.size u < Tr.size t → Sm.Says u) : Sm.Says t := by
  intro S S' C C' w hI hI'
  obtain ⟨h, l⟩ := t
  rw [Tr.In_mk] at hI hI'
  obtain ⟨v3, v4, v6, v7, v9, v10, e, hH, hL⟩ := hI
  obtain ⟨u3, u4, u6, u7, u9, u10, e', hH', hL'⟩ := hI'
  cases e
  cases e'
  obtain ⟨p3, d3, rfl⟩ := hH.i3.slice
  obtain ⟨p4, d4, rfl⟩ := hH.i4.slice
  obtain ⟨p6, d6, rfl⟩ := hH.i6.slice
  obtain ⟨p7, d7, rfl⟩ := hH.i7.slice
  obtain ⟨p9, d9, rfl⟩ := hH.i9.slice
  obtain ⟨p10, d10, rfl, hcap10, hmax10⟩ := Tr.Sl.slice hL
  obtain ⟨r3, g3, rfl⟩ := hH'.i3.slice
  obtain ⟨r4, g4, rfl⟩ := hH'.i4.slice
  obtain ⟨r6, g6, rfl⟩ := hH'.i6.slice
  obtain ⟨r7, g7, rfl⟩ := hH'.i7.slice
  obtain ⟨r9, g9, rfl⟩ := hH'.i9.slice
  obtain ⟨r10, g10, rfl, _, _⟩ := Tr.Sl.slice hL'
  have hN := Sm.two w (.cells #[.int .i64 h.k, .int .i64 h.n, .bool h.s1, .slice p3 h.t1.length d3, .slice p4 h.b1.length d4, .bool h.s2, .slice p6 h.t2.length d6, .slice p7 h.b2.length d7, .string h.x, .slice p9 h.raw.size d9, .slice p10 l.length d10] 32) (.cells #[.int .i64 h.k, .int .i64 h.n, .bool h.s1, .slice r3 h.t1.length g3, .slice r4 h.b1.length g4, .bool h.s2, .slice r6 h.t2.length g6, .slice r7 h.b2.length g7, .string h.x, .slice r9 h.raw.size g9, .slice r10 l.length g10] 32)
  have HN := Lib.hid hN
  have HKA := Lib.hid (fun w' (hb : Below w.heap.size w w') => Sm.alike h.s1 h.s2 h.t1 h.b1 h.t2 h.b2 _ _ _ _ _ _ _ _ w' hH.ok.l1 hH.ok.l2 hH.ok.l3 hH.ok.l4 (hH.i3.below hb (Nat.le_refl _)) (hH.i4.below hb (Nat.le_refl _)) (hH.i6.below hb (Nat.le_refl _)) (hH.i7.below hb (Nat.le_refl _)) (hH'.i3.below hb (Nat.le_refl _)) (hH'.i4.below hb (Nat.le_refl _)) (hH'.i6.below hb (Nat.le_refl _)) (hH'.i7.below hb (Nat.le_refl _)))
  have hraw := hH.ok.r1
  have HR := Lib.hid (And.intro hH.i9 hH'.i9)
  have HLL := Lib.hid (And.intro hL hL')
  have HIH := Lib.hid IH
  have hlen : l.length ≤ 9223372036854775807 := by
    rcases hmax10 with h0 | h0
    · omega
    · omega
  clear hH hH' hL hL' IH hN hcap10 hmax10
  unfold Tr.cells
  go_enter Tryd.func7, Tryd.ntmps7
  go_wp2_with fail
  refine (HKA.out _ HN.out.2.2.2).mono ?_
  rintro x w1 ⟨rfl, hb1⟩
  obtain ⟨n0, n1, n2, n3⟩ := HN.out
  have q0 := (hb1.block w.heap.size (by omega)).trans n0
  have q1 := (hb1.block (w.heap.size + 1) (by omega)).trans n1
  have hbw1 := n3.trans (hb1.mono n3.size)
  have hz1 : w.heap.size + 2 ≤ w1.heap.size := by have := hb1.size; omega
  have HF : Hid (∀ w', Below w1.heap.size w1 w' → w'.cell? ⟨w.heap.size, 9, none⟩ = some (.slice p9 h.raw.size d9) ∧ w'.cell? ⟨w.heap.size + 1, 9, none⟩ = some (.slice r9 h.raw.size g9) ∧ w'.cell? ⟨w.heap.size, 10, none⟩ = some (.slice p10 l.length d10) ∧ w'.cell? ⟨w.heap.size + 1, 10, none⟩ = some (.slice r10 l.length g10) ∧ Below w.heap.size w w') := Lib.hid (fun w' hb => by
    have a0 := (hb.block w.heap.size (by omega)).trans q0
    have a1 := (hb.block (w.heap.size + 1) (by omega)).trans q1
    exact ⟨(Sm.cells a0 9).trans rfl, (Sm.cells a1 9).trans rfl, (Sm.cells a0 10).trans rfl, (Sm.cells a1 10).trans rfl, hbw1.trans (hb.mono hbw1.size)⟩)
  clear hb1 n0 n1 n2 n3 q0 q1 hbw1
  go_wp2_with fail
  go_loopg [5] h.raw.size (fun g i wr => ∃ k : Nat, k + g = h.raw.size ∧ i = .int .i64 k ∧ Below w1.heap.size w1 wr)
  case atStart => exact ⟨0, by omega, rfl, Below.refl _ _⟩
  case round =>
    obtain ⟨k, hkg, rfl, hb⟩ := hrel
    obtain ⟨wo, hwo⟩ : ∃ z, z = wr := ⟨_, rfl⟩
    subst hwo
    obtain ⟨c9, f9, c10, f10, hbw⟩ := HF.out _ hb
    have HB := Lib.hid hb
    have HBW := Lib.hid hbw
    clear hb
    by_cases hlt : k < h.raw.size
    · obtain ⟨b, off, had, hbl, _, hc⟩ := HR.out.1.at (by omega)
      obtain ⟨b2, off2, had2, hbl2, _, hc2⟩ := HR.out.2.at (by omega)
      subst had
      subst had2
      have e0 := (hbw.cell (p := ⟨b, off + k, none⟩) hbl).trans (hc k hlt)
      have e1 := (hbw.cell (p := ⟨b2, off2 + k, none⟩) hbl2).trans (hc2 k hlt)
      clear hc hc2 hbw
      generalize Cd.byt h.raw k = x at *
      go_wp2
      go_quiet (fail)
      have HB2 := Lib.hid (below_drewN HB.out nq)
      go_wp2
      go_roundg (gk - 1)
      case measure => omega
      case rel => exact ⟨k + 1, by omega, by first | rfl | go_num | (simp; try omega), HB2.out⟩
    · have hk : k = h.raw.size := by omega
      subst hk
      clear hbw
      go_wp2_with fail
      go_loopg [6] l.length (fun g i wr => ∃ k : Nat, k + g = l.length ∧ i = .int .i64 k ∧ Below w1.heap.size w1 wr)
      case atStart => exact ⟨0, by omega, rfl, HB.out⟩
      case round =>
        obtain ⟨k, hkl, rfl, hb⟩ := hrel
        obtain ⟨wp, hwp⟩ : ∃ z, z = wr := ⟨_, rfl⟩
        subst hwp
        obtain ⟨_, _, y10, z10, hbw⟩ := HF.out _ hb
        have HB3 := Lib.hid hb
        have HBW3 := Lib.hid hbw
        by_cases hlt : k < l.length
        · obtain ⟨tk, htk⟩ : ∃ t, l[k]? = some t := ⟨_, List.getElem?_eq_getElem hlt⟩
          obtain ⟨b, off, rfl, _, _, _, hblt, hSb, hall⟩ := Tr.Sl.at HLL.out.1 (by omega)
          obtain ⟨Ck, hIk, hMk⟩ := Tr.All.at _ _ _ hall k tk htk
          obtain ⟨b2, off2, rfl, _, _, _, hblt2, hSb2, hall2⟩ := Tr.Sl.at HLL.out.2 (by omega)
          obtain ⟨Ck2, hIk2, hMk2⟩ := Tr.All.at _ _ _ hall2 k tk htk
          rw [Nat.mul_comm 11 k] at hMk hMk2
          have hbd : Below w1.heap.size w1 wp.drew := hb.drew
          obtain ⟨_, _, yd10, zd10, hbwd⟩ := HF.out _ hbd
          have hM4 := hMk.kept (Tr.Kept.all hbwd (Nat.le_refl _)) hSb hblt
          have hM5 := hMk2.kept (Tr.Kept.all hbwd (Nat.le_refl _)) hSb2 hblt2
          have KT := HIH.out tk (Tr.size_lt (t := .mk h l) (k := k) htk) S S' Ck Ck2 wp.drew (Tr.In.below hIk hbwd (Nat.le_refl _)) (Tr.In.below hIk2 hbwd (Nat.le_refl _))
          obtain ⟨he, le, ab3, ab4, ab6, ab7, ab9, ab10, nb3, nb4, nb6, nb7, nb9, nb10, cb3, cb4, cb6, cb7, cb9, cb10, eCb, _, _, _⟩ := Tr.In.form2 hIk
          subst eCb
          obtain ⟨hf, lf, ar3, ar4, ar6, ar7, ar9, ar10, nr3, nr4, nr6, nr7, nr9, nr10, cr3, cr4, cr6, cr7, cr9, cr10, eCr, _, _, _⟩ := Tr.In.form2 hIk2
          subst eCr
          unfold Tr.cells at KT hM4 hM5
          obtain ⟨e0, e1, e2, e3, e4, e5, e6, e7, e8, e9, e10⟩ := Tr.Mem.cells hM4
          obtain ⟨i0, i1, i2, i3, i4, i5, i6, i7, i8', i9, i10⟩ := Tr.Mem.cells hM5
          have HKT := Lib.hid KT
          clear hIk hMk hIk2 hMk2 hall hall2 htk hblt hblt2 hSb hSb2 hM4 hM5 KT hb hbw hbd hbwd
          go_wp2_with fail
          go_region_with (first
            | (go_at_call 7
               refine HKT.out.mono ?_
               rintro x w5 ⟨rfl, hb5⟩
               have HB5 := Lib.hid (HB3.out.trans ((((Below.refl _ _).drew).trans hb5).mono HB3.out.size))
               clear hb5))
          all_goals
            go_wp2_with fail
            go_roundg (l.length - (k + 1))
            case measure => omega
            case rel => exact ⟨k + 1, by omega, by first | rfl | go_num | (simp; try omega), HB5.out⟩
        · have hk : k = l.length := by omega
          subst hk
          clear hb hbw
          go_wp2_with fail
          go_ret
          exact ⟨rfl, HBW3.out⟩
theorem Sm.same (t : Tr) : Sm.Says t := Sm.same_step t (fun u _ => Sm.same u)
termination_by Tr.size t
decreasing_by assumption
end Go.Proofs.YtaepjlghdjcdnaaDoor
