/-
  Worlds that are alike but for one block.
  datum.sound of any datum.
  datum.Sound of any datum.
  Numbers: exact.own, fit.
  exact.fit of numbers that are not too large.
  exact.check of two sound numbers.
  exact.Add of two sound numbers whose sum is not too large.
  exact.Int; a number and nought.
  Eleven cells stored at a place of a row that the call has made; a datum with a hole.
  Data whose nodes are sound; a datum with a hole.
  An append to a row that the call owns: the row stays where it is, or lies in new memory.
  What a datum lies in is below the heap's end.
  A row of data that the call owns, and an append to it.
-/
import Derived.Deep.LoopGhost
import Derived.Test.YtikmebkfdpbidaaGreatDoorProg
import Derived.Below
import Derived.Test.YtikmebkfdpbidaaGreatDoorTrShape2T
import Derived.Test.YtikmebkfdpbidaaGreatDoorTd
import Derived.Test.YtikmebkfdpbidaaGreatDoorTc
namespace Go.Proofs.YtikmebkfdpbidaaGreatDoor
open Go.RowKit
set_option linter.unusedVariables false

/-- All old blocks but L are as they were. -/
structure Tr.But (L : Nat) (w w' : World) : Prop where
  os : w'.os = w.os
  tape : w'.tape = w.tape
  output : w'.output = w.output
  size : w.heap.size ≤ w'.heap.size
  block : ∀ q, q ≠ L → q < w.heap.size → w'.heap[q]? = w.heap[q]?
theorem Tr.But.refl (L : Nat) (w : World) : Tr.But L w w := ⟨rfl, rfl, rfl, Nat.le_refl _, fun _ _ _ => rfl⟩
theorem Tr.But.trans {L : Nat} {a b c : World} (h : Tr.But L a b) (k : Tr.But L b c) : Tr.But L a c :=
  ⟨k.os.trans h.os, k.tape.trans h.tape, k.output.trans h.output, Nat.le_trans h.size k.size, fun q h1 h2 => (k.block q h1 (Nat.lt_of_lt_of_le h2 h.size)).trans (h.block q h1 h2)⟩
theorem Tr.But.of_below {L B : Nat} {w w' : World} (h : Below B w w') (hB : w.heap.size ≤ B) : Tr.But L w w' :=
  ⟨h.os, h.tape, h.output, h.size, fun q _ h2 => h.block q (Nat.lt_of_lt_of_le h2 hB)⟩
theorem Tr.But.below {L B : Nat} {w w' : World} (h : Tr.But L w w') (hL : B ≤ L) (hB : B ≤ w.heap.size) : Below B w w' :=
  ⟨h.os, h.tape, h.output, h.size, fun q hq => h.block q (by omega) (by omega)⟩
theorem Tr.But.alloc {L : Nat} {a w : World} (h : Tr.But L a w) (o : Obj) : Tr.But L a (w.alloc o) := h.trans (Tr.But.of_below ((Below.refl w.heap.size w).alloc (Nat.le_refl _) o) (Nat.le_refl _))
theorem Tr.But.drew {L : Nat} {a w : World} (h : Tr.But L a w) : Tr.But L a w.drew := ⟨h.os, h.tape, h.output, h.size, h.block⟩
theorem Tr.But.setCell {L : Nat} {a w : World} (h : Tr.But L a w) (p : Addr) (hp : p.block = L ∨ a.heap.size ≤ p.block) (u : Value) : Tr.But L a (w.setCell p u) :=
  ⟨h.os, h.tape, h.output, by have := h.size; simp [World.setCell]; exact this, fun q h1 h2 => (Below.heap_setCell _ _ _ _ (by rcases hp with e | e <;> omega)).trans (h.block q h1 h2)⟩
/-- A number, stored. -/
theorem Tr.storeInt {w : World} {L : Nat} {n : Int} {t : TypeId} (h : w.heap[L]? = some (.cells #[.int .i64 n] t (0, 0))) (m : Int) :
    ∃ W, w.setCell ⟨L, 0, none⟩ (.int .i64 m) = W ∧ w.cell? ⟨L, 0, none⟩ = some (.int .i64 n) ∧ w.frozen? ⟨L, 0, none⟩ = false ∧ W.cell? ⟨L, 0, none⟩ = some (.int .i64 m) ∧ W.heap[L]? = some (.cells #[.int .i64 m] t (0, 0)) ∧ Tr.But L w W ∧ W.heap.size = w.heap.size ∧ (∀ q, q ≠ L → W.heap[q]? = w.heap[q]?) := by
  have h1 := Dt.setCells h 0 (.int .i64 m)
  exact ⟨_, rfl, Dt.cell_of h 0, Dt.frozen_of h 0, Dt.cell_of h1 0, h1, (Tr.But.refl L w).setCell _ (.inl rfl) _, by simp, fun q hq => Below.heap_setCell _ _ _ _ hq⟩
/-- The cells of a datum, its slices opened. -/
theorem Tr.In.form2 {w : World} {S : Nat → Prop} {t : Tr} {C : Array Value} (h : Tr.In w S t (.agg C)) : ∃ (hd : Tr.Hd) (l : List Tr) (a3 a4 a6 a7 a9 a10 : Option Addr) (n3 n4 n6 n7 n9 n10 c3 c4 c6 c7 c9 c10 : Nat),
    C = Tr.cells hd (.slice a3 n3 c3) (.slice a4 n4 c4) (.slice a6 n6 c6) (.slice a7 n7 c7) (.slice a9 n9 c9) (.slice a10 n10 c10) ∧ t = .mk hd l ∧ Tr.Hd.In w S hd (.slice a3 n3 c3) (.slice a4 n4 c4) (.slice a6 n6 c6) (.slice a7 n7 c7) (.slice a9 n9 c9) ∧ Tr.LIn w S l (.slice a10 n10 c10) := by
  obtain ⟨hd, l⟩ := t
  rw [Tr.In_mk] at h
  obtain ⟨v3, v4, v6, v7, v9, v10, e, h1, h2⟩ := h
  obtain ⟨a3, c3, rfl⟩ := h1.i3.slice
  obtain ⟨a4, c4, rfl⟩ := h1.i4.slice
  obtain ⟨a6, c6, rfl⟩ := h1.i6.slice
  obtain ⟨a7, c7, rfl⟩ := h1.i7.slice
  obtain ⟨a9, c9, rfl⟩ := h1.i9.slice
  obtain ⟨a10, c10, rfl, _⟩ := h2.slice
  exact ⟨hd, l, a3, a4, a6, a7, a9, a10, _, _, _, _, _, _, c3, c4, c6, c7, c9, c10, by injection e, rfl, h1, h2⟩
end Go.Proofs.YtikmebkfdpbidaaGreatDoor
namespace Go.Proofs.YtikmebkfdpbidaaGreatDoor
open Go.RowKit
set_option linter.unusedVariables false
set_option linter.unusedSimpArgs false

/-- What sound says of a datum, met d deep. -/
def Tr.SoundSays (t : Tr) : Prop := ∀ (S : Nat → Prop) (C : Array Value) (w0 w : World) (L d : Nat) (left : Int), Tr.In w0 S t (.agg C) → Tr.Tabs w0 → Below w0.heap.size w0 w → w0.heap.size ≤ L →
  w.heap[L]? = some (.cells #[.int .i64 left] 3 (0, 0)) → 0 ≤ left → left ≤ 20000 → d ≤ 201 →
  Calls Tryz.prog 90 #[.agg C, .int .i64 d, .pointer (some ⟨L, 0, none⟩)] w fun e w' => e = .returned (.bool (Tr.snd t d left).1) ∧ w'.heap[L]? = some (.cells #[.int .i64 (Tr.snd t d left).2] 3 (0, 0)) ∧ Tr.But L w w'
/-- A child, in the walk's own form. -/
theorem Tr.SoundSays.at {t : Tr} (H : Tr.SoundSays t) {S : Nat → Prop} {C : Array Value} {w0 w : World} {L d : Nat} {left : Int} (hI : Tr.In w0 S t (.agg C)) (hT : Tr.Tabs w0) (hb : Below w0.heap.size w0 w) (hL : w0.heap.size ≤ L)
    (hp : w.heap[L]? = some (.cells #[.int .i64 left] 3 (0, 0))) (h0 : 0 ≤ left) (h1 : left ≤ 20000) (hd : d ≤ 200) :
    Calls Tryz.prog 90 #[.agg C, .int .i64 ((d : Int) + 1), .pointer (some ⟨L, 0, none⟩)] w fun e w' => e = .returned (.bool (Tr.snd t (d + 1) left).1) ∧ w'.heap[L]? = some (.cells #[.int .i64 (Tr.snd t (d + 1) left).2] 3 (0, 0)) ∧ Tr.But L w w' := by
  have := H S C w0 w L (d + 1) left hI hT hb hL hp h0 h1 (by omega)
  rwa [show ((d + 1 : Nat) : Int) = (d : Int) + 1 by omega] at this

set_option maxHeartbeats 8000000 in
set_option maxRecDepth 1000000 in
theorem Tr.sound_step (t : Tr) (IH : ∀ u, Tr.size u < Tr.size t → Tr.SoundSays u) : Tr.SoundSays t := by
  intro S C w0 w L d left hI hT hb hL hp hl0 hl1 hd
  obtain ⟨h0, li0⟩ := t
  rw [Tr.In_mk] at hI
  obtain ⟨v3, v4, v6, v7, v9, v10, hC, hH, hS⟩ := hI
  obtain rfl : C = Tr.cells h0 v3 v4 v6 v7 v9 v10 := by injection hC
  clear hC
  have hLw : L < w.heap.size := (Array.getElem?_eq_some_iff.1 hp).1
  obtain ⟨W, hW⟩ : ∃ W, w.alloc (.cells (Tr.cells h0 v3 v4 v6 v7 v9 v10) 30) = W := ⟨_, rfl⟩
  have q0 : W.heap[w.heap.size]? = some (.cells (Tr.cells h0 v3 v4 v6 v7 v9 v10) 30 (0, 0)) := by rw [← hW]; exact heap_alloc_new w _
  have qL : W.heap[L]? = some (.cells #[.int .i64 left] 3 (0, 0)) := by rw [← hW]; exact (Lib.alloc_old _ _ _ hLw).trans hp
  have hbt0 : Tr.But L w W := by rw [← hW]; exact (Tr.But.refl L w).alloc _
  have hzW : w.heap.size < W.heap.size := (Array.getElem?_eq_some_iff.1 q0).1
  have HIH := Lib.hid IH
  have HT := Lib.hid hT
  have HB := Lib.hid hb
  have HGEO := Lib.hid (And.intro hL (And.intro hLw (And.intro hb.size (And.intro hd hzW))))
  have HST : Hid (∃ (h : Tr.Hd) (l : List Tr) (v3 v4 v6 v7 v9 v10 : Value) (lf : Int), Tr.Hd.In w0 S h v3 v4 v6 v7 v9 ∧ Tr.LIn w0 S l v10 ∧ (Tr.size (.mk h l) = Tr.size (.mk h0 li0) ∧ Tr.size (.mk h0 li0) ≤ Tr.size (.mk h0 li0)) ∧ W.heap[w.heap.size]? = some (.cells (Tr.cells h v3 v4 v6 v7 v9 v10) 30 (0, 0)) ∧ W.heap[L]? = some (.cells #[.int .i64 lf] 3 (0, 0)) ∧ 0 ≤ lf ∧ lf ≤ 20000 ∧ Tr.snd (.mk h l) d lf = Tr.snd (.mk h0 li0) d left ∧ Tr.But L w W) :=
    Lib.hid ⟨h0, li0, v3, v4, v6, v7, v9, v10, left, hH, hS, ⟨rfl, Nat.le_refl _⟩, q0, qL, hl0, hl1, rfl, hbt0⟩
  have hdI : (d : Int) ≤ 201 := by omega
  unfold Tr.cells at hW ⊢
  clear IH hT hb hL hp hl0 hl1 hLw q0 qL hbt0 hH hS hzW hd
  go_enter Tryz.func90, Tryz.ntmps90
  go_wp2_with fail
  go_loopg [] (Tr.size (.mk h0 li0)) (fun g wr => ∃ (h : Tr.Hd) (l : List Tr) (v3 v4 v6 v7 v9 v10 : Value) (lf : Int), Tr.Hd.In w0 S h v3 v4 v6 v7 v9 ∧ Tr.LIn w0 S l v10 ∧ (Tr.size (.mk h l) = g ∧ g ≤ Tr.size (.mk h0 li0)) ∧ wr.heap[w.heap.size]? = some (.cells (Tr.cells h v3 v4 v6 v7 v9 v10) 30 (0, 0)) ∧ wr.heap[L]? = some (.cells #[.int .i64 lf] 3 (0, 0)) ∧ 0 ≤ lf ∧ lf ≤ 20000 ∧ Tr.snd (.mk h l) d lf = Tr.snd (.mk h0 li0) d left ∧ Tr.But L w wr)
  case atStart =>
    exact HST.out
  case round =>
    obtain ⟨h, l, u3, u4, u6, u7, u9, u10, lf, hH, hS, hg, hbox, hleft, hf0, hf1, hsnd, hbut⟩ := hrel
    obtain ⟨wo, hwo⟩ : ∃ z, z = wr := ⟨_, rfl⟩
    subst hwo
    clear HST hW
    obtain ⟨a10, c10, rfl, hcap10, _⟩ := hS.slice
    obtain ⟨W1, hW1, p0, z0, p1, hL1, hbut1, hsz1, hoth1⟩ := Tr.storeInt hleft (lf - 1)
    have hbox1 : W1.heap[w.heap.size]? = some (.cells (Tr.cells h u3 u4 u6 u7 u9 (.slice a10 l.length c10)) 30 (0, 0)) := (hoth1 _ (by have := HGEO.out; omega)).trans hbox
    have hbB1 : Below w0.heap.size w0 W1 := HB.out.trans ((hbut.trans (hbut1)).below HGEO.out.1 HGEO.out.2.2.1)
    have KSH := Tr.shape_any h l.length u3 u4 u6 u7 u9 a10 c10 S W1 (hH.kept (Tr.Kept.all hbB1 (Nat.le_refl _))) (HT.out.below hbB1)
    have hbut01 := hbut.trans hbut1
    have HH := Lib.hid hH
    have HS := Lib.hid hS
    have HG := Lib.hid hg
    have HSND := Lib.hid hsnd
    have HBUT := Lib.hid hbut01
    have HL1 := Lib.hid hL1
    have HBOX := Lib.hid hbox1
    have HBB := Lib.hid hbB1
    unfold Tr.cells at KSH
    obtain ⟨d0, d1, d2, d3, d4, d5, d6, d7, d8, d9, d10⟩ := Dt.cells11 (show W1.heap[w.heap.size]? = some (.cells #[.int .i64 h.k, .int .i64 h.n, .bool h.s1, u3, u4, .bool h.s2, u6, u7, .string h.x, u9, .slice a10 l.length c10] 30 (0, 0)) from hbox1)
    clear hH hS hg hbox hleft hsnd hbut hbut1 hL1 hoth1 hbox1 hbB1 hbut01 hsz1
    by_cases hneg : lf - 1 < 0
    · have HF : Hid (Tr.snd (.mk h l) d lf = (false, lf - 1)) := Lib.hid (Tr.snd_bad (.inl hneg))
      go_wp2_with fail
      go_ret
      exact ⟨by rw [← HSND.out, HF.out]; rfl, by rw [← HSND.out, HF.out]; exact HL1.out, HBUT.out⟩
    by_cases hdeep : 200 < d
    · have HF : Hid (Tr.snd (.mk h l) d lf = (false, lf - 1)) := Lib.hid (Tr.snd_bad (.inr (.inl hdeep)))
      have hdeepI : (200 : Int) < (d : Int) := by omega
      go_wp2_with fail
      go_ret
      exact ⟨by rw [← HSND.out, HF.out]; rfl, by rw [← HSND.out, HF.out]; exact HL1.out, HBUT.out⟩
    have hdeepI : ¬ (200 : Int) < (d : Int) := by omega
    obtain ⟨SH, hSH⟩ : ∃ b, h.shape l.length = b := ⟨_, rfl⟩
    rw [hSH] at KSH
    have HSH := Lib.hid hSH
    clear hSH
    go_wp2_with fail
    refine KSH.mono ?_
    rintro y w2 ⟨rfl, hb2⟩
    have hbut2 := HBUT.out.trans (Tr.But.of_below hb2 (Nat.le_refl _))
    have hL2 : w2.heap[L]? = some (.cells #[.int .i64 (lf - 1)] 3 (0, 0)) := (hb2.block L ((Array.getElem?_eq_some_iff.1 HL1.out).1)).trans HL1.out
    have hbox2 : w2.heap[w.heap.size]? = some (.cells (Tr.cells h u3 u4 u6 u7 u9 (.slice a10 l.length c10)) 30 (0, 0)) := (hb2.block w.heap.size ((Array.getElem?_eq_some_iff.1 HBOX.out).1)).trans HBOX.out
    have hbB2 : Below w0.heap.size w0 w2 := HBB.out.trans (hb2.mono HBB.out.size)
    have HL2 := Lib.hid hL2
    have HBUT2 := Lib.hid hbut2
    have HBOX2 := Lib.hid hbox2
    have HBB2 := Lib.hid hbB2
    clear d0 d1 d2 d3 d4 d5 d6 d7 d8 d9 d10
    obtain ⟨d0, d1, d2, d3, d4, d5, d6, d7, d8, d9, d10⟩ := Dt.cells11 (show w2.heap[w.heap.size]? = some (.cells #[.int .i64 h.k, .int .i64 h.n, .bool h.s1, u3, u4, .bool h.s2, u6, u7, .string h.x, u9, .slice a10 l.length c10] 30 (0, 0)) from hbox2)
    clear hb2 hbut2 hL2 hbox2 hbB2 p0 z0 p1 KSH
    cases SH with
    | false =>
      have HF : Hid (Tr.snd (.mk h l) d lf = (false, lf - 1)) := Lib.hid (Tr.snd_bad (.inr (.inr HSH.out)))
      go_wp2_with fail
      go_ret
      exact ⟨by rw [← HSND.out, HF.out]; rfl, by rw [← HSND.out, HF.out]; exact HL2.out, HBUT2.out⟩
    | true =>
      have HNB : Hid (¬ (lf - 1 < 0 ∨ 200 < d ∨ h.shape l.length = false)) := Lib.hid (by
        rintro (h1 | h1 | h1)
        · omega
        · omega
        · rw [HSH.out] at h1; cases h1)
      by_cases hk8 : h.k = 8
      · have hlen := Tr.Hd.shape_pair HSH.out hk8
        obtain ⟨a, b, rfl⟩ : ∃ a b, l = [a, b] := by
          match l, hlen with
          | [a, b], _ => exact ⟨a, b, rfl⟩
        have HF : Hid (Tr.snd (.mk h [a, b]) d lf = if (Tr.snd a (d + 1) (lf - 1)).1 = true then Tr.snd b d (Tr.snd a (d + 1) (lf - 1)).2 else (false, (Tr.snd a (d + 1) (lf - 1)).2)) := Lib.hid (Tr.snd_pair HNB.out hk8)
        obtain ⟨bL, oL, rfl, _, _, _, hbLlt, hSb, hall⟩ := Tr.Sl.at HS.out (by simp)
        obtain ⟨Ca, hIa, hMa⟩ := Tr.All.at _ _ _ hall 0 a rfl
        obtain ⟨Cb, hIb, hMb⟩ := Tr.All.at _ _ _ hall 1 b rfl
        have hMa : Tr.Mem w0 bL oL Ca := hMa
        have hMb : Tr.Mem w0 bL (oL + 11) Cb := hMb
        have hsz : Tr.size (.mk h [a, b]) = 1 + (Tr.size a + (Tr.size b + 0)) := by rw [Tr.size_mk, Tr.sizeL_cons, Tr.sizeL_cons, Tr.sizeL_nil]
        have KA := (HIH.out a (by have := HG.out; omega)).at (w := w2) (d := d) (left := lf - 1) hIa HT.out HBB2.out HGEO.out.1 HL2.out (by omega) (by omega) (by omega)
        have hMa2 := hMa.kept (Tr.Kept.all HBB2.out (Nat.le_refl _)) hSb hbLlt
        have hle := Tr.snd_le a (d + 1) (lf - 1) (by omega)
        obtain ⟨ha, la, ta3, ta4, ta6, ta7, ta9, ta10, eCa⟩ := Tr.In.form hIa
        obtain ⟨hb, lb, ab3, ab4, ab6, ab7, ab9, ab10, nb3, nb4, nb6, nb7, nb9, nb10, cb3, cb4, cb6, cb7, cb9, cb10, eCb, ebt, hbH, hbL⟩ := Tr.In.form2 hIb
        have HBH := Lib.hid (And.intro ebt (And.intro hbH hbL))
        subst eCa
        subst eCb
        unfold Tr.cells at KA hMa2
        obtain ⟨e0, e1, e2, e3, e4, e5, e6, e7, e8, e9, e10⟩ := Tr.Mem.cells hMa2
        have HSZ := Lib.hid hsz
        have HIB := Lib.hid hIb
        have HMB := Lib.hid hMb
        have HBL := Lib.hid (And.intro hbLlt hSb)
        have HLE := Lib.hid hle
        have hlI : (([a, b] : List Tr).length : Int) = 2 := rfl
        clear ebt hbH hbL hsz hIa hIb hMa hMb hMa2 hle hall hlen hbLlt hSb
        go_wp2_with fail
        refine KA.mono ?_
        rintro y w3 ⟨rfl, hL3, hbt3⟩
        have hbut3 := HBUT2.out.trans hbt3
        have hbB3 : Below w0.heap.size w0 w3 := HBB2.out.trans (hbt3.below HGEO.out.1 HBB2.out.size)
        have hbox3 : w3.heap[w.heap.size]? = some (.cells (Tr.cells h u3 u4 u6 u7 u9 (.slice (some ⟨bL, oL, none⟩) [a, b].length c10)) 30 (0, 0)) := (hbt3.block w.heap.size (by have := HGEO.out; omega) ((Array.getElem?_eq_some_iff.1 HBOX2.out).1)).trans HBOX2.out
        clear d0 d1 d2 d3 d4 d5 d6 d7 d8 d9 d10 e0 e1 e2 e3 e4 e5 e6 e7 e8 e9 e10
        have hMb3 := HMB.out.kept (Tr.Kept.all hbB3 (Nat.le_refl _)) HBL.out.2 HBL.out.1
        have hput := Dt.put11 (show w3.heap[w.heap.size]? = some (.cells #[.int .i64 h.k, .int .i64 h.n, .bool h.s1, u3, u4, .bool h.s2, u6, u7, .string h.x, u9, .slice (some ⟨bL, oL, none⟩) [a, b].length c10] 30 (0, 0)) from hbox3) (.int .i64 hb.k) (.int .i64 hb.n) (.bool hb.s1) (.slice ab3 nb3 cb3) (.slice ab4 nb4 cb4) (.bool hb.s2) (.slice ab6 nb6 cb6) (.slice ab7 nb7 cb7) (.string hb.x) (.slice ab9 nb9 cb9) (.slice ab10 nb10 cb10)
        have HPUT := Lib.hid hput
        obtain ⟨d0, d1, d2, d3, d4, d5, d6, d7, d8, d9, d10⟩ := Dt.cells11 (show w3.heap[w.heap.size]? = some (.cells #[.int .i64 h.k, .int .i64 h.n, .bool h.s1, u3, u4, .bool h.s2, u6, u7, .string h.x, u9, .slice (some ⟨bL, oL, none⟩) [a, b].length c10] 30 (0, 0)) from hbox3)
        unfold Tr.cells at hMb3
        obtain ⟨e0, e1, e2, e3, e4, e5, e6, e7, e8, e9, e10⟩ := Tr.Mem.cells hMb3
        have HL3 := Lib.hid hL3
        have HBUT3 := Lib.hid hbut3
        have HBB3 := Lib.hid hbB3
        clear hL3 hbut3 hbB3 hbt3 hbox3 hMb3 hput KA
        obtain ⟨ra, hra⟩ : ∃ r, (Tr.snd a (d + 1) (lf - 1)).1 = r := ⟨_, rfl⟩
        have HRA := Lib.hid hra
        rw [hra]
        clear hra
        cases ra with
        | false =>
          have HF2 : Hid (Tr.snd (.mk h [a, b]) d lf = (false, (Tr.snd a (d + 1) (lf - 1)).2)) := Lib.hid (by rw [HF.out, HRA.out]; rfl)
          go_wp2_with fail
          go_ret
          exact ⟨by rw [← HSND.out, HF2.out]; rfl, by rw [← HSND.out, HF2.out]; exact HL3.out, HBUT3.out⟩
        | true =>
          have HF2 : Hid (Tr.snd (.mk h [a, b]) d lf = Tr.snd b d (Tr.snd a (d + 1) (lf - 1)).2) := Lib.hid (by rw [HF.out, if_pos HRA.out])
          obtain ⟨X1, X2, X3, X4, X5, X6, X7, X8, X9, X10, X11, ⟨f0, y0, s0, _⟩, ⟨f1, y1, s1, _⟩, ⟨f2, y2, s2, _⟩, ⟨f3, y3, s3, _⟩, ⟨f4, y4, s4, _⟩, ⟨f5, y5, s5, _⟩, ⟨f6, y6, s6, _⟩, ⟨f7, y7, s7, _⟩, ⟨f8, y8, s8, _⟩, ⟨f9, y9, s9, _⟩, ⟨f10, y10, s10, _⟩, hX, hXz, hXo, hXb⟩ := HPUT.out
          have HX := Lib.hid (And.intro hX (And.intro hXz hXo))
          have HLX : Hid (X11.heap[L]? = some (.cells #[.int .i64 (Tr.snd a (d + 1) (lf - 1)).2] 3 (0, 0))) := Lib.hid ((hXo L (by have := HGEO.out; omega)).trans HL3.out)
          have HBX : Hid (Tr.But L w X11) := Lib.hid ⟨(hXb 0 w3 (Below.refl _ _) (Nat.zero_le _)).os.trans HBUT3.out.os, (hXb 0 w3 (Below.refl _ _) (Nat.zero_le _)).tape.trans HBUT3.out.tape, (hXb 0 w3 (Below.refl _ _) (Nat.zero_le _)).output.trans HBUT3.out.output, by rw [hXz]; exact HBUT3.out.size, fun q h1 h2 => (hXo q (by omega)).trans (HBUT3.out.block q h1 h2)⟩
          clear hX hXz hXo hXb
          have hle2 := HLE.out.2 HRA.out
          have HLE2 := Lib.hid hle2
          clear hle2
          go_wp2_with fail
          go_roundg (Tr.size b)
          case measure => have := HSZ.out; have := HG.out; have := Tr.size_pos a; omega
          case rel =>
            have e := HBH.out.1
            exact ⟨hb, lb, _, _, _, _, _, _, (Tr.snd a (d + 1) (lf - 1)).2, HBH.out.2.1, HBH.out.2.2, ⟨by rw [← e], by have := HSZ.out; have := HG.out; omega⟩, HX.out.1, HLX.out, HLE2.out, by have := HLE.out.1; omega, by rw [← e, ← HF2.out, HSND.out], HBX.out⟩
      · have hk8I : (h.k != 8) = true := by simp; exact hk8
        have HF : Hid (Tr.snd (.mk h l) d lf = Tr.sndL l (d + 1) (lf - 1)) := Lib.hid (Tr.snd_list HNB.out hk8)
        have hlf1 : 0 ≤ lf - 1 := by omega
        clear hk8
        go_wp2_with fail
        go_loopg [46] l.length (fun g iv wr => ∃ (k : Nat) (lf2 : Int), k + g = l.length ∧ iv = .int .i64 k ∧ wr.heap[L]? = some (.cells #[.int .i64 lf2] 3 (0, 0)) ∧ 0 ≤ lf2 ∧ lf2 ≤ 20000 ∧ Tr.sndL (l.drop k) (d + 1) lf2 = Tr.sndL l (d + 1) (lf - 1) ∧ Tr.But L w wr ∧ Below w0.heap.size w0 wr)
        case atStart => exact ⟨0, lf - 1, by omega, rfl, HL2.out, hlf1, by omega, by rw [List.drop_zero], HBUT2.out, HBB2.out⟩
        case round =>
          obtain ⟨k, lf2, hkg, rfl, hL3, hl20, hl21, hsl, hbt3, hbb3⟩ := hrel
          obtain ⟨w3, hw3⟩ : ∃ z, z = wr := ⟨_, rfl⟩
          subst hw3
          have HSL := Lib.hid hsl
          have HBT3 := Lib.hid hbt3
          have HBB3 := Lib.hid hbb3
          have HL3 := Lib.hid hL3
          clear hsl hbt3 hbb3 hL3 d0 d1 d2 d3 d4 d5 d6 d7 d8 d9 d10 HL2 HBUT2 HBOX2 HBB2
          by_cases hlt : k < l.length
          · obtain ⟨bL, oL, rfl, _, _, _, hbLlt, hSb, hall⟩ := Tr.Sl.at HS.out (by omega)
            obtain ⟨tk, htk⟩ : ∃ t, l[k]? = some t := ⟨_, List.getElem?_eq_getElem hlt⟩
            have hdrop : l.drop k = tk :: l.drop (k + 1) := by
              rw [List.drop_eq_getElem_cons hlt]
              rw [List.getElem?_eq_getElem hlt] at htk
              injection htk with e
              rw [e]
            obtain ⟨Ck, hIk, hMk⟩ := Tr.All.at _ _ _ hall k tk htk
            rw [Nat.mul_comm 11 k] at hMk
            have hsz : Tr.size tk < Tr.size (.mk h l) := Tr.size_lt (t := .mk h l) (k := k) htk
            have KT := fun w' hb hp => (HIH.out tk (by have := HG.out; omega)).at (w := w') (d := d) (left := lf2) hIk HT.out hb HGEO.out.1 hp hl20 hl21 (by omega)
            have hMk3 := hMk.kept (Tr.Kept.all HBB3.out (Nat.le_refl _)) hSb hbLlt
            obtain ⟨hb, lb, ab3, ab4, ab6, ab7, ab9, ab10, nb3, nb4, nb6, nb7, nb9, nb10, cb3, cb4, cb6, cb7, cb9, cb10, eCb, ebt, hbH, hbL⟩ := Tr.In.form2 hIk
            subst eCb
            unfold Tr.cells at KT hMk3
            obtain ⟨e0, e1, e2, e3, e4, e5, e6, e7, e8, e9, e10⟩ := Tr.Mem.cells hMk3
            have HDR := Lib.hid hdrop
            have hle := Tr.snd_le tk (d + 1) lf2 (by omega)
            have HLE := Lib.hid hle
            have HKT := Lib.hid KT
            clear hIk hMk hMk3 hall hsz hdrop htk ebt hbH hbL hbLlt hSb hle KT
            have HALC : Hid (∀ o, Below w0.heap.size w0 (w3.alloc o) ∧ (w3.alloc o).heap[L]? = some (.cells #[.int .i64 lf2] 3 (0, 0)) ∧ Tr.But L w (w3.alloc o)) := Lib.hid (fun o => ⟨HBB3.out.alloc HBB3.out.size o, (Lib.alloc_old _ _ _ ((Array.getElem?_eq_some_iff.1 HL3.out).1)).trans HL3.out, HBT3.out.alloc o⟩)
            go_wp2_with fail
            refine (HKT.out _ (HALC.out _).1 (HALC.out _).2.1).mono ?_
            rintro y w5 ⟨rfl, hL5, hbt5⟩
            have hbb5 : Below w0.heap.size w0 w5 := (HALC.out _).1.trans (hbt5.below HGEO.out.1 (HALC.out _).1.size)
            have hbut5 := (HALC.out _).2.2.trans hbt5
            have HR5 := Lib.hid (And.intro hL5 (And.intro hbut5 hbb5))
            clear hL5 hbt5 hbb5 hbut5 HALC e0 e1 e2 e3 e4 e5 e6 e7 e8 e9 e10
            obtain ⟨ra, hra⟩ : ∃ r, (Tr.snd tk (d + 1) lf2).1 = r := ⟨_, rfl⟩
            have HRA := Lib.hid hra
            rw [hra]
            clear hra
            cases ra with
            | false =>
              have HF2 : Hid (Tr.snd (.mk h l) d lf = (false, (Tr.snd tk (d + 1) lf2).2)) := Lib.hid (by rw [HF.out, ← HSL.out, HDR.out, Tr.sndL_cons, HRA.out]; rfl)
              go_wp2_with fail
              go_ret
              exact ⟨by rw [← HSND.out, HF2.out]; rfl, by rw [← HSND.out, HF2.out]; exact HR5.out.1, HR5.out.2.1⟩
            | true =>
              have HF2 : Hid (Tr.sndL (l.drop (k + 1)) (d + 1) (Tr.snd tk (d + 1) lf2).2 = Tr.sndL l (d + 1) (lf - 1)) := Lib.hid (by rw [← HSL.out, HDR.out, Tr.sndL_cons, if_pos HRA.out])
              have hle2 := HLE.out.2 HRA.out
              have HLE2 := Lib.hid hle2
              clear hle2
              go_wp2_with fail
              go_roundg (gk - 1)
              case measure => omega
              case rel => exact ⟨k + 1, _, by omega, by first | rfl | go_num | (simp; try omega), HR5.out.1, HLE2.out, by have := HLE.out.1; omega, HF2.out, HR5.out.2.1, HR5.out.2.2⟩
          · obtain rfl : k = l.length := by omega
            have HF2 : Hid (Tr.snd (.mk h l) d lf = (true, lf2)) := Lib.hid (by rw [HF.out, ← HSL.out, List.drop_length, Tr.sndL_nil])
            have hnlt : decide ((l.length : Int) < (l.length : Int)) = false := decide_eq_false (by omega)
            go_wp2_with fail
            go_ret
            exact ⟨by rw [← HSND.out, HF2.out]; rfl, by rw [← HSND.out, HF2.out]; exact HL3.out, HBT3.out⟩
theorem Tr.sound_says (t : Tr) : Tr.SoundSays t := by
  have H : ∀ n t, Tr.size t < n → Tr.SoundSays t := by
    intro n
    induction n with
    | zero => intro t h; omega
    | succ n ih => intro t h; exact Tr.sound_step t (fun u hu => ih u (by omega))
  exact H _ t (Nat.lt_succ_self _)
end Go.Proofs.YtikmebkfdpbidaaGreatDoor
namespace Go.Proofs.YtikmebkfdpbidaaGreatDoor
open Go.RowKit
set_option linter.unusedVariables false
set_option linter.unusedSimpArgs false

theorem Tr.In.agg {w : World} {S : Nat → Prop} {t : Tr} {v : Value} (h : Tr.In w S t v) : ∃ C, v = .agg C := by
  obtain ⟨hd, l⟩ := t
  rw [Tr.In_mk] at h
  obtain ⟨v3, v4, v6, v7, v9, v10, e, _⟩ := h
  exact ⟨_, e⟩
set_option maxHeartbeats 4000000 in
set_option maxRecDepth 1000000 in
theorem Tr.Sound_any (t : Tr) (S : Nat → Prop) (v : Value) (w : World) (hI : Tr.In w S t v) (hT : Tr.Tabs w) : Calls Tryz.prog 60 #[v] w fun e w' => e = .returned (.bool (Tr.sound t)) ∧ Below w.heap.size w w' := by
  obtain ⟨C, rfl⟩ := hI.agg
  have K := fun w' L hb hL hp => Tr.sound_says t S C w w' L 1 20000 hI hT hb hL hp (by decide) (by decide) (by decide)
  obtain ⟨hb, lb, a3, a4, a6, a7, a9, a10, n3, n4, n6, n7, n9, n10, c3, c4, c6, c7, c9, c10, eC, _, _, _⟩ := Tr.In.form2 hI
  subst eC
  unfold Tr.cells at K ⊢
  rw [show ((1 : Nat) : Int) = 1 from rfl] at K
  have hdef : Tr.sound t = (Tr.snd t 1 20000).1 := rfl
  rw [← hdef] at K
  have hA : ∀ o1 o2, Below w.heap.size w ((w.alloc o1).alloc o2) := fun o1 o2 => ((Below.refl _ _).alloc (Nat.le_refl _) _).alloc (by simp) _
  have hN : ∀ o, ((w.alloc o).alloc (.cells #[.int .i64 20000] 3)).heap[w.heap.size + 1]? = some (.cells #[.int .i64 20000] 3 (0, 0)) := by
    intro o
    have := heap_alloc_new (w.alloc o) (.cells #[.int .i64 20000] 3)
    rwa [show (w.alloc o).heap.size = w.heap.size + 1 by simp] at this
  have HK := Lib.hid K
  have HA := Lib.hid hA
  have HN := Lib.hid hN
  clear K hA hN hI hT hdef
  generalize Tr.sound t = R at *
  go_enter Tryz.func60, Tryz.ntmps60
  go_wp2_with fail
  refine (HK.out _ _ (HA.out _ _) (Nat.le_succ _) (HN.out _)).mono ?_
  rintro y w1 ⟨rfl, _, hbt⟩
  have HB := Lib.hid ((HA.out _ _).trans (hbt.below (Nat.le_succ _) (HA.out _ _).size))
  clear hbt
  go_wp2_with fail
  go_ret
  exact ⟨rfl, HB.out⟩
end Go.Proofs.YtikmebkfdpbidaaGreatDoor
namespace Go.Proofs.YtikmebkfdpbidaaGreatDoor
open Go.RowKit
set_option linter.unusedVariables false
set_option linter.unusedSimpArgs false
/-- A number whose words lie in blocks from B on. -/
def Rt.FrN (B : Nat) (v : Value) : Prop := ∃ s tv bv s2 tv2 bv2, v = .agg #[s, tv, bv, s2, tv2, bv2] ∧ Nt.Fr B tv ∧ Nt.Fr B bv ∧ Nt.Fr B tv2 ∧ Nt.Fr B bv2
def Rt.Len (n : Nat) : Prop := (Nt.dig n).length ≤ 400000
theorem Rt.Fr.open {B B' : Nat} {s tv bv : Value} (h : Rt.Fr B (.agg #[s, tv, bv])) (hB : B' ≤ B) : Nt.Fr B' tv ∧ Nt.Fr B' bv := by
  obtain ⟨s', tv', bv', e, h1, h2⟩ := h
  simp only [Value.agg.injEq] at e
  have e1 : tv = tv' := by have := congrArg (fun a : Array Value => a[1]?) e; simpa using this
  have e2 : bv = bv' := by have := congrArg (fun a : Array Value => a[2]?) e; simpa using this
  subst e1 e2
  exact ⟨h1.mono hB, h2.mono hB⟩
set_option maxHeartbeats 8000000 in
set_option maxRecDepth 1000000 in
theorem Rt.own_any (s : Bool) (t b : Nat) (s2 : Bool) (t2 b2 : Nat) (v : Value) (w : World) (h : Rt.Q w v s t b s2 t2 b2) (hl : (Nt.dig t).length ≤ 400000 ∧ (Nt.dig b).length ≤ 400000 ∧ (Nt.dig t2).length ≤ 400000 ∧ (Nt.dig b2).length ≤ 400000) :
    Calls Tryz.prog 171 #[v] w fun e w' => ∃ v', e = .returned v' ∧ Rt.Q w' v' s t b s2 t2 b2 ∧ Rt.FrN w.heap.size v' ∧ Below w.heap.size w w' := by
  have K1 := fun v w h => Rt.own1_any s t b v w h ⟨hl.1, hl.2.1⟩
  have K2 := fun v w h => Rt.own1_any s2 t2 b2 v w h ⟨hl.2.2.1, hl.2.2.2⟩
  clear hl
  obtain ⟨tv1, bv1, tv2, bv2, rfl, hn1, hd1, hn2, hd2⟩ := h
  obtain ⟨a1, c1, rfl⟩ := Nt.In.slice hn1
  obtain ⟨a2, c2, rfl⟩ := Nt.In.slice hd1
  obtain ⟨a3, c3, rfl⟩ := Nt.In.slice hn2
  obtain ⟨a4, c4, rfl⟩ := Nt.In.slice hd2
  generalize (Nt.dig t).length = l1 at *
  generalize (Nt.dig b).length = l2 at *
  generalize (Nt.dig t2).length = l3 at *
  generalize (Nt.dig b2).length = l4 at *
  obtain ⟨W2, hW2, q0, q1, hsz, hb0⟩ := Rt.two w (.cells #[.bool s, .slice a1 l1 c1, .slice a2 l2 c2, .bool s2, .slice a3 l3 c3, .slice a4 l4 c4] 26) (.cells #[.bool false, .slice none 0 0, .slice none 0 0, .bool false, .slice none 0 0, .slice none 0 0] 26)
  have HI := Lib.hid (fun (w' : World) (hb : Below W2.heap.size W2 w') => And.intro (show Rt.R w' (.agg #[.bool s, .slice a1 l1 c1, .slice a2 l2 c2]) s t b from ⟨_, _, rfl, (Nt.N.below hn1 hb0 (Nat.le_refl _)).below hb (Nat.le_refl _), (Nt.N.below hd1 hb0 (Nat.le_refl _)).below hb (Nat.le_refl _)⟩) (show Rt.R w' (.agg #[.bool s2, .slice a3 l3 c3, .slice a4 l4 c4]) s2 t2 b2 from ⟨_, _, rfl, (Nt.N.below hn2 hb0 (Nat.le_refl _)).below hb (Nat.le_refl _), (Nt.N.below hd2 hb0 (Nat.le_refl _)).below hb (Nat.le_refl _)⟩))
  have HK := Lib.hid (fun (w' : World) (hb : Below W2.heap.size W2 w') => Rt.cells6 ((hb.block w.heap.size (by omega)).trans q0))
  have HR := Lib.hid (fun (w' : World) (hb : Below W2.heap.size W2 w') => (hb.block (w.heap.size + 1) (by omega)).trans q1)
  have HKX := Lib.hid (fun (w' w'' : World) (hb : Below W2.heap.size W2 w') (hx : ∀ q, q ≠ w.heap.size + 1 → w''.heap[q]? = w'.heap[q]?) => (Rt.cells6 ((hx w.heap.size (by omega)).trans ((hb.block w.heap.size (by omega)).trans q0))))
  have HB := Lib.hid (fun (w' : World) (hb : Below W2.heap.size W2 w') => hb0.trans (hb.mono (by omega : w.heap.size ≤ W2.heap.size)))
  have hacc : Below W2.heap.size W2 W2.drew := Rt.belowD (Below.refl _ _)
  have hkeep := HK.out _ hacc
  have HZ : Hid (∀ w', Below W2.heap.size W2 w' → w.heap.size ≤ w'.heap.size) := Lib.hid (fun w' hb => by have := hb.size; omega)
  clear q0 q1 hb0 hn1 hd1 hn2 hd2 hsz
  go_enter Tryz.func171, Tryz.ntmps171
  go_wp2_with fail
  clear hW2
  go_region_held3 (fun w' => w'.cell? ⟨w.heap.size, 0, none⟩ = some (.bool s) ∧ w'.cell? ⟨w.heap.size, 1, none⟩ = some (.slice a1 l1 c1) ∧ w'.cell? ⟨w.heap.size, 2, none⟩ = some (.slice a2 l2 c2) ∧ w'.cell? ⟨w.heap.size, 3, none⟩ = some (.bool s2) ∧ w'.cell? ⟨w.heap.size, 4, none⟩ = some (.slice a3 l3 c3) ∧ w'.cell? ⟨w.heap.size, 5, none⟩ = some (.slice a4 l4 c4))
    (first | exact hkeep | exact hkeepX)
    (first
      | (go_at_call_of 212 (Value.agg #[.bool s, .slice a1 l1 c1, .slice a2 l2 c2])
         refine (K1 _ _ (HI.out _ hacc).1).mono ?_
         rintro x w5 ⟨v5, rfl, hv5, hf5, hb5⟩
         obtain ⟨tvx, bvx, rfl, hn5, hd5⟩ := hv5
         have hf5 := Lib.hid (Rt.Fr.open hf5 (HZ.out _ hacc))
         have hacc := Rt.belowT hacc hb5
         have hkeep := HK.out _ hacc)
      | (go_at_call_of 212 (Value.agg #[.bool s2, .slice a3 l3 c3, .slice a4 l4 c4])
         refine (K2 _ _ (HI.out _ hacc).2).mono ?_
         rintro x w6 ⟨v6, rfl, hv6, hf6, hb6⟩
         obtain ⟨tvy, bvy, rfl, hn6, hd6⟩ := hv6
         have hf6 := Lib.hid (Rt.Fr.open hf6 (HZ.out _ hacc))
         have hn := hn5.below hb6 (Nat.le_refl _)
         have hd := hd5.below hb6 (Nat.le_refl _)
         obtain ⟨a5, c5, rfl⟩ := Nt.In.slice hn
         obtain ⟨a6, c6, rfl⟩ := Nt.In.slice hd
         obtain ⟨a7, c7, rfl⟩ := Nt.In.slice hn6
         obtain ⟨a8, c8, rfl⟩ := Nt.In.slice hd6
         have hacc := Rt.belowT hacc hb6
         have hkeep := HK.out _ hacc
         obtain ⟨X1, X2, X3, X4, X5, X6, ⟨f0, z0, s0⟩, ⟨f1, z1, s1'⟩, ⟨f2, z2, s2'⟩, ⟨f3, z3, s3'⟩, ⟨f4, z4, s4'⟩, ⟨f5, z5, s5'⟩, ⟨r0, r1, r2', r3, r4, r5⟩, HX⟩ := Rt.put6 (HR.out _ hacc) (.bool s) (.slice a5 (Nt.dig t).length c5) (.slice a6 (Nt.dig b).length c6) (.bool s2) (.slice a7 (Nt.dig t2).length c7) (.slice a8 (Nt.dig b2).length c8)
         have HOUT : Hid (Rt.Q X6 (.agg #[.bool s, .slice a5 (Nt.dig t).length c5, .slice a6 (Nt.dig b).length c6, .bool s2, .slice a7 (Nt.dig t2).length c7, .slice a8 (Nt.dig b2).length c8]) s t b s2 t2 b2 ∧ Below w.heap.size w X6) := Lib.hid ⟨⟨_, _, _, _, rfl, Nt.In.othr hn (HR.out _ hacc) Rt.noWords6 HX.out.2.2.1 HX.out.2.1, Nt.In.othr hd (HR.out _ hacc) Rt.noWords6 HX.out.2.2.1 HX.out.2.1, Nt.In.othr hn6 (HR.out _ hacc) Rt.noWords6 HX.out.2.2.1 HX.out.2.1, Nt.In.othr hd6 (HR.out _ hacc) Rt.noWords6 HX.out.2.2.1 HX.out.2.1⟩, HX.out.2.2.2 _ _ (HB.out _ hacc) (by omega)⟩
         have hkeepX := HKX.out _ X6 hacc HX.out.2.2.1))
  all_goals
    clear hkeep hkeepX hacc hb5 hb6 hn5 hd5 hn6 hd6 hn hd HX
    generalize (Nt.dig t).length = l5 at *
    generalize (Nt.dig b).length = l6 at *
    generalize (Nt.dig t2).length = l7 at *
    generalize (Nt.dig b2).length = l8 at *
    go_wp2_with fail
    refine bodyPost_ret (v := .agg #[.bool s, .slice a5 l5 c5, .slice a6 l6 c6, .bool s2, .slice a7 l7 c7, .slice a8 l8 c8]) (by simp [results, Tryz.results171, go_sem, r0, r1, r2', r3, r4, r5]) rfl ⟨_, rfl, HOUT.out.1, ⟨_, _, _, _, _, _, rfl, hf5.out.1, hf5.out.2, hf6.out.1, hf6.out.2⟩, HOUT.out.2⟩
end Go.Proofs.YtikmebkfdpbidaaGreatDoor
namespace Go.Proofs.YtikmebkfdpbidaaGreatDoor
open Go.RowKit
set_option linter.unusedVariables false
set_option linter.unusedSimpArgs false

theorem Rt.FrN.mono {B B' : Nat} {v : Value} (h : Rt.FrN B v) (hB : B' ≤ B) : Rt.FrN B' v := by
  obtain ⟨s, tv, bv, s2, tv2, bv2, e, h1, h2, h3, h4⟩ := h
  exact ⟨s, tv, bv, s2, tv2, bv2, e, h1.mono hB, h2.mono hB, h3.mono hB, h4.mono hB⟩
set_option maxHeartbeats 8000000 in
set_option maxRecDepth 1000000 in
theorem Rt.fit_ok (s : Bool) (t b : Nat) (s2 : Bool) (t2 b2 : Nat) (v v2 : Value) (w : World) (h : Rt.R w v s t b) (h2 : Rt.R w v2 s2 t2 b2) (hl : (Nt.dig t).length ≤ 512 ∧ (Nt.dig b).length ≤ 512 ∧ (Nt.dig t2).length ≤ 512 ∧ (Nt.dig b2).length ≤ 512) :
    Calls Tryz.prog 125 #[v, v2] w fun e w' => ∃ v', e = .returned (.tuple #[v', .int .i64 0]) ∧ Rt.Q w' v' s t b s2 t2 b2 ∧ Rt.FrN w.heap.size v' ∧ Below w.heap.size w w' := by
  have KO := fun v w h => Rt.own_any s t b s2 t2 b2 v w h ⟨by omega, by omega, by omega, by omega⟩
  obtain ⟨tv1, bv1, rfl, hn1, hd1⟩ := h
  obtain ⟨tv2, bv2, rfl, hn2, hd2⟩ := h2
  obtain ⟨a1, c1, rfl⟩ := Nt.In.slice hn1
  obtain ⟨a2, c2, rfl⟩ := Nt.In.slice hd1
  obtain ⟨a3, c3, rfl⟩ := Nt.In.slice hn2
  obtain ⟨a4, c4, rfl⟩ := Nt.In.slice hd2
  obtain ⟨g1, g2, g3, g4⟩ := hl
  have HI := Lib.hid (fun (w' : World) (hb : Below w.heap.size w w') => (show Rt.Q w' (.agg #[.bool s, .slice a1 (Nt.dig t).length c1, .slice a2 (Nt.dig b).length c2, .bool s2, .slice a3 (Nt.dig t2).length c3, .slice a4 (Nt.dig b2).length c4]) s t b s2 t2 b2 from ⟨_, _, _, _, rfl, Nt.N.below hn1 hb (Nat.le_refl _), Nt.N.below hd1 hb (Nat.le_refl _), Nt.N.below hn2 hb (Nat.le_refl _), Nt.N.below hd2 hb (Nat.le_refl _)⟩))
  clear hn1 hd1 hn2 hd2
  generalize (Nt.dig t).length = l1 at *
  generalize (Nt.dig b).length = l2 at *
  generalize (Nt.dig t2).length = l3 at *
  generalize (Nt.dig b2).length = l4 at *
  have i1 : (l1 : Int) ≤ 512 := by omega
  have i2 : (l2 : Int) ≤ 512 := by omega
  have i3 : (l3 : Int) ≤ 512 := by omega
  have i4 : (l4 : Int) ≤ 512 := by omega
  obtain ⟨W2, hW2, q0, q1, q2, hsz, hb0⟩ := Rt.three w (.cells #[.bool s, .slice a1 l1 c1, .slice a2 l2 c2] 24) (.cells #[.bool s2, .slice a3 l3 c3, .slice a4 l4 c4] 24) (.cells #[.bool false, .slice none 0 0, .slice none 0 0, .bool false, .slice none 0 0, .slice none 0 0] 26)
  obtain ⟨W3, hW3⟩ : ∃ z, W2.alloc (.cells #[.slice a1 l1 c1, .slice a2 l2 c2, .slice a3 l3 c3, .slice a4 l4 c4] 22) = z := ⟨_, rfl⟩
  have hb3 : Below w.heap.size w W3 := by rw [← hW3]; exact hb0.alloc hb0.size _
  have r0 := Rt.cells3 (show W3.heap[w.heap.size]? = some _ by rw [← hW3]; exact (Lib.alloc_old _ _ _ (by omega)).trans q0)
  have r1 := Rt.cells3 (show W3.heap[w.heap.size + 1]? = some _ by rw [← hW3]; exact (Lib.alloc_old _ _ _ (by omega)).trans q1)
  have r2 : W3.heap[w.heap.size + 2]? = some (.cells #[.bool false, .slice none 0 0, .slice none 0 0, .bool false, .slice none 0 0, .slice none 0 0] 26 (0, 0)) := by rw [← hW3]; exact (Lib.alloc_old _ _ _ (by omega)).trans q2
  have r3 : W3.heap[W2.heap.size]? = some (.cells #[.slice a1 l1 c1, .slice a2 l2 c2, .slice a3 l3 c3, .slice a4 l4 c4] 22 (0, 0)) := by rw [← hW3]; exact heap_alloc_new W2 _
  obtain ⟨k0, k1, k2⟩ := Rt.cells3 q0
  obtain ⟨m0, m1, m2⟩ := Rt.cells3 q1
  have HR2 := Lib.hid r2
  have HB3 := Lib.hid hb3
  have HR0 := Lib.hid r0
  have HR1 := Lib.hid r1
  have e0 : W3.cell? ⟨W2.heap.size, 0, none⟩ = some (.slice a1 l1 c1) := Rt.cell_of r3 0
  have e1 : W3.cell? ⟨W2.heap.size, 1, none⟩ = some (.slice a2 l2 c2) := Rt.cell_of r3 1
  have e2 : W3.cell? ⟨W2.heap.size, 2, none⟩ = some (.slice a3 l3 c3) := Rt.cell_of r3 2
  have e3 : W3.cell? ⟨W2.heap.size, 3, none⟩ = some (.slice a4 l4 c4) := Rt.cell_of r3 3
  clear q0 q1 q2 hb0 hb3 r0 r1 r2 r3 g1 g2 g3 g4 hsz
  go_enter Tryz.func125, Tryz.ntmps125
  go_wp2_with fail
  go_loopw [18] (fun i wr => wr = W3 ∧ ∃ k : Nat, i = .int .i64 k ∧ k ≤ 4) (fun i _ => 4 - (intOf i).toNat)
  case atStart => exact ⟨rfl, 0, rfl, by decide⟩
  case round =>
    obtain ⟨hwr, k, rfl, hk⟩ := hrel
    subst hwr
    rcases (show k = 0 ∨ k = 1 ∨ k = 2 ∨ k = 3 ∨ k = 4 by omega) with rfl | rfl | rfl | rfl | rfl
    case inr.inr.inr.inr =>
      obtain ⟨k0, k1, k2⟩ := HR0.out
      obtain ⟨m0, m1, m2⟩ := HR1.out
      go_wp2_with fail
      refine (KO _ _ (HI.out _ HB3.out)).mono ?_
      rintro x w4 ⟨v4, rfl, hq4, hf4, hb4⟩
      have hr4 : w4.heap[w.heap.size + 1 + 1]? = some (.cells #[.bool false, .slice none 0 0, .slice none 0 0, .bool false, .slice none 0 0, .slice none 0 0] 26 (0, 0)) := (hb4.block (w.heap.size + 1 + 1) ((Array.getElem?_eq_some_iff.1 HR2.out).1)).trans HR2.out
      have hbw4 : Below w.heap.size w w4 := HB3.out.trans (hb4.mono HB3.out.size)
      have HF4 := Lib.hid (hf4.mono HB3.out.size)
      obtain ⟨tvx, bvx, tvy, bvy, rfl, hn5, hd5, hn6, hd6⟩ := hq4
      obtain ⟨a5, c5, rfl⟩ := Nt.In.slice hn5
      obtain ⟨a6, c6, rfl⟩ := Nt.In.slice hd5
      obtain ⟨a7, c7, rfl⟩ := Nt.In.slice hn6
      obtain ⟨a8, c8, rfl⟩ := Nt.In.slice hd6
      obtain ⟨X1, X2, X3, X4, X5, X6, ⟨f0, z0, s0⟩, ⟨f1, z1, s1'⟩, ⟨f2, z2, s2'⟩, ⟨f3, z3, s3'⟩, ⟨f4, z4, s4'⟩, ⟨f5, z5, s5'⟩, ⟨r0, r1, r2', r3, r4, r5⟩, HX⟩ := Rt.put6 hr4 (.bool s) (.slice a5 (Nt.dig t).length c5) (.slice a6 (Nt.dig b).length c6) (.bool s2) (.slice a7 (Nt.dig t2).length c7) (.slice a8 (Nt.dig b2).length c8)
      have HOUT : Hid (Rt.Q X6 (.agg #[.bool s, .slice a5 (Nt.dig t).length c5, .slice a6 (Nt.dig b).length c6, .bool s2, .slice a7 (Nt.dig t2).length c7, .slice a8 (Nt.dig b2).length c8]) s t b s2 t2 b2 ∧ Below w.heap.size w X6) := Lib.hid ⟨⟨_, _, _, _, rfl, Nt.In.othr hn5 hr4 Rt.noWords6 HX.out.2.2.1 HX.out.2.1, Nt.In.othr hd5 hr4 Rt.noWords6 HX.out.2.2.1 HX.out.2.1, Nt.In.othr hn6 hr4 Rt.noWords6 HX.out.2.2.1 HX.out.2.1, Nt.In.othr hd6 hr4 Rt.noWords6 HX.out.2.2.1 HX.out.2.1⟩, HX.out.2.2.2 _ _ hbw4 (by omega)⟩
      clear hf4 hb4 hbw4 hr4 hn5 hd5 hn6 hd6 HX
      generalize (Nt.dig t).length = l5 at *
      generalize (Nt.dig b).length = l6 at *
      generalize (Nt.dig t2).length = l7 at *
      generalize (Nt.dig b2).length = l8 at *
      go_wp2_with fail
      refine bodyPost_ret (v := .tuple #[.agg #[.bool s, .slice a5 l5 c5, .slice a6 l6 c6, .bool s2, .slice a7 l7 c7, .slice a8 l8 c8], .int .i64 0]) (by simp [results, Tryz.results125, go_sem, r0, r1, r2', r3, r4, r5]) rfl ⟨_, rfl, HOUT.out.1, HF4.out, HOUT.out.2⟩
    all_goals
      go_wp2_with fail
      go_roundw
      case rel => exact ⟨by first | rfl | trivial, _, by first | rfl | go_num, by decide⟩
      case measure => simp [intOf]
end Go.Proofs.YtikmebkfdpbidaaGreatDoor
namespace Go.Proofs.YtikmebkfdpbidaaGreatDoor
open Go.RowKit
set_option linter.unusedVariables false
set_option linter.unusedSimpArgs false

theorem Rt.cells12 {w : World} {b : Nat} {v0 v1 v2 v3 v4 v5 u0 u1 u2 u3 u4 u5 : Value} {t : TypeId} (h : w.heap[b]? = some (.cells #[v0, v1, v2, v3, v4, v5, u0, u1, u2, u3, u4, u5] t (0, 0))) :
    (w.cell? ⟨b, 0, none⟩ = some v0 ∧ w.cell? ⟨b, 1, none⟩ = some v1 ∧ w.cell? ⟨b, 2, none⟩ = some v2 ∧ w.cell? ⟨b, 3, none⟩ = some v3 ∧ w.cell? ⟨b, 4, none⟩ = some v4 ∧ w.cell? ⟨b, 5, none⟩ = some v5) ∧ (w.cell? ⟨b, 6, none⟩ = some u0 ∧ w.cell? ⟨b, 7, none⟩ = some u1 ∧ w.cell? ⟨b, 8, none⟩ = some u2 ∧ w.cell? ⟨b, 9, none⟩ = some u3 ∧ w.cell? ⟨b, 10, none⟩ = some u4 ∧ w.cell? ⟨b, 11, none⟩ = some u5) :=
  ⟨⟨Rt.cell_of h 0, Rt.cell_of h 1, Rt.cell_of h 2, Rt.cell_of h 3, Rt.cell_of h 4, Rt.cell_of h 5⟩, ⟨Rt.cell_of h 6, Rt.cell_of h 7, Rt.cell_of h 8, Rt.cell_of h 9, Rt.cell_of h 10, Rt.cell_of h 11⟩⟩
/-- Sound, whatever world the number is met in behind w. -/
def Rt.SoundAt (w : World) (v : Value) : Prop := ∀ w', Below w.heap.size w w' → Calls Tryz.prog 118 #[v] w' fun e w'' => e = .returned (.bool true) ∧ Below w'.heap.size w' w''
theorem Rt.SoundAt.of {w : World} {v : Value} {s s2 : Bool} {t b t2 b2 : List Nat} (h : Rt.GN w v s t b s2 t2 b2) (hs : Rt.soundN s t b s2 t2 b2 = true) : Rt.SoundAt w v := fun w' hb => by
  have := Rt.Sound_any s t b s2 t2 b2 v w' (h.below hb (Nat.le_refl _))
  rwa [hs] at this
set_option maxHeartbeats 8000000 in
set_option maxRecDepth 1000000 in
theorem Rt.check2 (s1 s2 s3 s4 : Bool) (a1 a2 a3 a4 a5 a6 a7 a8 : Option Addr) (l1 l2 l3 l4 l5 l6 l7 l8 c1 c2 c3 c4 c5 c6 c7 c8 B : Nat) (w : World) (h : w.heap[B]? = some (.cells #[.bool s1, .slice a1 l1 c1, .slice a2 l2 c2, .bool s2, .slice a3 l3 c3, .slice a4 l4 c4, .bool s3, .slice a5 l5 c5, .slice a6 l6 c6, .bool s4, .slice a7 l7 c7, .slice a8 l8 c8] 26 (0, 0)))
    (K1 : Rt.SoundAt w (.agg #[.bool s1, .slice a1 l1 c1, .slice a2 l2 c2, .bool s2, .slice a3 l3 c3, .slice a4 l4 c4])) (K2 : Rt.SoundAt w (.agg #[.bool s3, .slice a5 l5 c5, .slice a6 l6 c6, .bool s4, .slice a7 l7 c7, .slice a8 l8 c8])) :
    Calls Tryz.prog 119 #[.bool false, .slice (some ⟨B, 0, none⟩) 2 2] w fun e w' => e = .returned (.int .i64 0) ∧ Below w.heap.size w w' := by
  have hlt := (Array.getElem?_eq_some_iff.1 h).1
  have HC := Lib.hid (fun (w' : World) (hb : Below w.heap.size w w') => Rt.cells12 ((hb.block B hlt).trans h))
  have HK1 := Lib.hid K1
  have HK2 := Lib.hid K2
  clear h K1 K2
  go_enter Tryz.func119, Tryz.ntmps119
  go_wp2_with fail
  go_loopw [11] (fun i wr => Below w.heap.size w wr ∧ ∃ k : Nat, i = .int .i64 k ∧ k ≤ 2) (fun i _ => 2 - (intOf i).toNat)
  case atStart => exact ⟨Below.refl _ _, 0, rfl, by decide⟩
  case round =>
    obtain ⟨hbw, k, rfl, hk⟩ := hrel
    obtain ⟨wo, hwo⟩ : ∃ z, z = wr := ⟨_, rfl⟩
    subst hwo
    have HBW := Lib.hid hbw
    have HA : Hid (∀ o, Below w.heap.size w (wo.alloc o)) := Lib.hid (fun o => hbw.alloc hbw.size o)
    obtain ⟨⟨d0, d1, d2, d3, d4, d5⟩, d6, d7, d8, d9, d10, d11⟩ := HC.out _ hbw
    clear hbw
    rcases (show k = 0 ∨ k = 1 ∨ k = 2 by omega) with rfl | rfl | rfl
    · go_wp2_with fail
      refine (HK1.out _ (HA.out _)).mono ?_
      rintro x w1 ⟨rfl, hb1⟩
      have HB1 := Lib.hid ((HA.out _).trans (hb1.mono (HA.out _).size))
      clear hb1
      go_wp2_with fail
      go_roundw
      case rel => exact ⟨HB1.out, _, by first | rfl | go_num, by decide⟩
      case measure => simp [intOf]
    · go_wp2_with fail
      refine (HK2.out _ (HA.out _)).mono ?_
      rintro x w1 ⟨rfl, hb1⟩
      have HB1 := Lib.hid ((HA.out _).trans (hb1.mono (HA.out _).size))
      clear hb1
      go_wp2_with fail
      go_roundw
      case rel => exact ⟨HB1.out, _, by first | rfl | go_num, by decide⟩
      case measure => simp [intOf]
    · clear HA
      go_wp2_with fail
      go_loopw [21] (fun i wr => Below w.heap.size w wr ∧ ∃ k : Nat, i = .int .i64 k ∧ k ≤ 2) (fun i _ => 2 - (intOf i).toNat)
      case atStart => exact ⟨HBW.out, 0, rfl, by decide⟩
      case round =>
        obtain ⟨hbw, k, rfl, hk⟩ := hrel
        obtain ⟨wi, hwi⟩ : ∃ z, z = wr := ⟨_, rfl⟩
        subst hwi
        have HBW := Lib.hid hbw
        have HA : Hid (∀ o, Below w.heap.size w (wi.alloc o)) := Lib.hid (fun o => hbw.alloc hbw.size o)
        clear d0 d1 d2 d3 d4 d5 d6 d7 d8 d9 d10 d11
        obtain ⟨⟨d0, d1, d2, d3, d4, d5⟩, d6, d7, d8, d9, d10, d11⟩ := HC.out _ hbw
        clear hbw
        rcases (show k = 0 ∨ k = 1 ∨ k = 2 by omega) with rfl | rfl | rfl
        · go_wp2_with fail
          go_roundw
          case rel => exact ⟨HA.out _, _, by first | rfl | go_num, by decide⟩
          case measure => simp [intOf]
        · go_wp2_with fail
          go_roundw
          case rel => exact ⟨HA.out _, _, by first | rfl | go_num, by decide⟩
          case measure => simp [intOf]
        · go_wp2_with fail
          go_ret
          exact ⟨rfl, HBW.out⟩
end Go.Proofs.YtikmebkfdpbidaaGreatDoor
namespace Go.Proofs.YtikmebkfdpbidaaGreatDoor
open Go.RowKit
set_option linter.unusedVariables false
set_option linter.unusedSimpArgs false

theorem Rt.belowD2 {B : Nat} {w0 w : World} (h : Below B w0 w) : Below B w0 w.drew := h.drew
def Rt.L4 (t1 b1 t2 b2 : Nat) : Prop := (Nt.dig t1).length ≤ 400000 ∧ (Nt.dig b1).length ≤ 400000 ∧ (Nt.dig t2).length ≤ 400000 ∧ (Nt.dig b2).length ≤ 400000
set_option maxHeartbeats 8000000 in
set_option maxRecDepth 1000000 in
theorem Rt.Add_ok (s1 s2 s3 s4 : Bool) (t1 b1 t2 b2 t3 b3 t4 b4 : Nat) (v v2 : Value) (w : World) (h : Rt.Q w v s1 t1 b1 s2 t2 b2) (h2 : Rt.Q w v2 s3 t3 b3 s4 t4 b4) (K1 : Rt.SoundAt w v) (K2 : Rt.SoundAt w v2)
    (R1 R2 : Bool × Nat × Nat) (hR1 : Rt.sumS s1 t1 b1 s3 t3 b3 = R1) (hR2 : Rt.sumS s2 t2 b2 s4 t4 b4 = R2) (p1 : 0 < b1) (p2 : 0 < b2) (p3 : 0 < b3) (p4 : 0 < b4) (hl1 : Rt.L4 t1 b1 t3 b3) (hl2 : Rt.L4 t2 b2 t4 b4) (hok1 : Nt.Ok (t1 * b3 + t3 * b1) (b1 * b3)) (hok2 : Nt.Ok (t2 * b4 + t4 * b2) (b2 * b4))
    (hl : (Nt.dig R1.2.1).length ≤ 512 ∧ (Nt.dig R1.2.2).length ≤ 512 ∧ (Nt.dig R2.2.1).length ≤ 512 ∧ (Nt.dig R2.2.2).length ≤ 512) :
    Calls Tryz.prog 80 #[v, v2] w fun e w' => ∃ v', e = .returned (.tuple #[v', .int .i64 0]) ∧ Rt.Q w' v' R1.1 R1.2.1 R1.2.2 R2.1 R2.2.1 R2.2.2 ∧ Rt.FrN w.heap.size v' ∧ Below w.heap.size w w' := by
  have KS1 := fun v v2 w h h2 => Rt.sum_any s1 s3 t1 b1 t3 b3 v v2 w h h2 p1 p3 hl1 hok1
  have KS2 := fun v v2 w h h2 => Rt.sum_any s2 s4 t2 b2 t4 b4 v v2 w h h2 p2 p4 hl2 hok2
  rw [hR1] at KS1
  rw [hR2] at KS2
  obtain ⟨r1, x1, y1⟩ := R1
  obtain ⟨r2, x2, y2⟩ := R2
  simp only at KS1 KS2 hl ⊢
  have KF := fun v v2 w h h2 => Rt.fit_ok r1 x1 y1 r2 x2 y2 v v2 w h h2 hl
  clear hR1 hR2 p1 p2 p3 p4 hl1 hl2 hok1 hok2 hl
  obtain ⟨tv1, bv1, tv2, bv2, rfl, hn1, hd1, hn2, hd2⟩ := h
  obtain ⟨tv3, bv3, tv4, bv4, rfl, hn3, hd3, hn4, hd4⟩ := h2
  obtain ⟨a1, c1, rfl⟩ := Nt.In.slice hn1
  obtain ⟨a2, c2, rfl⟩ := Nt.In.slice hd1
  obtain ⟨a3, c3, rfl⟩ := Nt.In.slice hn2
  obtain ⟨a4, c4, rfl⟩ := Nt.In.slice hd2
  obtain ⟨a5, c5, rfl⟩ := Nt.In.slice hn3
  obtain ⟨a6, c6, rfl⟩ := Nt.In.slice hd3
  obtain ⟨a7, c7, rfl⟩ := Nt.In.slice hn4
  obtain ⟨a8, c8, rfl⟩ := Nt.In.slice hd4
  generalize (Nt.dig t1).length = l1 at *
  generalize (Nt.dig b1).length = l2 at *
  generalize (Nt.dig t2).length = l3 at *
  generalize (Nt.dig b2).length = l4 at *
  generalize (Nt.dig t3).length = l5 at *
  generalize (Nt.dig b3).length = l6 at *
  generalize (Nt.dig t4).length = l7 at *
  generalize (Nt.dig b4).length = l8 at *
  obtain ⟨W2, hW2, q0, q1, q2, hsz, hb0⟩ := Rt.three w (.cells #[.bool s1, .slice a1 l1 c1, .slice a2 l2 c2, .bool s2, .slice a3 l3 c3, .slice a4 l4 c4] 26) (.cells #[.bool s3, .slice a5 l5 c5, .slice a6 l6 c6, .bool s4, .slice a7 l7 c7, .slice a8 l8 c8] 26) (.cells #[.bool false, .slice none 0 0, .slice none 0 0, .bool false, .slice none 0 0, .slice none 0 0] 26)
  obtain ⟨W3, hW3⟩ : ∃ z, W2.alloc (.cells #[.bool s1, .slice a1 l1 c1, .slice a2 l2 c2, .bool s2, .slice a3 l3 c3, .slice a4 l4 c4, .bool s3, .slice a5 l5 c5, .slice a6 l6 c6, .bool s4, .slice a7 l7 c7, .slice a8 l8 c8] 26) = z := ⟨_, rfl⟩
  have hb3 : Below w.heap.size w W3 := by rw [← hW3]; exact hb0.alloc hb0.size _
  have hz3 : W2.heap.size < W3.heap.size := by rw [← hW3]; simp
  have hq3 : W3.heap[W2.heap.size]? = some (.cells #[.bool s1, .slice a1 l1 c1, .slice a2 l2 c2, .bool s2, .slice a3 l3 c3, .slice a4 l4 c4, .bool s3, .slice a5 l5 c5, .slice a6 l6 c6, .bool s4, .slice a7 l7 c7, .slice a8 l8 c8] 26 (0, 0)) := by rw [← hW3]; exact heap_alloc_new W2 _
  have KC := Rt.check2 s1 s2 s3 s4 a1 a2 a3 a4 a5 a6 a7 a8 l1 l2 l3 l4 l5 l6 l7 l8 c1 c2 c3 c4 c5 c6 c7 c8 W2.heap.size W3 hq3 (fun w' hb => K1 w' (hb3.trans (hb.mono hb3.size))) (fun w' hb => K2 w' (hb3.trans (hb.mono hb3.size)))
  have HK := Lib.hid (fun (w' : World) (hb : Below W2.heap.size W2 w') => And.intro (Rt.cells6 ((hb.block w.heap.size (by omega)).trans q0)) (Rt.cells6 ((hb.block (w.heap.size + 1) (by omega)).trans q1)))
  have HR := Lib.hid (fun (w' : World) (hb : Below W2.heap.size W2 w') => (hb.block (w.heap.size + 1 + 1) (by omega)).trans q2)
  have HKX := Lib.hid (fun (w' w'' : World) (hb : Below W2.heap.size W2 w') (hx : ∀ q, q ≠ w.heap.size + 1 + 1 → w''.heap[q]? = w'.heap[q]?) => And.intro (Rt.cells6 ((hx w.heap.size (by omega)).trans ((hb.block w.heap.size (by omega)).trans q0))) (Rt.cells6 ((hx (w.heap.size + 1) (by omega)).trans ((hb.block (w.heap.size + 1) (by omega)).trans q1))))
  have HB := Lib.hid (fun (w' : World) (hb : Below W2.heap.size W2 w') => hb0.trans (hb.mono (by omega : w.heap.size ≤ W2.heap.size)))
  have HI := Lib.hid (fun (w' : World) (hb : Below w.heap.size w w') => And.intro (And.intro (show Rt.R w' (.agg #[.bool s1, .slice a1 l1 c1, .slice a2 l2 c2]) s1 t1 b1 from ⟨_, _, rfl, Nt.N.below hn1 hb (Nat.le_refl _), Nt.N.below hd1 hb (Nat.le_refl _)⟩) (show Rt.R w' (.agg #[.bool s3, .slice a5 l5 c5, .slice a6 l6 c6]) s3 t3 b3 from ⟨_, _, rfl, Nt.N.below hn3 hb (Nat.le_refl _), Nt.N.below hd3 hb (Nat.le_refl _)⟩)) (And.intro (show Rt.R w' (.agg #[.bool s2, .slice a3 l3 c3, .slice a4 l4 c4]) s2 t2 b2 from ⟨_, _, rfl, Nt.N.below hn2 hb (Nat.le_refl _), Nt.N.below hd2 hb (Nat.le_refl _)⟩) (show Rt.R w' (.agg #[.bool s4, .slice a7 l7 c7, .slice a8 l8 c8]) s4 t4 b4 from ⟨_, _, rfl, Nt.N.below hn4 hb (Nat.le_refl _), Nt.N.below hd4 hb (Nat.le_refl _)⟩)))
  have HZ : Hid (∀ w', Below W2.heap.size W2 w' → w.heap.size ≤ w'.heap.size) := Lib.hid (fun w' hb => by have := hb.size; omega)
  have hb23 : Below W2.heap.size W2 W3 := by rw [← hW3]; exact (Below.refl _ _).alloc (Nat.le_refl _) _
  have HB23 := Lib.hid hb23
  obtain ⟨⟨e0, e1, e2, e3, e4, e5⟩, f0, f1, f2, f3, f4, f5⟩ := HK.out _ (Below.refl _ _)
  clear q0 q1 q2 hb0 hb3 hn1 hd1 hn2 hd2 hn3 hd3 hn4 hd4 hsz hz3 hq3 K1 K2 hb23
  go_enter Tryz.func80, Tryz.ntmps80
  go_wp2_with fail
  refine KC.mono ?_
  rintro x w4 ⟨rfl, hb4⟩
  clear e0 e1 e2 e3 e4 e5 f0 f1 f2 f3 f4 f5 hW2 hW3
  have hacc := HB23.out.trans (hb4.mono HB23.out.size)
  clear hb4 KC
  have HACC := Lib.hid hacc
  clear hacc
  go_wp2_with fail
  have hacc : Below W2.heap.size W2 w4.drew := Rt.belowD2 HACC.out
  have hkeep := HK.out _ hacc
  go_region_held3 (fun w' => (w'.cell? ⟨w.heap.size, 0, none⟩ = some (.bool s1) ∧ w'.cell? ⟨w.heap.size, 1, none⟩ = some (.slice a1 l1 c1) ∧ w'.cell? ⟨w.heap.size, 2, none⟩ = some (.slice a2 l2 c2) ∧ w'.cell? ⟨w.heap.size, 3, none⟩ = some (.bool s2) ∧ w'.cell? ⟨w.heap.size, 4, none⟩ = some (.slice a3 l3 c3) ∧ w'.cell? ⟨w.heap.size, 5, none⟩ = some (.slice a4 l4 c4)) ∧ (w'.cell? ⟨w.heap.size + 1, 0, none⟩ = some (.bool s3) ∧ w'.cell? ⟨w.heap.size + 1, 1, none⟩ = some (.slice a5 l5 c5) ∧ w'.cell? ⟨w.heap.size + 1, 2, none⟩ = some (.slice a6 l6 c6) ∧ w'.cell? ⟨w.heap.size + 1, 3, none⟩ = some (.bool s4) ∧ w'.cell? ⟨w.heap.size + 1, 4, none⟩ = some (.slice a7 l7 c7) ∧ w'.cell? ⟨w.heap.size + 1, 5, none⟩ = some (.slice a8 l8 c8)))
    (first | exact hkeep | exact hkeepX)
    (first
      | (go_at_call_of 123 a1
         refine (KS1 _ _ _ (HI.out _ (HB.out _ hacc)).1.1 (HI.out _ (HB.out _ hacc)).1.2).mono ?_
         rintro x w5 ⟨v5, rfl, hv5, hb5⟩
         have hacc := hacc.trans (hb5.mono hacc.size)
         have hkeep := HK.out _ hacc)
      | (go_at_call_of 123 a3
         refine (KS2 _ _ _ (HI.out _ (HB.out _ hacc)).2.1 (HI.out _ (HB.out _ hacc)).2.2).mono ?_
         rintro x w6 ⟨v6, rfl, hv6, hb6⟩
         have hv5 := Rt.R.below hv5 hb6 (Nat.le_refl _)
         have hacc := hacc.trans (hb6.mono hacc.size)
         have hkeep := HK.out _ hacc)
      | (go_at_call 125
         refine (KF _ _ _ hv5 hv6).mono ?_
         rintro x w7 ⟨v7, rfl, hv7, hf7, hb7⟩
         have hf7 := Lib.hid (hf7.mono (HZ.out _ hacc))
         have hacc := hacc.trans (hb7.mono hacc.size)
         have hkeep := HK.out _ hacc
         obtain ⟨tvx, bvx, tvy, bvy, rfl, hn5, hd5, hn6, hd6⟩ := hv7
         obtain ⟨a9, c9, rfl⟩ := Nt.In.slice hn5
         obtain ⟨a10, c10, rfl⟩ := Nt.In.slice hd5
         obtain ⟨a11, c11, rfl⟩ := Nt.In.slice hn6
         obtain ⟨a12, c12, rfl⟩ := Nt.In.slice hd6
         obtain ⟨X1, X2, X3, X4, X5, X6, ⟨f0, z0, s0⟩, ⟨f1, z1, s1'⟩, ⟨f2, z2, s2'⟩, ⟨f3, z3, s3'⟩, ⟨f4, z4, s4'⟩, ⟨f5, z5, s5'⟩, ⟨r0, r1', r2', r3, r4, r5⟩, HX⟩ := Rt.put6 (HR.out _ hacc) (.bool r1) (.slice a9 (Nt.dig x1).length c9) (.slice a10 (Nt.dig y1).length c10) (.bool r2) (.slice a11 (Nt.dig x2).length c11) (.slice a12 (Nt.dig y2).length c12)
         have HOUT : Hid (Rt.Q X6 (.agg #[.bool r1, .slice a9 (Nt.dig x1).length c9, .slice a10 (Nt.dig y1).length c10, .bool r2, .slice a11 (Nt.dig x2).length c11, .slice a12 (Nt.dig y2).length c12]) r1 x1 y1 r2 x2 y2 ∧ Below w.heap.size w X6) := Lib.hid ⟨⟨_, _, _, _, rfl, Nt.In.othr hn5 (HR.out _ hacc) Rt.noWords6 HX.out.2.2.1 HX.out.2.1, Nt.In.othr hd5 (HR.out _ hacc) Rt.noWords6 HX.out.2.2.1 HX.out.2.1, Nt.In.othr hn6 (HR.out _ hacc) Rt.noWords6 HX.out.2.2.1 HX.out.2.1, Nt.In.othr hd6 (HR.out _ hacc) Rt.noWords6 HX.out.2.2.1 HX.out.2.1⟩, HX.out.2.2.2 _ _ (HB.out _ hacc) (by omega)⟩
         have hkeepX := HKX.out _ X6 hacc HX.out.2.2.1))
  all_goals
    clear hkeep hkeepX hacc hb5 hb6 hb7 hn5 hd5 hn6 hd6 HX hv5 hv6
    generalize (Nt.dig x1).length = m1 at *
    generalize (Nt.dig y1).length = m2 at *
    generalize (Nt.dig x2).length = m3 at *
    generalize (Nt.dig y2).length = m4 at *
    go_wp2_with fail
    refine bodyPost_ret (v := .tuple #[.agg #[.bool r1, .slice a9 m1 c9, .slice a10 m2 c10, .bool r2, .slice a11 m3 c11, .slice a12 m4 c12], .int .i64 0]) (by simp [results, Tryz.results80, go_sem, r0, r1', r2', r3, r4, r5]) rfl ⟨_, rfl, HOUT.out.1, hf7.out, HOUT.out.2⟩
end Go.Proofs.YtikmebkfdpbidaaGreatDoor
namespace Go.Proofs.YtikmebkfdpbidaaGreatDoor
open Go.RowKit
set_option linter.unusedVariables false
set_option linter.unusedSimpArgs false

/-- What a sound number is, in plain Lean. -/
structure Rt.Snd (s : Bool) (t b : Nat) : Prop where
  l1 : (Nt.dig t).length ≤ 512
  l2 : (Nt.dig b).length ≤ 512
  pos : 0 < b
  cop : Nat.gcd t b = 1
  sgn : t = 0 → s = false
theorem Rt.Snd.sound {s : Bool} {t b : Nat} (h : Rt.Snd s t b) : Rt.sound s (Nt.dig t) (Nt.dig b) = true := by
  unfold Rt.sound
  rw [Nt.sound_dig, Nt.sound_dig, Nt.val_dig, Nt.val_dig]
  have hb := Nt.dig_len_pos.2 h.pos
  have h1 := h.l1
  have h2 := h.l2
  have h3 := h.cop
  have h4 : (!(decide ((Nt.dig t).length = 0) && s)) = true := by
    rcases Nat.eq_zero_or_pos t with h0 | h0
    · rw [h.sgn h0]; simp
    · have := Nt.dig_len_pos.2 h0
      have h5 : ¬ (Nt.dig t).length = 0 := by omega
      simp [h5]
  have h5 : ¬ (Nt.dig b).length = 0 := by omega
  rw [h4]
  simp [h1, h2, h3, h5]
/-- Words that make a sound fraction are those of its numbers. -/
theorem Rt.Snd.of {s : Bool} {t b : List Nat} (h1 : Nt.Wd t) (h2 : Nt.Wd b) (h : Rt.sound s t b = true) : t = Nt.dig (Nt.val t) ∧ b = Nt.dig (Nt.val b) ∧ Rt.Snd s (Nt.val t) (Nt.val b) := by
  unfold Rt.sound at h
  simp only [Bool.and_eq_true, decide_eq_true_eq] at h
  obtain ⟨⟨⟨⟨a1, a2⟩, a3⟩, a4⟩, a5⟩ := h
  obtain ⟨et, lt⟩ := Nt.sound_eq h1 a1
  obtain ⟨eb, lb⟩ := Nt.sound_eq h2 a2
  refine ⟨et, eb, by rw [← et]; exact lt, by rw [← eb]; exact lb, ?_, a5, fun h0 => ?_⟩
  · rcases Nat.eq_zero_or_pos (Nt.val b) with h0 | h0
    · rw [h0, Nt.dig_zero] at eb
      rw [eb] at a3
      exact absurd rfl a3
    · exact h0
  · rw [h0, Nt.dig_zero] at et
    rw [et] at a4
    simpa using a4
theorem Rt.GN.of_Q {w : World} {v : Value} {s s2 : Bool} {t b t2 b2 : Nat} (h : Rt.Q w v s t b s2 t2 b2) (h1 : Rt.Snd s t b) (h2 : Rt.Snd s2 t2 b2) : Rt.GN w v s (Nt.dig t) (Nt.dig b) s2 (Nt.dig t2) (Nt.dig b2) := by
  obtain ⟨tv1, bv1, tv2, bv2, e, hn1, hd1, hn2, hd2⟩ := h
  exact ⟨⟨tv1, bv1, tv2, bv2, e, hn1, hd1, hn2, hd2⟩, ⟨Nt.dig_wd _, Nt.dig_wd _, Nat.le_trans h1.l1 (by decide), Nat.le_trans h1.l2 (by decide)⟩, ⟨Nt.dig_wd _, Nt.dig_wd _, Nat.le_trans h2.l1 (by decide), Nat.le_trans h2.l2 (by decide)⟩⟩
theorem Rt.SoundAt.of_Q {w : World} {v : Value} {s s2 : Bool} {t b t2 b2 : Nat} (h : Rt.Q w v s t b s2 t2 b2) (h1 : Rt.Snd s t b) (h2 : Rt.Snd s2 t2 b2) : Rt.SoundAt w v :=
  Rt.SoundAt.of (Rt.GN.of_Q h h1 h2) (by unfold Rt.soundN; rw [h1.sound, h2.sound]; rfl)
theorem Rt.ratS_snd {s : Bool} {t b : Nat} (h : Rt.Snd s t b) : Rt.ratS s t b = (s, t, b) := by
  unfold Rt.ratS
  rw [h.cop, Nat.div_one, Nat.div_one]
  rcases Nat.eq_zero_or_pos t with h0 | h0
  · rw [h.sgn h0]; simp
  · simp [h0]
theorem Rt.sum_nought {s : Bool} {t b : Nat} (h : Rt.Snd s t b) : Rt.sumS s t b false 0 1 = (s, t, b) := by
  unfold Rt.sumS
  rw [Nat.mul_one, Nat.zero_mul, Nat.mul_one]
  split
  · rw [Nat.add_zero]; exact Rt.ratS_snd h
  · rw [if_pos (Nat.zero_le _), Nat.sub_zero]; exact Rt.ratS_snd h
theorem Rt.Snd.nought : Rt.Snd false 0 1 := ⟨by rw [Nt.dig_zero]; decide, by rw [Nt.dig_small (by decide) (by decide)]; decide, by decide, by decide, fun _ => rfl⟩
/-- The numbers of 64 bits. -/
theorem Rt.Snd.int {s : Bool} {t : Nat} (ht : t < 18446744073709551616) (hs : t = 0 → s = false) : Rt.Snd s t 1 := by
  refine ⟨?_, by rw [Nt.dig_small (by decide) (by decide)]; decide, by decide, Nat.gcd_one_right t, hs⟩
  rcases Nat.lt_or_ge (Nt.dig t).length 513 with h | h
  · omega
  · exfalso
    rcases Nat.eq_zero_or_pos t with h0 | h0
    · rw [h0, Nt.dig_zero] at h; simp at h
    · have h1 := Nt.dig_pow_le h0
      have h2 : 4294967296 ^ 2 ≤ 4294967296 ^ ((Nt.dig t).length - 1) := Nat.pow_le_pow_right (by decide) (by omega)
      omega
set_option maxHeartbeats 8000000 in
set_option maxRecDepth 1000000 in
theorem Rt.Int_any (n : Int) (w : World) (h0 : -9223372036854775808 ≤ n) (h1 : n ≤ 9223372036854775807) :
    Calls Tryz.prog 19 #[.int .i64 n] w fun e w' => ∃ v', e = .returned v' ∧ Rt.Q w' v' (decide (n < 0)) n.natAbs 1 false 0 1 ∧ Below w.heap.size w w' := by
  have KO := fun w => Nt.Of_any n.natAbs w (by omega)
  have KW := fun v w h => Rt.whole_any (decide (n < 0)) n.natAbs v w h (by have := (Rt.Snd.int (s := false) (t := n.natAbs) (by omega) (fun _ => rfl)).l1; omega)
  have KZ := fun w => Rt.whole_any false 0 (.slice none 0 0) w (Nt.N.zero w) (by rw [Nt.dig_zero]; decide)
  have hsg : (decide (n < 0) && decide (0 < n.natAbs)) = decide (n < 0) := by
    by_cases h : n < 0
    · simp [h]; omega
    · simp [h]
  rw [hsg] at KW
  obtain ⟨m, hm⟩ : ∃ m, n.natAbs = m := ⟨_, rfl⟩
  rw [hm] at KO KW ⊢
  obtain ⟨W, hW⟩ : ∃ z, w.alloc (.cells #[.bool false, .slice none 0 0, .slice none 0 0, .bool false, .slice none 0 0, .slice none 0 0] 26) = z := ⟨_, rfl⟩
  have q0 : W.heap[w.heap.size]? = some (.cells #[.bool false, .slice none 0 0, .slice none 0 0, .bool false, .slice none 0 0, .slice none 0 0] 26 (0, 0)) := by rw [← hW]; exact heap_alloc_new w _
  have hb0 : Below w.heap.size w W := by rw [← hW]; exact (Below.refl _ _).alloc (Nat.le_refl _) _
  have HB0 := Lib.hid hb0
  have HQ0 := Lib.hid q0
  clear hb0 q0 hsg
  by_cases hn : n < 0
  · have hu : IntKind.u64.wrap n = 18446744073709551616 - (m : Int) := by rw [IntKind.wrap_u64]; omega
    have hu2 : IntKind.u64.wrap (-(18446744073709551616 - (m : Int))) = (m : Int) := by rw [IntKind.wrap_u64]; omega
    have hd : decide (n < 0) = true := decide_eq_true hn
    rw [hd] at KW ⊢
    clear hm hd
    go_enter Tryz.func19, Tryz.ntmps19
    go_wp2_with fail
    refine (KO _).mono ?_
    rintro x w1 ⟨v1, rfl, hn1, hb1⟩
    have HN1 := Lib.hid hn1
    have HB1 := Lib.hid (HB0.out.trans (hb1.mono HB0.out.size))
    have HQ1 := Lib.hid ((hb1.block w.heap.size (Array.getElem?_eq_some_iff.1 HQ0.out).1).trans HQ0.out)
    clear hn1 hb1 hW
    go_wp2_with fail
    refine (KW _ _ HN1.out).mono ?_
    rintro x w2 ⟨v2, rfl, hr2, hb2⟩
    have HR2 := Lib.hid hr2
    have HB2 := Lib.hid (HB1.out.trans (hb2.mono HB1.out.size))
    have HQ2 := Lib.hid ((hb2.block w.heap.size (Array.getElem?_eq_some_iff.1 HQ1.out).1).trans HQ1.out)
    clear hr2 hb2
    go_wp2_with fail
    refine (KZ _).mono ?_
    rintro x w3 ⟨v3, rfl, hr3, hb3⟩
    obtain ⟨tvx, bvx, rfl, hn5, hd5⟩ := Rt.R.below HR2.out hb3 (Nat.le_refl _)
    obtain ⟨tvy, bvy, rfl, hn6, hd6⟩ := hr3
    have hb3w := HB2.out.trans (hb3.mono HB2.out.size)
    have hq3 := (hb3.block w.heap.size (Array.getElem?_eq_some_iff.1 HQ2.out).1).trans HQ2.out
    obtain ⟨a9, c9, rfl⟩ := Nt.In.slice hn5
    obtain ⟨a10, c10, rfl⟩ := Nt.In.slice hd5
    obtain ⟨a11, c11, rfl⟩ := Nt.In.slice hn6
    obtain ⟨a12, c12, rfl⟩ := Nt.In.slice hd6
    obtain ⟨X1, X2, X3, X4, X5, X6, ⟨f0, z0, s0⟩, ⟨f1, z1, s1'⟩, ⟨f2, z2, s2'⟩, ⟨f3, z3, s3'⟩, ⟨f4, z4, s4'⟩, ⟨f5, z5, s5'⟩, ⟨r0, r1', r2', r3, r4, r5⟩, HX⟩ := Rt.put6 hq3 (.bool true) (.slice a9 (Nt.dig m).length c9) (.slice a10 (Nt.dig 1).length c10) (.bool false) (.slice a11 (Nt.dig 0).length c11) (.slice a12 (Nt.dig 1).length c12)
    have HOUT : Hid (Rt.Q X6 (.agg #[.bool true, .slice a9 (Nt.dig m).length c9, .slice a10 (Nt.dig 1).length c10, .bool false, .slice a11 (Nt.dig 0).length c11, .slice a12 (Nt.dig 1).length c12]) true m 1 false 0 1 ∧ Below w.heap.size w X6) := Lib.hid ⟨⟨_, _, _, _, rfl, Nt.In.othr hn5 hq3 Rt.noWords6 HX.out.2.2.1 HX.out.2.1, Nt.In.othr hd5 hq3 Rt.noWords6 HX.out.2.2.1 HX.out.2.1, Nt.In.othr hn6 hq3 Rt.noWords6 HX.out.2.2.1 HX.out.2.1, Nt.In.othr hd6 hq3 Rt.noWords6 HX.out.2.2.1 HX.out.2.1⟩, HX.out.2.2.2 _ _ hb3w (Nat.le_refl _)⟩
    clear hn5 hd5 hn6 hd6 hb3w hq3 HX hb3
    generalize (Nt.dig m).length = m1 at *
    generalize (Nt.dig 1).length = m2 at *
    generalize (Nt.dig 0).length = m3 at *
    go_wp2_with fail
    refine bodyPost_ret (v := .agg #[.bool true, .slice a9 m1 c9, .slice a10 m2 c10, .bool false, .slice a11 m3 c11, .slice a12 m2 c12]) (by simp [results, Tryz.results19, go_sem, r0, r1', r2', r3, r4, r5]) rfl ⟨_, rfl, HOUT.out.1, HOUT.out.2⟩
  · have hu : IntKind.u64.wrap n = (m : Int) := by rw [IntKind.wrap_u64]; omega
    have hu3 : n = (m : Int) := by omega
    have hd : decide (n < 0) = false := decide_eq_false hn
    rw [hd] at KW ⊢
    clear hm hd
    subst hu3
    have hu4 : ¬ (m : Int) < 0 := by omega
    clear hu hn
    go_enter Tryz.func19, Tryz.ntmps19
    go_wp2_with fail
    refine (KO _).mono ?_
    rintro x w1 ⟨v1, rfl, hn1, hb1⟩
    have HN1 := Lib.hid hn1
    have HB1 := Lib.hid (HB0.out.trans (hb1.mono HB0.out.size))
    have HQ1 := Lib.hid ((hb1.block w.heap.size (Array.getElem?_eq_some_iff.1 HQ0.out).1).trans HQ0.out)
    clear hn1 hb1 hW
    go_wp2_with fail
    refine (KW _ _ HN1.out).mono ?_
    rintro x w2 ⟨v2, rfl, hr2, hb2⟩
    have HR2 := Lib.hid hr2
    have HB2 := Lib.hid (HB1.out.trans (hb2.mono HB1.out.size))
    have HQ2 := Lib.hid ((hb2.block w.heap.size (Array.getElem?_eq_some_iff.1 HQ1.out).1).trans HQ1.out)
    clear hr2 hb2
    go_wp2_with fail
    refine (KZ _).mono ?_
    rintro x w3 ⟨v3, rfl, hr3, hb3⟩
    obtain ⟨tvx, bvx, rfl, hn5, hd5⟩ := Rt.R.below HR2.out hb3 (Nat.le_refl _)
    obtain ⟨tvy, bvy, rfl, hn6, hd6⟩ := hr3
    have hb3w := HB2.out.trans (hb3.mono HB2.out.size)
    have hq3 := (hb3.block w.heap.size (Array.getElem?_eq_some_iff.1 HQ2.out).1).trans HQ2.out
    obtain ⟨a9, c9, rfl⟩ := Nt.In.slice hn5
    obtain ⟨a10, c10, rfl⟩ := Nt.In.slice hd5
    obtain ⟨a11, c11, rfl⟩ := Nt.In.slice hn6
    obtain ⟨a12, c12, rfl⟩ := Nt.In.slice hd6
    obtain ⟨X1, X2, X3, X4, X5, X6, ⟨f0, z0, s0⟩, ⟨f1, z1, s1'⟩, ⟨f2, z2, s2'⟩, ⟨f3, z3, s3'⟩, ⟨f4, z4, s4'⟩, ⟨f5, z5, s5'⟩, ⟨r0, r1', r2', r3, r4, r5⟩, HX⟩ := Rt.put6 hq3 (.bool false) (.slice a9 (Nt.dig m).length c9) (.slice a10 (Nt.dig 1).length c10) (.bool false) (.slice a11 (Nt.dig 0).length c11) (.slice a12 (Nt.dig 1).length c12)
    have HOUT : Hid (Rt.Q X6 (.agg #[.bool false, .slice a9 (Nt.dig m).length c9, .slice a10 (Nt.dig 1).length c10, .bool false, .slice a11 (Nt.dig 0).length c11, .slice a12 (Nt.dig 1).length c12]) false m 1 false 0 1 ∧ Below w.heap.size w X6) := Lib.hid ⟨⟨_, _, _, _, rfl, Nt.In.othr hn5 hq3 Rt.noWords6 HX.out.2.2.1 HX.out.2.1, Nt.In.othr hd5 hq3 Rt.noWords6 HX.out.2.2.1 HX.out.2.1, Nt.In.othr hn6 hq3 Rt.noWords6 HX.out.2.2.1 HX.out.2.1, Nt.In.othr hd6 hq3 Rt.noWords6 HX.out.2.2.1 HX.out.2.1⟩, HX.out.2.2.2 _ _ hb3w (Nat.le_refl _)⟩
    clear hn5 hd5 hn6 hd6 hb3w hq3 HX hb3
    generalize (Nt.dig m).length = m1 at *
    generalize (Nt.dig 1).length = m2 at *
    generalize (Nt.dig 0).length = m3 at *
    go_wp2_with fail
    refine bodyPost_ret (v := .agg #[.bool false, .slice a9 m1 c9, .slice a10 m2 c10, .bool false, .slice a11 m3 c11, .slice a12 m2 c12]) (by simp [results, Tryz.results19, go_sem, r0, r1', r2', r3, r4, r5]) rfl ⟨_, rfl, HOUT.out.1, HOUT.out.2⟩
end Go.Proofs.YtikmebkfdpbidaaGreatDoor
namespace Go.Proofs.YtikmebkfdpbidaaGreatDoor
open Go.RowKit
set_option linter.unusedVariables false
set_option linter.unusedSimpArgs false

/-- Block b is cells that can be written. -/
def Tr.Blk (w : World) (b : Nat) (cur : Array Value) : Prop := ∃ t, w.heap[b]? = some (.cells cur t (0, 0))
theorem Tr.Blk.lt {w : World} {b : Nat} {cur : Array Value} (h : Tr.Blk w b cur) : b < w.heap.size := by
  obtain ⟨t, h⟩ := h
  exact (Array.getElem?_eq_some_iff.1 h).1
theorem Tr.Blk.cell {w : World} {b : Nat} {cur : Array Value} (h : Tr.Blk w b cur) (k : Nat) : w.cell? ⟨b, k, none⟩ = cur[k]? := by
  obtain ⟨t, h⟩ := h
  exact Dt.cell_of h k
theorem Tr.Blk.frozen {w : World} {b : Nat} {cur : Array Value} (h : Tr.Blk w b cur) (k : Nat) : w.frozen? ⟨b, k, none⟩ = false := by
  obtain ⟨t, h⟩ := h
  exact Dt.frozen_of h k
theorem Tr.Blk.set {w : World} {b : Nat} {cur : Array Value} (h : Tr.Blk w b cur) (k : Nat) (u : Value) : Tr.Blk (w.setCell ⟨b, k, none⟩ u) b (cur.set! k u) := by
  obtain ⟨t, h⟩ := h
  exact ⟨t, Dt.setCells h k u⟩
theorem Tr.Blk.kept {w w' : World} {b : Nat} {cur : Array Value} (h : Tr.Blk w b cur) (e : w'.heap[b]? = w.heap[b]?) : Tr.Blk w' b cur := by
  obtain ⟨t, h⟩ := h
  exact ⟨t, e.trans h⟩
/-- One cell stored. -/
theorem Tr.Blk.put {w : World} {b : Nat} {cur : Array Value} (h : Tr.Blk w b cur) (k : Nat) (hk : k < cur.size) (u : Value) :
    ∃ (x : Value) (W : World), w.cell? ⟨b, k, none⟩ = some x ∧ w.frozen? ⟨b, k, none⟩ = false ∧ w.setCell ⟨b, k, none⟩ u = W ∧ Tr.Blk W b (cur.set! k u) ∧ W.heap.size = w.heap.size ∧ (∀ q, q ≠ b → W.heap[q]? = w.heap[q]?) ∧ W.os = w.os ∧ W.tape = w.tape ∧ W.output = w.output :=
  ⟨cur[k], _, by rw [h.cell k, Array.getElem?_eq_getElem hk], h.frozen k, rfl, h.set k u, by simp, fun q hq => Below.heap_setCell _ _ _ _ hq, rfl, rfl, rfl⟩
theorem Tr.set_get (cur : Array Value) (k j : Nat) (u : Value) (hk : k < cur.size) : (cur.set! k u)[j]? = if j = k then some u else cur[j]? := by
  rw [Array.set!_eq_setIfInBounds, Array.getElem?_setIfInBounds]
  by_cases h : k = j
  · subst h; rw [if_pos rfl, if_pos hk, if_pos rfl]
  · rw [if_neg h, if_neg (fun e => h e.symm)]
theorem Tr.set_size (cur : Array Value) (k : Nat) (u : Value) : (cur.set! k u).size = cur.size := by simp
/-- Six cells stored. -/
theorem Tr.Blk.put6 {w : World} {b : Nat} {cur : Array Value} (h : Tr.Blk w b cur) (off : Nat) (hoff : off + 6 ≤ cur.size) (u0 u1 u2 u3 u4 u5 : Value) :
    ∃ (x0 x1 x2 x3 x4 x5 : Value) (W1 W2 W3 W4 W5 W6 : World) (cur' : Array Value),
    (w.cell? ⟨b, off, none⟩ = some x0 ∧ w.frozen? ⟨b, off, none⟩ = false ∧ w.setCell ⟨b, off, none⟩ u0 = W1) ∧
    (W1.cell? ⟨b, off + 1, none⟩ = some x1 ∧ W1.frozen? ⟨b, off + 1, none⟩ = false ∧ W1.setCell ⟨b, off + 1, none⟩ u1 = W2) ∧
    (W2.cell? ⟨b, off + 2, none⟩ = some x2 ∧ W2.frozen? ⟨b, off + 2, none⟩ = false ∧ W2.setCell ⟨b, off + 2, none⟩ u2 = W3) ∧
    (W3.cell? ⟨b, off + 3, none⟩ = some x3 ∧ W3.frozen? ⟨b, off + 3, none⟩ = false ∧ W3.setCell ⟨b, off + 3, none⟩ u3 = W4) ∧
    (W4.cell? ⟨b, off + 4, none⟩ = some x4 ∧ W4.frozen? ⟨b, off + 4, none⟩ = false ∧ W4.setCell ⟨b, off + 4, none⟩ u4 = W5) ∧
    (W5.cell? ⟨b, off + 5, none⟩ = some x5 ∧ W5.frozen? ⟨b, off + 5, none⟩ = false ∧ W5.setCell ⟨b, off + 5, none⟩ u5 = W6) ∧
    Hid (Tr.Blk W6 b cur' ∧ cur'.size = cur.size ∧ W6.heap.size = w.heap.size ∧ (∀ q, q ≠ b → W6.heap[q]? = w.heap[q]?) ∧ (∀ j, j < 6 → cur'[off + j]? = (#[u0, u1, u2, u3, u4, u5] : Array Value)[j]?) ∧ (∀ o, (o < off ∨ off + 6 ≤ o) → cur'[o]? = cur[o]?) ∧ (W6.os = w.os ∧ W6.tape = w.tape ∧ W6.output = w.output)) := by
  obtain ⟨x0, W1, f0, z0, s0, g1, n0, o0, p0, q0, r0⟩ := h.put (off + 0) (by first | omega | (simp only [Tr.set_size]; omega)) u0
  obtain ⟨x1, W2, f1, z1, s1, g2, n1, o1, p1, q1, r1⟩ := g1.put (off + 1) (by first | omega | (simp only [Tr.set_size]; omega)) u1
  obtain ⟨x2, W3, f2, z2, s2, g3, n2, o2, p2, q2, r2⟩ := g2.put (off + 2) (by first | omega | (simp only [Tr.set_size]; omega)) u2
  obtain ⟨x3, W4, f3, z3, s3, g4, n3, o3, p3, q3, r3⟩ := g3.put (off + 3) (by first | omega | (simp only [Tr.set_size]; omega)) u3
  obtain ⟨x4, W5, f4, z4, s4, g5, n4, o4, p4, q4, r4⟩ := g4.put (off + 4) (by first | omega | (simp only [Tr.set_size]; omega)) u4
  obtain ⟨x5, W6, f5, z5, s5, g6, n5, o5, p5, q5, r5⟩ := g5.put (off + 5) (by first | omega | (simp only [Tr.set_size]; omega)) u5
  refine ⟨x0, x1, x2, x3, x4, x5, W1, W2, W3, W4, W5, W6, _, ⟨f0, z0, s0⟩, ⟨f1, z1, s1⟩, ⟨f2, z2, s2⟩, ⟨f3, z3, s3⟩, ⟨f4, z4, s4⟩, ⟨f5, z5, s5⟩, Lib.hid ⟨g6, by simp only [Tr.set_size], by omega, fun q hq => ?_, fun j hj => ?_, fun o ho => ?_, ?_⟩⟩
  · rw [o5 q hq, o4 q hq, o3 q hq, o2 q hq, o1 q hq, o0 q hq]
  · repeat rw [Tr.set_get _ _ _ _ (by first | omega | (simp only [Tr.set_size]; omega))]
    rcases (show j = 0 ∨ j = 1 ∨ j = 2 ∨ j = 3 ∨ j = 4 ∨ j = 5 by omega) with rfl | rfl | rfl | rfl | rfl | rfl <;> simp
  · repeat rw [Tr.set_get _ _ _ _ (by first | omega | (simp only [Tr.set_size]; omega))]
    repeat rw [if_neg (by omega)]
  · exact ⟨by rw [p5, p4, p3, p2, p1, p0], by rw [q5, q4, q3, q2, q1, q0], by rw [r5, r4, r3, r2, r1, r0]⟩
/-- Eleven cells stored. -/
theorem Tr.Blk.put11 {w : World} {b : Nat} {cur : Array Value} (h : Tr.Blk w b cur) (off : Nat) (hoff : off + 11 ≤ cur.size) (u0 u1 u2 u3 u4 u5 u6 u7 u8 u9 u10 : Value) :
    ∃ (x0 x1 x2 x3 x4 x5 x6 x7 x8 x9 x10 : Value) (W1 W2 W3 W4 W5 W6 W7 W8 W9 W10 W11 : World) (cur' : Array Value),
    (w.cell? ⟨b, off, none⟩ = some x0 ∧ w.frozen? ⟨b, off, none⟩ = false ∧ w.setCell ⟨b, off, none⟩ u0 = W1) ∧
    (W1.cell? ⟨b, off + 1, none⟩ = some x1 ∧ W1.frozen? ⟨b, off + 1, none⟩ = false ∧ W1.setCell ⟨b, off + 1, none⟩ u1 = W2) ∧
    (W2.cell? ⟨b, off + 2, none⟩ = some x2 ∧ W2.frozen? ⟨b, off + 2, none⟩ = false ∧ W2.setCell ⟨b, off + 2, none⟩ u2 = W3) ∧
    (W3.cell? ⟨b, off + 3, none⟩ = some x3 ∧ W3.frozen? ⟨b, off + 3, none⟩ = false ∧ W3.setCell ⟨b, off + 3, none⟩ u3 = W4) ∧
    (W4.cell? ⟨b, off + 4, none⟩ = some x4 ∧ W4.frozen? ⟨b, off + 4, none⟩ = false ∧ W4.setCell ⟨b, off + 4, none⟩ u4 = W5) ∧
    (W5.cell? ⟨b, off + 5, none⟩ = some x5 ∧ W5.frozen? ⟨b, off + 5, none⟩ = false ∧ W5.setCell ⟨b, off + 5, none⟩ u5 = W6) ∧
    (W6.cell? ⟨b, off + 6, none⟩ = some x6 ∧ W6.frozen? ⟨b, off + 6, none⟩ = false ∧ W6.setCell ⟨b, off + 6, none⟩ u6 = W7) ∧
    (W7.cell? ⟨b, off + 7, none⟩ = some x7 ∧ W7.frozen? ⟨b, off + 7, none⟩ = false ∧ W7.setCell ⟨b, off + 7, none⟩ u7 = W8) ∧
    (W8.cell? ⟨b, off + 8, none⟩ = some x8 ∧ W8.frozen? ⟨b, off + 8, none⟩ = false ∧ W8.setCell ⟨b, off + 8, none⟩ u8 = W9) ∧
    (W9.cell? ⟨b, off + 9, none⟩ = some x9 ∧ W9.frozen? ⟨b, off + 9, none⟩ = false ∧ W9.setCell ⟨b, off + 9, none⟩ u9 = W10) ∧
    (W10.cell? ⟨b, off + 10, none⟩ = some x10 ∧ W10.frozen? ⟨b, off + 10, none⟩ = false ∧ W10.setCell ⟨b, off + 10, none⟩ u10 = W11) ∧
    Hid (Tr.Blk W11 b cur' ∧ cur'.size = cur.size ∧ W11.heap.size = w.heap.size ∧ (∀ q, q ≠ b → W11.heap[q]? = w.heap[q]?) ∧ (∀ j, j < 11 → cur'[off + j]? = (#[u0, u1, u2, u3, u4, u5, u6, u7, u8, u9, u10] : Array Value)[j]?) ∧ (∀ o, (o < off ∨ off + 11 ≤ o) → cur'[o]? = cur[o]?) ∧ (W11.os = w.os ∧ W11.tape = w.tape ∧ W11.output = w.output)) := by
  obtain ⟨x0, W1, f0, z0, s0, g1, n0, o0, p0, q0, r0⟩ := h.put (off + 0) (by first | omega | (simp only [Tr.set_size]; omega)) u0
  obtain ⟨x1, W2, f1, z1, s1, g2, n1, o1, p1, q1, r1⟩ := g1.put (off + 1) (by first | omega | (simp only [Tr.set_size]; omega)) u1
  obtain ⟨x2, W3, f2, z2, s2, g3, n2, o2, p2, q2, r2⟩ := g2.put (off + 2) (by first | omega | (simp only [Tr.set_size]; omega)) u2
  obtain ⟨x3, W4, f3, z3, s3, g4, n3, o3, p3, q3, r3⟩ := g3.put (off + 3) (by first | omega | (simp only [Tr.set_size]; omega)) u3
  obtain ⟨x4, W5, f4, z4, s4, g5, n4, o4, p4, q4, r4⟩ := g4.put (off + 4) (by first | omega | (simp only [Tr.set_size]; omega)) u4
  obtain ⟨x5, W6, f5, z5, s5, g6, n5, o5, p5, q5, r5⟩ := g5.put (off + 5) (by first | omega | (simp only [Tr.set_size]; omega)) u5
  obtain ⟨x6, W7, f6, z6, s6, g7, n6, o6, p6, q6, r6⟩ := g6.put (off + 6) (by first | omega | (simp only [Tr.set_size]; omega)) u6
  obtain ⟨x7, W8, f7, z7, s7, g8, n7, o7, p7, q7, r7⟩ := g7.put (off + 7) (by first | omega | (simp only [Tr.set_size]; omega)) u7
  obtain ⟨x8, W9, f8, z8, s8, g9, n8, o8, p8, q8, r8⟩ := g8.put (off + 8) (by first | omega | (simp only [Tr.set_size]; omega)) u8
  obtain ⟨x9, W10, f9, z9, s9, g10, n9, o9, p9, q9, r9⟩ := g9.put (off + 9) (by first | omega | (simp only [Tr.set_size]; omega)) u9
  obtain ⟨x10, W11, f10, z10, s10, g11, n10, o10, p10, q10, r10⟩ := g10.put (off + 10) (by first | omega | (simp only [Tr.set_size]; omega)) u10
  refine ⟨x0, x1, x2, x3, x4, x5, x6, x7, x8, x9, x10, W1, W2, W3, W4, W5, W6, W7, W8, W9, W10, W11, _, ⟨f0, z0, s0⟩, ⟨f1, z1, s1⟩, ⟨f2, z2, s2⟩, ⟨f3, z3, s3⟩, ⟨f4, z4, s4⟩, ⟨f5, z5, s5⟩, ⟨f6, z6, s6⟩, ⟨f7, z7, s7⟩, ⟨f8, z8, s8⟩, ⟨f9, z9, s9⟩, ⟨f10, z10, s10⟩, Lib.hid ⟨g11, by simp only [Tr.set_size], by omega, fun q hq => ?_, fun j hj => ?_, fun o ho => ?_, ?_⟩⟩
  · rw [o10 q hq, o9 q hq, o8 q hq, o7 q hq, o6 q hq, o5 q hq, o4 q hq, o3 q hq, o2 q hq, o1 q hq, o0 q hq]
  · repeat rw [Tr.set_get _ _ _ _ (by first | omega | (simp only [Tr.set_size]; omega))]
    rcases (show j = 0 ∨ j = 1 ∨ j = 2 ∨ j = 3 ∨ j = 4 ∨ j = 5 ∨ j = 6 ∨ j = 7 ∨ j = 8 ∨ j = 9 ∨ j = 10 by omega) with rfl | rfl | rfl | rfl | rfl | rfl | rfl | rfl | rfl | rfl | rfl <;> simp
  · repeat rw [Tr.set_get _ _ _ _ (by first | omega | (simp only [Tr.set_size]; omega))]
    repeat rw [if_neg (by omega)]
  · exact ⟨by rw [p10, p9, p8, p7, p6, p5, p4, p3, p2, p1, p0], by rw [q10, q9, q8, q7, q6, q5, q4, q3, q2, q1, q0], by rw [r10, r9, r8, r7, r6, r5, r4, r3, r2, r1, r0]⟩
end Go.Proofs.YtikmebkfdpbidaaGreatDoor
namespace Go.Proofs.YtikmebkfdpbidaaGreatDoor
open Go.RowKit
set_option linter.unusedVariables false
set_option linter.unusedSimpArgs false

mutual
/-- Each node is sound by its kind. -/
def Tr.good : Tr → Prop
  | .mk h l => h.shape l.length = true ∧ Tr.goodL l
def Tr.goodL : List Tr → Prop
  | [] => True
  | t :: ts => Tr.good t ∧ Tr.goodL ts
end
theorem Tr.good_mk {h : Tr.Hd} {l : List Tr} : Tr.good (.mk h l) ↔ h.shape l.length = true ∧ Tr.goodL l := by rw [Tr.good]
theorem Tr.goodL_cons {t : Tr} {ts : List Tr} : Tr.goodL (t :: ts) ↔ Tr.good t ∧ Tr.goodL ts := by rw [Tr.goodL]
theorem Tr.goodL_nil : Tr.goodL [] := by rw [Tr.goodL]; trivial
theorem Tr.goodL_at : ∀ (l : List Tr), Tr.goodL l → ∀ (k : Nat) (t : Tr), l[k]? = some t → Tr.good t
  | [], _, k, t, h => by simp at h
  | x :: ts, hg, 0, t, h => by
    obtain rfl : x = t := by simpa using h
    exact (Tr.goodL_cons.1 hg).1
  | x :: ts, hg, k + 1, t, h => Tr.goodL_at ts (Tr.goodL_cons.1 hg).2 k t (by simpa using h)
mutual
theorem Tr.snd_good : ∀ (t : Tr) (d : Nat) (left : Int), (Tr.snd t d left).1 = true → Tr.good t
  | .mk h l, d, left, hs => by
    by_cases hb : left - 1 < 0 ∨ 200 < d ∨ h.shape l.length = false
    · rw [Tr.snd_bad hb] at hs; cases hs
    · have hsh : h.shape l.length = true := by
        cases e : h.shape l.length with
        | true => rfl
        | false => exact absurd (Or.inr (Or.inr e)) hb
      rw [Tr.good_mk]
      refine ⟨hsh, ?_⟩
      by_cases hk : h.k = 8
      · have hl := Tr.Hd.shape_pair hsh hk
        match l, hl with
        | [a, b], _ =>
          rw [Tr.snd_pair hb hk] at hs
          split at hs
          · rename_i h1
            exact Tr.goodL_cons.2 ⟨Tr.snd_good a _ _ h1, Tr.goodL_cons.2 ⟨Tr.snd_good b _ _ hs, Tr.goodL_nil⟩⟩
          · cases hs
      · rw [Tr.snd_list hb hk] at hs
        exact Tr.sndL_good l _ _ hs
theorem Tr.sndL_good : ∀ (l : List Tr) (d : Nat) (left : Int), (Tr.sndL l d left).1 = true → Tr.goodL l
  | [], d, left, _ => Tr.goodL_nil
  | t :: ts, d, left, hs => by
    rw [Tr.sndL_cons] at hs
    split at hs
    · rename_i h1
      exact Tr.goodL_cons.2 ⟨Tr.snd_good t _ _ h1, Tr.sndL_good ts _ _ hs⟩
    · cases hs
end
theorem Tr.sound_good {t : Tr} (h : Tr.sound t = true) : Tr.good t := Tr.snd_good t _ _ h
/-- A datum but for one node, which lies at oA in block bA: whatever stands there as 'cu' makes 't' of what stands at OB. -/
def Tr.Hole (B0 : Nat) (wr : World) (bA oA OB : Nat) (t cu : Tr) : Prop := ∀ (w'' : World) (C' : Array Value), wr.heap.size ≤ w''.heap.size → (∀ q, B0 ≤ q → q < wr.heap.size → q ≠ bA → w''.heap[q]? = wr.heap[q]?) → (∀ o, o < oA → w''.cell? ⟨bA, o, none⟩ = wr.cell? ⟨bA, o, none⟩) → Tr.In w'' (fun q => B0 ≤ q) cu (.agg C') → Tr.Mem w'' bA oA C' → ∃ Cout, Tr.Mem w'' OB 0 Cout ∧ Tr.In w'' (fun q => B0 ≤ q) t (.agg Cout)
theorem Tr.Hole.start (B0 : Nat) (w : World) (OB : Nat) (t : Tr) : Tr.Hole B0 w OB 0 OB t t := fun w'' C' _ _ _ hI hM => ⟨C', hM, hI⟩
theorem Tr.Hole.kept {B0 : Nat} {wr wr' : World} {bA oA OB : Nat} {t cu : Tr} (h : Tr.Hole B0 wr bA oA OB t cu) (hz : wr.heap.size ≤ wr'.heap.size) (hk : ∀ q, B0 ≤ q → q < wr.heap.size → q ≠ bA → wr'.heap[q]? = wr.heap[q]?) (hc : ∀ o, o < oA → wr'.cell? ⟨bA, o, none⟩ = wr.cell? ⟨bA, o, none⟩) : Tr.Hole B0 wr' bA oA OB t cu :=
  fun w'' C' h1 h2 h3 hI hM => h w'' C' (Nat.le_trans hz h1) (fun q a b c => (h2 q a (Nat.lt_of_lt_of_le b hz) c).trans (hk q a b c)) (fun o ho => (h3 o ho).trans (hc o ho)) hI hM
/-- Words that are none: their slice lies anywhere. -/
theorem Tr.none_in {w w' : World} {v : Value} {ws : List Nat} (h : Nt.In w v ws) (h0 : ws.length = 0) : Nt.In w' v ws := by
  rcases h with h | h | ⟨h1, _⟩
  · exact .inl h
  · exact .inr (.inl h)
  · omega
theorem Tr.none_raw {w w' : World} {v : Value} {s : ByteArray} (h : By.In w v s) (h0 : s.size = 0) : By.In w' v s := by
  rcases h with h | h | ⟨h1, _⟩
  · exact .inl h
  · exact .inr (.inl h)
  · omega
theorem Tr.On.zero (S : Nat → Prop) (v : Value) : Tr.On S v 0 := fun h => absurd h (by omega)
/-- The next hole: a pair whose first datum is copied and whose second is to be copied. -/
theorem Tr.Hole.next {B0 : Nat} {w0 wr : World} {bA oA OB Lb : Nat} {t : Tr} {hc : Tr.Hd} {a b : Tr} {u3 u4 u6 u7 v9 : Value} {Ca : Array Value}
    (h : Tr.Hole B0 w0 bA oA OB t (.mk hc [a, b])) (hz0 : w0.heap.size ≤ Lb) (hk0 : ∀ q, B0 ≤ q → q < w0.heap.size → q ≠ bA → wr.heap[q]? = w0.heap[q]?) (hc0 : ∀ o, o < oA → wr.cell? ⟨bA, o, none⟩ = w0.cell? ⟨bA, o, none⟩) (hlt : bA < wr.heap.size) (hLlt : Lb < wr.heap.size) (hne : bA ≠ Lb) (hB : B0 ≤ bA) (hBL : B0 ≤ Lb)
    (hH : Tr.Hd.In wr (fun q => B0 ≤ q ∧ q ≠ Lb) hc u3 u4 u6 u7 v9) (hA : Tr.In wr (fun q => B0 ≤ q ∧ q ≠ Lb) a (.agg Ca)) (hMA : Tr.Mem wr Lb 0 Ca)
    (hM : Tr.Mem wr bA oA (Tr.cells hc u3 u4 u6 u7 v9 (.slice (some ⟨Lb, 0, none⟩) 2 2))) : Tr.Hole B0 wr Lb 11 OB t b := by
  intro w'' C' h1 h2 h3 hI hMb
  have hk : Tr.Kept (fun q => B0 ≤ q ∧ q ≠ Lb) wr w'' := ⟨h1, fun q hq hl => h2 q hq.1 hl hq.2⟩
  have hM'' : Tr.Mem w'' bA oA (Tr.cells hc u3 u4 u6 u7 v9 (.slice (some ⟨Lb, 0, none⟩) 2 2)) := hM.kept hk ⟨hB, hne⟩ hlt
  have hMA'' : Tr.Mem w'' Lb 0 Ca := fun j hj => by
    obtain ⟨u, e1, e2⟩ := hMA j hj
    exact ⟨u, e1, (h3 (0 + j) (by omega)).trans e2⟩
  refine h w'' _ (by omega) (fun q q1 q2 q3 => (h2 q q1 (by omega) (by omega)).trans (hk0 q q1 q2 q3)) (fun o ho => (hk.cell ⟨hB, hne⟩ hlt).trans (hc0 o ho)) (?_ : Tr.In w'' (fun q => B0 ≤ q) (.mk hc [a, b]) (.agg (Tr.cells hc u3 u4 u6 u7 v9 (.slice (some ⟨Lb, 0, none⟩) 2 2)))) hM''
  rw [Tr.In_mk]
  refine ⟨u3, u4, u6, u7, v9, _, rfl, (hH.kept hk).mono (fun q hq => hq.1), .inr (.inr ⟨by simp, Lb, 0, 2, by simp, by simp, by decide, Nat.lt_of_lt_of_le hLlt h1, hBL, ?_⟩)⟩
  show Tr.All w'' (fun q => B0 ≤ q) [a, b] Lb 0
  rw [Tr.All_cons, Tr.All_cons]
  exact ⟨⟨Ca, Tr.In.mono (fun q hq => hq.1) a _ (Tr.In.kept hk a _ hA), hMA''⟩, ⟨C', hI, by simpa using hMb⟩, Tr.All_nil⟩
theorem Tr.Blk.mem {w : World} {b off : Nat} {cur C : Array Value} (h : Tr.Blk w b cur) (hm : ∀ j, j < 11 → cur[off + j]? = C[j]?) (hC : C.size = 11) : Tr.Mem w b off C := fun j hj =>
  ⟨C[j]'(by omega), Array.getElem?_eq_getElem _, (h.cell _).trans ((hm j hj).trans (Array.getElem?_eq_getElem _))⟩
theorem Tr.cases11 {P : Nat → Prop} (h0 : P 0) (h1 : P 1) (h2 : P 2) (h3 : P 3) (h4 : P 4) (h5 : P 5) (h6 : P 6) (h7 : P 7) (h8 : P 8) (h9 : P 9) (h10 : P 10) : ∀ j, j < 11 → P j := by
  intro j hj
  rcases (show j = 0 ∨ j = 1 ∨ j = 2 ∨ j = 3 ∨ j = 4 ∨ j = 5 ∨ j = 6 ∨ j = 7 ∨ j = 8 ∨ j = 9 ∨ j = 10 by omega) with rfl | rfl | rfl | rfl | rfl | rfl | rfl | rfl | rfl | rfl | rfl <;> assumption
theorem Tr.mem_set9 {cur : Array Value} {off : Nat} {h : Tr.Hd} {u3 u4 u6 u7 u9 u10 : Value} (hm : ∀ j, j < 11 → cur[off + j]? = (Tr.cells h u3 u4 u6 u7 u9 u10)[j]?) (hs : off + 11 ≤ cur.size) (v : Value) : ∀ j, j < 11 → (cur.set! (off + 9) v)[off + j]? = (Tr.cells h u3 u4 u6 u7 v u10)[j]? := by
  intro j hj
  rw [Tr.set_get _ _ _ _ (by omega)]
  by_cases e : j = 9
  · subst e; rw [if_pos rfl]; rfl
  · rw [if_neg (by omega), hm j hj]
    rcases (show j = 0 ∨ j = 1 ∨ j = 2 ∨ j = 3 ∨ j = 4 ∨ j = 5 ∨ j = 6 ∨ j = 7 ∨ j = 8 ∨ j = 10 by omega) with rfl | rfl | rfl | rfl | rfl | rfl | rfl | rfl | rfl | rfl <;> rfl
theorem Tr.mem_set10 {cur : Array Value} {off : Nat} {h : Tr.Hd} {u3 u4 u6 u7 u9 u10 : Value} (hm : ∀ j, j < 11 → cur[off + j]? = (Tr.cells h u3 u4 u6 u7 u9 u10)[j]?) (hs : off + 11 ≤ cur.size) (v : Value) : ∀ j, j < 11 → (cur.set! (off + 10) v)[off + j]? = (Tr.cells h u3 u4 u6 u7 u9 v)[j]? := by
  intro j hj
  rw [Tr.set_get _ _ _ _ (by omega)]
  by_cases e : j = 10
  · subst e; rw [if_pos rfl]; rfl
  · rw [if_neg (by omega), hm j hj]
    rcases (show j = 0 ∨ j = 1 ∨ j = 2 ∨ j = 3 ∨ j = 4 ∨ j = 5 ∨ j = 6 ∨ j = 7 ∨ j = 8 ∨ j = 9 by omega) with rfl | rfl | rfl | rfl | rfl | rfl | rfl | rfl | rfl | rfl <;> rfl
/-- The number's six cells, stored anew. -/
theorem Tr.mem_set6 {cur cur' : Array Value} {off : Nat} {h : Tr.Hd} {u3 u4 u6 u7 u9 u10 v3 v4 v6 v7 : Value} (hm : ∀ j, j < 11 → cur[off + j]? = (Tr.cells h u3 u4 u6 u7 u9 u10)[j]?) (h6 : ∀ j, j < 6 → cur'[off + 2 + j]? = (#[.bool h.s1, v3, v4, .bool h.s2, v6, v7] : Array Value)[j]?) (ho : ∀ o, (o < off + 2 ∨ off + 2 + 6 ≤ o) → cur'[o]? = cur[o]?) : ∀ j, j < 11 → cur'[off + j]? = (Tr.cells h v3 v4 v6 v7 u9 u10)[j]? := by
  refine Tr.cases11 ?_ ?_ ?_ ?_ ?_ ?_ ?_ ?_ ?_ ?_ ?_
  · exact (ho _ (by omega)).trans (hm 0 (by decide))
  · exact (ho _ (by omega)).trans (hm 1 (by decide))
  · exact h6 0 (by decide)
  · exact h6 1 (by decide)
  · exact h6 2 (by decide)
  · exact h6 3 (by decide)
  · exact h6 4 (by decide)
  · exact h6 5 (by decide)
  · exact (ho _ (by omega)).trans (hm 8 (by decide))
  · exact (ho _ (by omega)).trans (hm 9 (by decide))
  · exact (ho _ (by omega)).trans (hm 10 (by decide))
theorem Tr.Hole.setAt {B0 : Nat} {wr wr' : World} {bA oA OB : Nat} {t cu : Tr} {cur cur' : Array Value} (h : Tr.Hole B0 wr bA oA OB t cu) (hz : wr.heap.size ≤ wr'.heap.size) (hk : ∀ q, q ≠ bA → q < wr.heap.size → B0 ≤ q → wr'.heap[q]? = wr.heap[q]?) (h1 : Tr.Blk wr bA cur) (h2 : Tr.Blk wr' bA cur') (ho : ∀ o, o < oA → cur'[o]? = cur[o]?) : Tr.Hole B0 wr' bA oA OB t cu :=
  h.kept hz (fun q a b c => hk q c b a) (fun o hlt => by rw [h2.cell, h1.cell, ho o hlt])
theorem Tr.num_none {h : Tr.Hd} {n : Nat} (hs : h.shape n = true) (hk : h.k ≠ 3) : h.t1.length = 0 ∧ h.b1.length = 0 ∧ h.t2.length = 0 ∧ h.b2.length = 0 := by
  unfold Tr.Hd.shape at hs
  simp only [Bool.and_eq_true] at hs
  have h1 := hs.1.1.1.1
  unfold Tr.Hd.num at h1
  rw [if_neg hk] at h1
  unfold Rt.noRat at h1
  simp only [Bool.and_eq_true, decide_eq_true_eq] at h1
  exact ⟨h1.1.1.2, h1.1.2, h1.2.1.2, h1.2.2⟩
theorem Tr.num_sound {h : Tr.Hd} {n : Nat} (hs : h.shape n = true) (hk : h.k = 3) : Rt.sound h.s1 h.t1 h.b1 = true ∧ Rt.sound h.s2 h.t2 h.b2 = true := by
  unfold Tr.Hd.shape at hs
  simp only [Bool.and_eq_true] at hs
  have h1 := hs.1.1.1.1
  unfold Tr.Hd.num at h1
  rw [if_pos hk] at h1
  simpa using h1
theorem Rt.FrN.open {B B' : Nat} {s tv bv s2 tv2 bv2 : Value} (h : Rt.FrN B (.agg #[s, tv, bv, s2, tv2, bv2])) (hB : B' ≤ B) : Nt.Fr B' tv ∧ Nt.Fr B' bv ∧ Nt.Fr B' tv2 ∧ Nt.Fr B' bv2 := by
  obtain ⟨x0, x1, x2, x3, x4, x5, e, h1, h2, h3, h4⟩ := h
  simp only [Value.agg.injEq] at e
  have e1 : tv = x1 := by have := congrArg (fun a : Array Value => a[1]?) e; simpa using this
  have e2 : bv = x2 := by have := congrArg (fun a : Array Value => a[2]?) e; simpa using this
  have e4 : tv2 = x4 := by have := congrArg (fun a : Array Value => a[4]?) e; simpa using this
  have e5 : bv2 = x5 := by have := congrArg (fun a : Array Value => a[5]?) e; simpa using this
  subst e1 e2 e4 e5
  exact ⟨h1.mono hB, h2.mono hB, h3.mono hB, h4.mono hB⟩
def Tr.zeroV : Value := .agg #[.int .i64 0, .int .i64 0, .bool false, .slice none 0 0, .slice none 0 0, .bool false, .slice none 0 0, .slice none 0 0, .string ⟨#[]⟩, .slice none 0 0, .slice none 0 0]
theorem Tr.infoD : (Tryz.prog.info? 30).map (fun i => (i.zero, i.size, i.bytes)) = some (some Tr.zeroV, 11, 192) := by kernel_rfl
/-- A row of n data is made. -/
theorem Tr.make (n : Nat) (w : World) (hn : n ≤ 1000000) : ∃ cur : Array Value, cur.size = n * 11 ∧ (Instr.makeSlice 28 (.int .i64 (n : Int)) (.int .i64 (n : Int))).run Tryz.prog w = .ok (.slice (some ⟨w.heap.size, 0, none⟩) n n) (w.alloc (.cells cur 30)) := by
  obtain ⟨i0, hi, hz0, hz1, hz2⟩ := info_parts Tr.infoD
  have := run_makeSlice (P := Tryz.prog) w 28 30 i0 Tr.zeroV Tryz.underlying28 hi hz0 .i64 .i64 n n (by omega) (by omega) (by rw [hz1]; omega) (by rw [hz2]; omega) (by omega)
  refine ⟨_, ?_, by rw [this]; rfl⟩
  simp [madeCells, hz1]
theorem Tr.len_le_size : ∀ (l : List Tr), l.length ≤ Tr.sizeL l
  | [] => Nat.zero_le _
  | t :: ts => by
    have := Tr.len_le_size ts
    have := Tr.size_pos t
    rw [Tr.sizeL_cons, List.length_cons]; omega
mutual
theorem Tr.snd_left : ∀ (t : Tr) (d : Nat) (left : Int), (Tr.snd t d left).1 = true → (Tr.snd t d left).2 = left - Tr.size t
  | .mk h l, d, left, hs => by
    by_cases hb : left - 1 < 0 ∨ 200 < d ∨ h.shape l.length = false
    · rw [Tr.snd_bad hb] at hs; cases hs
    · have hsh : h.shape l.length = true := by
        cases e : h.shape l.length with
        | true => rfl
        | false => exact absurd (Or.inr (Or.inr e)) hb
      rw [Tr.size_mk]
      by_cases hk : h.k = 8
      · have hl := Tr.Hd.shape_pair hsh hk
        match l, hl with
        | [a, b], _ =>
          rw [Tr.snd_pair hb hk] at hs ⊢
          split at hs
          · rename_i h1
            rw [if_pos h1, Tr.snd_left b _ _ hs, Tr.snd_left a _ _ h1, Tr.sizeL_cons, Tr.sizeL_cons, Tr.sizeL_nil]
            omega
          · cases hs
      · rw [Tr.snd_list hb hk] at hs ⊢
        rw [Tr.sndL_left l _ _ hs]
        omega
theorem Tr.sndL_left : ∀ (l : List Tr) (d : Nat) (left : Int), (Tr.sndL l d left).1 = true → (Tr.sndL l d left).2 = left - Tr.sizeL l
  | [], d, left, _ => by rw [Tr.sndL_nil, Tr.sizeL_nil]; simp
  | t :: ts, d, left, hs => by
    rw [Tr.sndL_cons] at hs ⊢
    split at hs
    · rename_i h1
      rw [if_pos h1, Tr.sndL_left ts _ _ hs, Tr.snd_left t _ _ h1, Tr.sizeL_cons]
      omega
    · cases hs
end
/-- A sound datum has so many nodes at most. -/
theorem Tr.sound_size {t : Tr} (h : Tr.sound t = true) : Tr.size t ≤ 20000 := by
  have h1 := Tr.snd_left t 1 20000 h
  have h2 := (Tr.snd_le t 1 20000 (by decide)).2 h
  omega
end Go.Proofs.YtikmebkfdpbidaaGreatDoor
namespace Go.Proofs.YtikmebkfdpbidaaGreatDoor
open Go.RowKit
set_option linter.unusedVariables false
set_option linter.unusedSimpArgs false

section
variable {P : Program} (w : World)
/-- Where the row lies behind the append. -/
def Ls.Fresh (w : World) (v v' : Value) : Prop := ∀ q, v'.ownBlock = some q → v.ownBlock = some q ∨ w.heap.size ≤ q
theorem Ls.run_append (base : Nat) (t ty e : TypeId) (i : TypeInfo) (z : Value) (size bytes : Nat) (ht : P.underlying t = some (.slice e)) (hi : P.info? e = some i) (hz : i.zero = some z)
    (hsize : i.size = size) (hby : i.bytes = bytes) (hzs : z.cells.size = size) (hsz : 0 < size)
    (v : Value) (n : Nat) (xs : List Value) (hown : w.ownsRow base e size v n xs)
    (a : Addr) (m c : Nat) (news : List Value) (hl : news.length = m * size) (hnews : ∀ j u, news[j]? = some u → w.cell? (a.add j) = some u) (h1 : ∀ u ∈ news, u.oneCell' = true)
    (h63 : n + m ≤ maxLen) (hbytes : (n + m) * bytes ≤ 140737488355328) (hbase : base ≤ w.heap.size) :
    ∃ v' w', (Builtin.append_ #[t, t] ty #[v, .slice (some a) m c]).run P w = .ok v' w' ∧ w'.ownsRow base e size v' (n + m) (xs ++ news) ∧ w.grownBy w' v.ownBlock ∧ Ls.Fresh w v v' := by
  obtain ⟨v', w', hr, ho, hg, hiff⟩ := run_append_own (P := P) w base t ty e i z size bytes ht hi hz hsize hby hzs hsz v n xs hown a m c news hl hnews h1 h63 hbytes hbase
  refine ⟨v', w', hr, ho, hg, ?_⟩
  have hlen := hown.1
  rcases hown.2 with ⟨rfl, rfl⟩ | ⟨g, cap, cur, rfl, hbg, hgc, hnc, hcm, hcs, htake⟩
  · have hx : xs = [] := List.eq_nil_of_length_eq_zero (by simpa using hlen)
    subst hx
    obtain ⟨v2, w2, hr2, ho2, _, _⟩ := run_append_own (P := P) w w.heap.size t ty e i z size bytes ht hi hz hsize hby hzs hsz _ 0 [] (World.ownsRow_nil w w.heap.size e size) a m c news hl hnews h1 h63 hbytes (Nat.le_refl _)
    rw [hr] at hr2
    cases hr2
    intro q hq
    exact .inr (ho2.lt q hq).1
  · subst hsize
    subst hby
    by_cases hroom : n + m ≤ cap
    · have hfit : n * i.size + news.length ≤ cur.size := by rw [hl, hcs, ← Nat.add_mul]; exact Nat.mul_le_mul_right _ hroom
      have hr2 := run_append_room (P := P) w t ty e i ht hi g n cap cur hgc a m c news hl hnews h1 hroom hfit
      rw [hr] at hr2
      cases hr2
      intro q hq
      exact .inl hq
    · have holds : ∀ j u, xs[j]? = some u → w.cell? ((⟨g, 0, none⟩ : Addr).add j) = some u := by
        exact World.ownsRow.cells (w := w) (base := base) (e := e) (size := i.size) (v := .slice (some ⟨g, 0, none⟩) n cap) (n := n) (xs := xs) ⟨hlen, .inr ⟨g, cap, cur, rfl, hbg, hgc, hnc, hcm, hcs, htake⟩⟩ rfl
      have hr2 := run_append_grow (P := P) w t ty e i z ht hi hz ⟨g, 0, none⟩ n cap xs hlen holds a m c news hl hnews (by omega) (by simp only [maxLen] at h63; omega) (growslice_fits (by omega) hbytes)
      rw [hr] at hr2
      cases hr2
      intro q hq
      simp only [Value.ownBlock, Option.some.injEq] at hq
      exact .inr (by omega)
/-- Nothing is appended. -/
theorem Ls.run_none (base : Nat) (t ty e : TypeId) (i : TypeInfo) (size : Nat) (ht : P.underlying t = some (.slice e)) (hi : P.info? e = some i)
    (v : Value) (n : Nat) (xs : List Value) (hown : w.ownsRow base e size v n xs) :
    (Builtin.append_ #[t, t] ty #[v, .slice none 0 0]).run P w = .ok v w := by
  rcases hown.2 with ⟨rfl, rfl⟩ | ⟨g, cap, cur, rfl, hbg, hgc, hnc, hcm, hcs, htake⟩
  · simp [Builtin.append_, run_underlying ht, sizeOf, typeInfo, hi, Builtin.lenOf, Builtin.firstCells, loadCells, loadCellsFrom]
  · simp [Builtin.append_, run_underlying ht, sizeOf, typeInfo, hi, Builtin.lenOf, Builtin.firstCells, loadCells, loadCellsFrom, hnc, storeCells]
/-- What an append may be of: nothing at all, or so many elements in memory. -/
def Ls.Src (w : World) (size : Nat) (x : Value) (m : Nat) (news : List Value) : Prop :=
  (x = .slice none 0 0 ∧ m = 0 ∧ news = []) ∨ ∃ ad c, x = .slice (some ad) m c ∧ news.length = m * size ∧ ∀ j u, news[j]? = some u → w.cell? (ad.add j) = some u
theorem Ls.run_src (base : Nat) (t ty e : TypeId) (i : TypeInfo) (z : Value) (size bytes : Nat) (ht : P.underlying t = some (.slice e)) (hi : P.info? e = some i) (hz : i.zero = some z)
    (hsize : i.size = size) (hby : i.bytes = bytes) (hzs : z.cells.size = size) (hsz : 0 < size)
    (v : Value) (n : Nat) (xs : List Value) (hown : w.ownsRow base e size v n xs)
    (x : Value) (m : Nat) (news : List Value) (hx : Ls.Src w size x m news) (h1 : ∀ u ∈ news, u.oneCell' = true)
    (h63 : n + m ≤ maxLen) (hbytes : (n + m) * bytes ≤ 140737488355328) (hbase : base ≤ w.heap.size) :
    ∃ v' w', (Builtin.append_ #[t, t] ty #[v, x]).run P w = .ok v' w' ∧ w'.ownsRow base e size v' (n + m) (xs ++ news) ∧ w.grownBy w' v.ownBlock ∧ Ls.Fresh w v v' := by
  rcases hx with ⟨rfl, rfl, rfl⟩ | ⟨ad, c, rfl, hl, hn⟩
  · refine ⟨v, w, Ls.run_none w base t ty e i size ht hi v n xs hown, ?_, ⟨rfl, rfl, rfl, Nat.le_refl _, fun _ _ _ => rfl⟩, fun q hq => .inl hq⟩
    rw [Nat.add_zero, List.append_nil]
    exact hown
  · exact Ls.run_append w base t ty e i z size bytes ht hi hz hsize hby hzs hsz v n xs hown ad m c news hl hn h1 h63 hbytes hbase
theorem Ls.wp_append {o : Oper} {a : Act} {K : Act → World → Prop} {Q : Exit → Act → World → Prop} (s x : Operand) (t : TypeId)
    (ho : o.op = .call { callee := .builtin .append, args := #[s, x], argTypes := #[t, t] })
    (base : Nat) (e : TypeId) (i : TypeInfo) (z : Value) (size bytes : Nat) (ht : P.underlying t = some (.slice e)) (hi : P.info? e = some i) (hz : i.zero = some z)
    (hsize : i.size = size) (hby : i.bytes = bytes) (hzs : z.cells.size = size) (hsz : 0 < size)
    (v : Value) (n : Nat) (xs : List Value) (hs : a.eval s = v) (hown : w.ownsRow base e size v n xs)
    (xv : Value) (m : Nat) (news : List Value) (hxv : a.eval x = xv) (hx : Ls.Src w size xv m news) (h1 : ∀ u ∈ news, u.oneCell' = true)
    (h63 : n + m ≤ maxLen) (hbytes : (n + m) * bytes ≤ 140737488355328) (hbase : base ≤ w.heap.size)
    (h : ∀ v' w', w'.ownsRow base e size v' (n + m) (xs ++ news) → w.grownBy w' v.ownBlock → Ls.Fresh w v v' → K (a.put o.dst v') w') : o.wp P a w K Q := by
  obtain ⟨v', w', hr, h2, h3, h4⟩ := Ls.run_src (P := P) w base t o.type e i z size bytes ht hi hz hsize hby hzs hsz v n xs hown xv m news hx h1 h63 hbytes hbase
  unfold Oper.wp execOp
  simp only [ho, resolve, invoke, builtin, Sem.run_bind, Sem.run_pure, Result.andThen_ok, List.map_toArray, List.map_cons, List.map_nil, hs, hxv, hr]
  exact h v' w' h2 h3 h4
theorem Ls.wpList_append {ops : Array Oper} {rest : List Oper} {o : Oper} {a : Act} {Q : Exit → Act → World → Prop} (hgd : o.guard = none) (s x : Operand) (t : TypeId)
    (ho : o.op = .call { callee := .builtin .append, args := #[s, x], argTypes := #[t, t] })
    (base : Nat) (e : TypeId) (i : TypeInfo) (z : Value) (size bytes : Nat) (ht : P.underlying t = some (.slice e)) (hi : P.info? e = some i) (hz : i.zero = some z)
    (hsize : i.size = size) (hby : i.bytes = bytes) (hzs : z.cells.size = size) (hsz : 0 < size)
    (v : Value) (n : Nat) (xs : List Value) (hs : a.eval s = v) (hown : w.ownsRow base e size v n xs)
    (xv : Value) (m : Nat) (news : List Value) (hxv : a.eval x = xv) (hx : Ls.Src w size xv m news) (h1 : ∀ u ∈ news, u.oneCell' = true)
    (h63 : n + m ≤ maxLen) (hbytes : (n + m) * bytes ≤ 140737488355328) (hbase : base ≤ w.heap.size)
    (h : ∀ v' w', w'.ownsRow base e size v' (n + m) (xs ++ news) → w.grownBy w' v.ownBlock → Ls.Fresh w v v' → wpList P ops Q rest (a.put o.dst v') w') : wpList P ops Q (o :: rest) a w :=
  wpList_plain hgd fun _ hK => Ls.wp_append w s x t ho base e i z size bytes ht hi hz hsize hby hzs hsz v n xs hs hown xv m news hxv hx h1 h63 hbytes hbase fun v' w' h2 h3 h4 => hK _ _ (h v' w' h2 h3 h4)
/-- The same at a step of a region. -/
theorem Ls.step_append {ops : Array Oper} {o : Oper} {a : Act} {Q : Exit → Act → World → Prop} {K : Act → World → Prop} {E : Prop} (hgd : o.guard = none) (s x : Operand) (t : TypeId)
    (ho : o.op = .call { callee := .builtin .append, args := #[s, x], argTypes := #[t, t] })
    (base : Nat) (e : TypeId) (i : TypeInfo) (z : Value) (size bytes : Nat) (ht : P.underlying t = some (.slice e)) (hi : P.info? e = some i) (hz : i.zero = some z)
    (hsize : i.size = size) (hby : i.bytes = bytes) (hzs : z.cells.size = size) (hsz : 0 < size)
    (v : Value) (n : Nat) (xs : List Value) (hs : a.eval s = v) (hown : w.ownsRow base e size v n xs)
    (xv : Value) (m : Nat) (news : List Value) (hxv : a.eval x = xv) (hx : Ls.Src w size xv m news) (h1 : ∀ u ∈ news, u.oneCell' = true)
    (h63 : n + m ≤ maxLen) (hbytes : (n + m) * bytes ≤ 140737488355328) (hbase : base ≤ w.heap.size)
    (h : ∀ v' w', w'.ownsRow base e size v' (n + m) (xs ++ news) → w.grownBy w' v.ownBlock → Ls.Fresh w v v' → K (a.put o.dst v') w') :
    if Region.wanted o (yielded ops a.tmps) = true then Oper.wp P o a w K Q else E := by
  have hw : Region.wanted o (yielded ops a.tmps) = true := by simp [Region.wanted, hgd]
  rw [if_pos hw]
  exact Ls.wp_append w s x t ho base e i z size bytes ht hi hz hsize hby hzs hsz v n xs hs hown xv m news hxv hx h1 h63 hbytes hbase h
end
end Go.Proofs.YtikmebkfdpbidaaGreatDoor
namespace Go.Proofs.YtikmebkfdpbidaaGreatDoor
open Go.RowKit
set_option linter.unusedVariables false

theorem Tr.On.top {w : World} {S : Nat → Prop} {v : Value} {ws : List Nat} (i : Nt.In w v ws) (o : Tr.On S v ws.length) : Tr.On (fun q => S q ∧ q < w.heap.size) v ws.length := by
  rcases i with ⟨_, e⟩ | ⟨_, _, _, e⟩ | ⟨h0, b, off, cap, hv, _, hl, _⟩
  · rw [e]; exact fun h => absurd h (Nat.lt_irrefl 0)
  · rw [e]; exact fun h => absurd h (Nat.lt_irrefl 0)
  · intro _ b' off' l' c' e
    rw [hv] at e
    cases e
    exact ⟨o h0 _ _ _ _ hv, hl⟩
theorem Tr.On.topB {w : World} {S : Nat → Prop} {v : Value} {s : ByteArray} (i : By.In w v s) (o : Tr.On S v s.size) : Tr.On (fun q => S q ∧ q < w.heap.size) v s.size := by
  rcases i with ⟨_, e⟩ | ⟨_, _, _, e⟩ | ⟨h0, b, off, cap, hv, _, hl, _⟩
  · rw [e]; exact fun h => absurd h (Nat.lt_irrefl 0)
  · rw [e]; exact fun h => absurd h (Nat.lt_irrefl 0)
  · intro _ b' off' l' c' e
    rw [hv] at e
    cases e
    exact ⟨o h0 _ _ _ _ hv, hl⟩
/-- What a head lies in is below the heap's end. -/
theorem Tr.Hd.In.top {w : World} {S : Nat → Prop} {h : Tr.Hd} {v3 v4 v6 v7 v9 : Value} (i : Tr.Hd.In w S h v3 v4 v6 v7 v9) : Tr.Hd.In w (fun q => S q ∧ q < w.heap.size) h v3 v4 v6 v7 v9 :=
  ⟨i.ok, i.i3, i.i4, i.i6, i.i7, i.i9, Tr.On.top i.i3 i.o3, Tr.On.top i.i4 i.o4, Tr.On.top i.i6 i.o6, Tr.On.top i.i7 i.o7, Tr.On.topB i.i9 i.o9⟩

mutual
theorem Tr.In.top {w : World} {S : Nat → Prop} : ∀ (t : Tr) (v : Value), Tr.In w S t v → Tr.In w (fun q => S q ∧ q < w.heap.size) t v
  | .mk h l, v, hI => by
    rw [Tr.In_mk] at hI ⊢
    obtain ⟨v3, v4, v6, v7, v9, v10, e, hH, hL⟩ := hI
    refine ⟨v3, v4, v6, v7, v9, v10, e, hH.top, ?_⟩
    rcases hL with h0 | h0 | ⟨h0, b, off, cap, hv, h1, h2, h3, h4, h5⟩
    · exact .inl h0
    · exact .inr (.inl h0)
    · exact .inr (.inr ⟨h0, b, off, cap, hv, h1, h2, h3, ⟨h4, h3⟩, Tr.All.top l b off h5⟩)
theorem Tr.All.top {w : World} {S : Nat → Prop} : ∀ (l : List Tr) (b off : Nat), Tr.All w S l b off → Tr.All w (fun q => S q ∧ q < w.heap.size) l b off
  | [], _, _, _ => Tr.All_nil
  | t :: ts, b, off, h => by
    rw [Tr.All_cons] at h ⊢
    obtain ⟨⟨C, hI, hM⟩, hr⟩ := h
    exact ⟨⟨C, Tr.In.top t _ hI, hM⟩, Tr.All.top ts b (off + 11) hr⟩
end
end Go.Proofs.YtikmebkfdpbidaaGreatDoor
namespace Go.Proofs.YtikmebkfdpbidaaGreatDoor
open Go.RowKit
set_option linter.unusedVariables false

/-- The row of the data l, its cells xs; no datum lies in the row's own block. -/
def Tr.Row (B : Nat) (w : World) (v : Value) (l : List Tr) (xs : List Value) : Prop :=
  w.ownsRow B 30 11 v l.length xs ∧ ∀ k t, l[k]? = some t → ∃ C : Array Value, Tr.In w (fun q => B ≤ q ∧ v.ownBlock ≠ some q) t (.agg C) ∧ ∀ j, j < 11 → xs[11 * k + j]? = C[j]?
theorem Tr.Row.nil (B : Nat) (w : World) : Tr.Row B w (.slice none 0 0) [] [] := ⟨World.ownsRow_nil w B _ _, fun k t h => by simp at h⟩
theorem Tr.In.size11 {w : World} {S : Nat → Prop} {t : Tr} {C : Array Value} (h : Tr.In w S t (.agg C)) : C.size = 11 := by
  obtain ⟨_, _, _, _, _, _, _, _, e⟩ := Tr.In.form h
  rw [e]; rfl
theorem Tr.Row.push {B : Nat} {w w1 w2 : World} {v v' : Value} {l : List Tr} {xs : List Value} {t : Tr} {C : Array Value} (h : Tr.Row B w v l xs) (hb : Below w.heap.size w w1) (hB : B ≤ w.heap.size)
    (hI : Tr.In w1 (fun q => w.heap.size ≤ q) t (.agg C)) (ho : w2.ownsRow B 30 11 v' (l.length + 1) (xs ++ C.toList)) (hg : w1.grownBy w2 v.ownBlock) (hf : Ls.Fresh w1 v v') : Tr.Row B w2 v' (l ++ [t]) (xs ++ C.toList) := by
  refine ⟨by rw [List.length_append]; exact ho, fun k u hk => ?_⟩
  have hz := hb.size
  have hlt := h.1.lt
  rcases Nat.lt_or_ge k l.length with h1 | h1
  · rw [List.getElem?_append_left h1] at hk
    obtain ⟨C', hI', hx⟩ := h.2 k u hk
    have h5 := Tr.In.kept (S := fun q => (B ≤ q ∧ v.ownBlock ≠ some q) ∧ q < w.heap.size) (w' := w2) ⟨Nat.le_trans hz hg.size, fun q hq hl => (hg.block q (Nat.lt_of_lt_of_le hl hz) (fun e => hq.1.2 e.symm)).trans (hb.block q hl)⟩ _ _ (Tr.In.top _ _ hI')
    have h6 : ∀ q, ((B ≤ q ∧ v.ownBlock ≠ some q) ∧ q < w.heap.size) → (B ≤ q ∧ v'.ownBlock ≠ some q) := by
      intro q hq
      refine ⟨hq.1.1, fun he => ?_⟩
      rcases hf q he with h2 | h2
      · exact hq.1.2 h2
      · have := hq.2
        omega
    refine ⟨C', Tr.In.mono h6 _ _ h5, fun j hj => ?_⟩
    rw [List.getElem?_append_left (by rw [h.1.1]; omega)]
    exact hx j hj
  · have hkl : k = l.length := by
      have := (List.getElem?_eq_some_iff.1 hk).1
      simp at this
      omega
    subst hkl
    rw [List.getElem?_append_right (Nat.le_refl _), Nat.sub_self] at hk
    simp only [List.getElem?_cons_zero, Option.some.injEq] at hk
    subst hk
    have h5 := Tr.In.kept (S := fun q => w.heap.size ≤ q ∧ q < w1.heap.size) (w' := w2) ⟨hg.size, fun q hq hl => hg.block q hl (fun e => by have := (hlt q e.symm).2; have := hq.1; omega)⟩ _ _ (Tr.In.top _ _ hI)
    have h6 : ∀ q, (w.heap.size ≤ q ∧ q < w1.heap.size) → (B ≤ q ∧ v'.ownBlock ≠ some q) := by
      intro q hq
      refine ⟨Nat.le_trans hB hq.1, fun he => ?_⟩
      rcases hf q he with h2 | h2
      · have := (hlt q h2).2
        have := hq.1
        omega
      · have := hq.2
        omega
    refine ⟨C, Tr.In.mono h6 _ _ h5, fun j hj => ?_⟩
    rw [List.getElem?_append_right (by rw [h.1.1]; omega), show 11 * l.length + j - xs.length = j by rw [h.1.1]; omega, Array.getElem?_toList]
/-- The row, read as a list. -/
theorem Tr.Row.lin {B : Nat} {w : World} {v : Value} {l : List Tr} {xs : List Value} (h : Tr.Row B w v l xs) : Tr.LIn w (fun q => B ≤ q) l v := by
  obtain ⟨ho, hall⟩ := h
  have hcell := @World.ownsRow.cells w B _ 11 v l.length xs ho
  rcases ho.2 with ⟨rfl, h0⟩ | ⟨g, cap, cur, rfl, hbg, hgc, hnc, hcm, hcs, htake⟩
  · exact .inl ⟨rfl, h0⟩
  · rcases Nat.eq_zero_or_pos l.length with h0 | h0
    · exact .inr (.inl ⟨_, _, by rw [h0], h0⟩)
    · refine .inr (.inr ⟨h0, g, 0, cap, rfl, hnc, by simp only [maxLen] at hcm; omega, (Array.getElem?_eq_some_iff.1 hgc).1, hbg, Tr.All.of l g 0 (fun k t hk => ?_)⟩)
      obtain ⟨C, hI, hx⟩ := hall k t hk
      refine ⟨C, Tr.In.mono (fun q hq => hq.1) _ _ hI, fun j hj => ?_⟩
      have hs := hI.size11
      have hu : C[j]? = some C[j] := Array.getElem?_eq_getElem (by omega)
      refine ⟨C[j], hu, ?_⟩
      have := hcell (g := g) rfl (11 * k + j) C[j] ((hx j hj).trans hu)
      have hadd : (⟨g, 0, none⟩ : Addr).add (11 * k + j) = ⟨g, 11 * k + j, none⟩ := by unfold Addr.add; split <;> simp_all
      rw [hadd] at this
      rw [Nat.zero_add]
      exact this
end Go.Proofs.YtikmebkfdpbidaaGreatDoor
