/-
  Worlds that are alike but for one block.
  datum.sound of any datum.
  datum.Sound of any datum.
  exact.Add of two sound numbers whose sum is not too large.
  exact.Int; a number and nought.
  Eleven cells stored at a place of a row that the call has made; a datum with a hole.
  Data whose nodes are sound; a datum with a hole.
  Data whose texts are short.
  What write writes and shows, in plain Lean.
  exact.Text of a number that is not real, in tens.
  The methods of the strings.Builder that lies ahead in a writer of write's own: copyCheck, WriteString, String. Conditions: the writer is one of the call's own, its length stays within 2^47 bytes.
-/
import Derived.Deep.LoopGhost
import Derived.Test.YtikmebkfdpbidaaGreatDoorProg
import Derived.WalkKit
import Derived.WalkSpells
import Derived.WalkLawsBesides
import Derived.Handy
import Derived.Lib.Hide
import Derived.Shelf.Strings.Builder1
import Derived.Outline
import Derived.Test.YtikmebkfdpbidaaGreatDoorTrShape2W
import Derived.Test.YtikmebkfdpbidaaGreatDoorWe
import Derived.Test.YtikmebkfdpbidaaGreatDoorWc
import Derived.Test.YtikmebkfdpbidaaGreatDoorWf
namespace Go.Proofs.YtikmebkfdpbidaaGreatDoor
open Go.RowKit
set_option linter.unusedVariables false

/-- All old blocks but L are as they were. -/
structure Tr.But (L : Nat) (w w' : World) : Prop where
  os : w'.os = w.os
  tape : w'.tape = w.tape
  output : w'.output = w.output
  size : w.heap.size ≤ w'.heap.size
  block : ∀ q, q ≠ L → q < w.heap.size → w'.heap[q]? = w.heap[q]?
theorem Tr.But.refl (L : Nat) (w : World) : Tr.But L w w := ⟨rfl, rfl, rfl, Nat.le_refl _, fun _ _ _ => rfl⟩
theorem Tr.But.trans {L : Nat} {a b c : World} (h : Tr.But L a b) (k : Tr.But L b c) : Tr.But L a c :=
  ⟨k.os.trans h.os, k.tape.trans h.tape, k.output.trans h.output, Nat.le_trans h.size k.size, fun q h1 h2 => (k.block q h1 (Nat.lt_of_lt_of_le h2 h.size)).trans (h.block q h1 h2)⟩
theorem Tr.But.of_below {L B : Nat} {w w' : World} (h : Below B w w') (hB : w.heap.size ≤ B) : Tr.But L w w' :=
  ⟨h.os, h.tape, h.output, h.size, fun q _ h2 => h.block q (Nat.lt_of_lt_of_le h2 hB)⟩
theorem Tr.But.below {L B : Nat} {w w' : World} (h : Tr.But L w w') (hL : B ≤ L) (hB : B ≤ w.heap.size) : Below B w w' :=
  ⟨h.os, h.tape, h.output, h.size, fun q hq => h.block q (by omega) (by omega)⟩
theorem Tr.But.alloc {L : Nat} {a w : World} (h : Tr.But L a w) (o : Obj) : Tr.But L a (w.alloc o) := h.trans (Tr.But.of_below ((Below.refl w.heap.size w).alloc (Nat.le_refl _) o) (Nat.le_refl _))
theorem Tr.But.drew {L : Nat} {a w : World} (h : Tr.But L a w) : Tr.But L a w.drew := ⟨h.os, h.tape, h.output, h.size, h.block⟩
theorem Tr.But.setCell {L : Nat} {a w : World} (h : Tr.But L a w) (p : Addr) (hp : p.block = L ∨ a.heap.size ≤ p.block) (u : Value) : Tr.But L a (w.setCell p u) :=
  ⟨h.os, h.tape, h.output, by have := h.size; simp [World.setCell]; exact this, fun q h1 h2 => (Below.heap_setCell _ _ _ _ (by rcases hp with e | e <;> omega)).trans (h.block q h1 h2)⟩
/-- A number, stored. -/
theorem Tr.storeInt {w : World} {L : Nat} {n : Int} {t : TypeId} (h : w.heap[L]? = some (.cells #[.int .i64 n] t (0, 0))) (m : Int) :
    ∃ W, w.setCell ⟨L, 0, none⟩ (.int .i64 m) = W ∧ w.cell? ⟨L, 0, none⟩ = some (.int .i64 n) ∧ w.frozen? ⟨L, 0, none⟩ = false ∧ W.cell? ⟨L, 0, none⟩ = some (.int .i64 m) ∧ W.heap[L]? = some (.cells #[.int .i64 m] t (0, 0)) ∧ Tr.But L w W ∧ W.heap.size = w.heap.size ∧ (∀ q, q ≠ L → W.heap[q]? = w.heap[q]?) := by
  have h1 := Dt.setCells h 0 (.int .i64 m)
  exact ⟨_, rfl, Dt.cell_of h 0, Dt.frozen_of h 0, Dt.cell_of h1 0, h1, (Tr.But.refl L w).setCell _ (.inl rfl) _, by simp, fun q hq => Below.heap_setCell _ _ _ _ hq⟩
/-- The cells of a datum, its slices opened. -/
theorem Tr.In.form2 {w : World} {S : Nat → Prop} {t : Tr} {C : Array Value} (h : Tr.In w S t (.agg C)) : ∃ (hd : Tr.Hd) (l : List Tr) (a3 a4 a6 a7 a9 a10 : Option Addr) (n3 n4 n6 n7 n9 n10 c3 c4 c6 c7 c9 c10 : Nat),
    C = Tr.cells hd (.slice a3 n3 c3) (.slice a4 n4 c4) (.slice a6 n6 c6) (.slice a7 n7 c7) (.slice a9 n9 c9) (.slice a10 n10 c10) ∧ t = .mk hd l ∧ Tr.Hd.In w S hd (.slice a3 n3 c3) (.slice a4 n4 c4) (.slice a6 n6 c6) (.slice a7 n7 c7) (.slice a9 n9 c9) ∧ Tr.LIn w S l (.slice a10 n10 c10) := by
  obtain ⟨hd, l⟩ := t
  rw [Tr.In_mk] at h
  obtain ⟨v3, v4, v6, v7, v9, v10, e, h1, h2⟩ := h
  obtain ⟨a3, c3, rfl⟩ := h1.i3.slice
  obtain ⟨a4, c4, rfl⟩ := h1.i4.slice
  obtain ⟨a6, c6, rfl⟩ := h1.i6.slice
  obtain ⟨a7, c7, rfl⟩ := h1.i7.slice
  obtain ⟨a9, c9, rfl⟩ := h1.i9.slice
  obtain ⟨a10, c10, rfl, _⟩ := h2.slice
  exact ⟨hd, l, a3, a4, a6, a7, a9, a10, _, _, _, _, _, _, c3, c4, c6, c7, c9, c10, by injection e, rfl, h1, h2⟩
end Go.Proofs.YtikmebkfdpbidaaGreatDoor
namespace Go.Proofs.YtikmebkfdpbidaaGreatDoor
open Go.RowKit
set_option linter.unusedVariables false
set_option linter.unusedSimpArgs false

/-- What sound says of a datum, met d deep. -/
def Tr.SoundSays (t : Tr) : Prop := ∀ (S : Nat → Prop) (C : Array Value) (w0 w : World) (L d : Nat) (left : Int), Tr.In w0 S t (.agg C) → Tr.Tabs w0 → Below w0.heap.size w0 w → w0.heap.size ≤ L →
  w.heap[L]? = some (.cells #[.int .i64 left] 3 (0, 0)) → 0 ≤ left → left ≤ 20000 → d ≤ 201 →
  Calls Tryz.prog 90 #[.agg C, .int .i64 d, .pointer (some ⟨L, 0, none⟩)] w fun e w' => e = .returned (.bool (Tr.snd t d left).1) ∧ w'.heap[L]? = some (.cells #[.int .i64 (Tr.snd t d left).2] 3 (0, 0)) ∧ Tr.But L w w'
/-- A child, in the walk's own form. -/
theorem Tr.SoundSays.at {t : Tr} (H : Tr.SoundSays t) {S : Nat → Prop} {C : Array Value} {w0 w : World} {L d : Nat} {left : Int} (hI : Tr.In w0 S t (.agg C)) (hT : Tr.Tabs w0) (hb : Below w0.heap.size w0 w) (hL : w0.heap.size ≤ L)
    (hp : w.heap[L]? = some (.cells #[.int .i64 left] 3 (0, 0))) (h0 : 0 ≤ left) (h1 : left ≤ 20000) (hd : d ≤ 200) :
    Calls Tryz.prog 90 #[.agg C, .int .i64 ((d : Int) + 1), .pointer (some ⟨L, 0, none⟩)] w fun e w' => e = .returned (.bool (Tr.snd t (d + 1) left).1) ∧ w'.heap[L]? = some (.cells #[.int .i64 (Tr.snd t (d + 1) left).2] 3 (0, 0)) ∧ Tr.But L w w' := by
  have := H S C w0 w L (d + 1) left hI hT hb hL hp h0 h1 (by omega)
  rwa [show ((d + 1 : Nat) : Int) = (d : Int) + 1 by omega] at this

set_option maxHeartbeats 8000000 in
set_option maxRecDepth 1000000 in
theorem Tr.sound_step (t : Tr) (IH : ∀ u, Tr.size u < Tr.size t → Tr.SoundSays u) : Tr.SoundSays t := by
  intro S C w0 w L d left hI hT hb hL hp hl0 hl1 hd
  obtain ⟨h0, li0⟩ := t
  rw [Tr.In_mk] at hI
  obtain ⟨v3, v4, v6, v7, v9, v10, hC, hH, hS⟩ := hI
  obtain rfl : C = Tr.cells h0 v3 v4 v6 v7 v9 v10 := by injection hC
  clear hC
  have hLw : L < w.heap.size := (Array.getElem?_eq_some_iff.1 hp).1
  obtain ⟨W, hW⟩ : ∃ W, w.alloc (.cells (Tr.cells h0 v3 v4 v6 v7 v9 v10) 30) = W := ⟨_, rfl⟩
  have q0 : W.heap[w.heap.size]? = some (.cells (Tr.cells h0 v3 v4 v6 v7 v9 v10) 30 (0, 0)) := by rw [← hW]; exact heap_alloc_new w _
  have qL : W.heap[L]? = some (.cells #[.int .i64 left] 3 (0, 0)) := by rw [← hW]; exact (Lib.alloc_old _ _ _ hLw).trans hp
  have hbt0 : Tr.But L w W := by rw [← hW]; exact (Tr.But.refl L w).alloc _
  have hzW : w.heap.size < W.heap.size := (Array.getElem?_eq_some_iff.1 q0).1
  have HIH := Lib.hid IH
  have HT := Lib.hid hT
  have HB := Lib.hid hb
  have HGEO := Lib.hid (And.intro hL (And.intro hLw (And.intro hb.size (And.intro hd hzW))))
  have HST : Hid (∃ (h : Tr.Hd) (l : List Tr) (v3 v4 v6 v7 v9 v10 : Value) (lf : Int), Tr.Hd.In w0 S h v3 v4 v6 v7 v9 ∧ Tr.LIn w0 S l v10 ∧ (Tr.size (.mk h l) = Tr.size (.mk h0 li0) ∧ Tr.size (.mk h0 li0) ≤ Tr.size (.mk h0 li0)) ∧ W.heap[w.heap.size]? = some (.cells (Tr.cells h v3 v4 v6 v7 v9 v10) 30 (0, 0)) ∧ W.heap[L]? = some (.cells #[.int .i64 lf] 3 (0, 0)) ∧ 0 ≤ lf ∧ lf ≤ 20000 ∧ Tr.snd (.mk h l) d lf = Tr.snd (.mk h0 li0) d left ∧ Tr.But L w W) :=
    Lib.hid ⟨h0, li0, v3, v4, v6, v7, v9, v10, left, hH, hS, ⟨rfl, Nat.le_refl _⟩, q0, qL, hl0, hl1, rfl, hbt0⟩
  have hdI : (d : Int) ≤ 201 := by omega
  unfold Tr.cells at hW ⊢
  clear IH hT hb hL hp hl0 hl1 hLw q0 qL hbt0 hH hS hzW hd
  go_enter Tryz.func90, Tryz.ntmps90
  go_wp2_with fail
  go_loopg [] (Tr.size (.mk h0 li0)) (fun g wr => ∃ (h : Tr.Hd) (l : List Tr) (v3 v4 v6 v7 v9 v10 : Value) (lf : Int), Tr.Hd.In w0 S h v3 v4 v6 v7 v9 ∧ Tr.LIn w0 S l v10 ∧ (Tr.size (.mk h l) = g ∧ g ≤ Tr.size (.mk h0 li0)) ∧ wr.heap[w.heap.size]? = some (.cells (Tr.cells h v3 v4 v6 v7 v9 v10) 30 (0, 0)) ∧ wr.heap[L]? = some (.cells #[.int .i64 lf] 3 (0, 0)) ∧ 0 ≤ lf ∧ lf ≤ 20000 ∧ Tr.snd (.mk h l) d lf = Tr.snd (.mk h0 li0) d left ∧ Tr.But L w wr)
  case atStart =>
    exact HST.out
  case round =>
    obtain ⟨h, l, u3, u4, u6, u7, u9, u10, lf, hH, hS, hg, hbox, hleft, hf0, hf1, hsnd, hbut⟩ := hrel
    obtain ⟨wo, hwo⟩ : ∃ z, z = wr := ⟨_, rfl⟩
    subst hwo
    clear HST hW
    obtain ⟨a10, c10, rfl, hcap10, _⟩ := hS.slice
    obtain ⟨W1, hW1, p0, z0, p1, hL1, hbut1, hsz1, hoth1⟩ := Tr.storeInt hleft (lf - 1)
    have hbox1 : W1.heap[w.heap.size]? = some (.cells (Tr.cells h u3 u4 u6 u7 u9 (.slice a10 l.length c10)) 30 (0, 0)) := (hoth1 _ (by have := HGEO.out; omega)).trans hbox
    have hbB1 : Below w0.heap.size w0 W1 := HB.out.trans ((hbut.trans (hbut1)).below HGEO.out.1 HGEO.out.2.2.1)
    have KSH := Tr.shape_any h l.length u3 u4 u6 u7 u9 a10 c10 S W1 (hH.kept (Tr.Kept.all hbB1 (Nat.le_refl _))) (HT.out.below hbB1)
    have hbut01 := hbut.trans hbut1
    have HH := Lib.hid hH
    have HS := Lib.hid hS
    have HG := Lib.hid hg
    have HSND := Lib.hid hsnd
    have HBUT := Lib.hid hbut01
    have HL1 := Lib.hid hL1
    have HBOX := Lib.hid hbox1
    have HBB := Lib.hid hbB1
    unfold Tr.cells at KSH
    obtain ⟨d0, d1, d2, d3, d4, d5, d6, d7, d8, d9, d10⟩ := Dt.cells11 (show W1.heap[w.heap.size]? = some (.cells #[.int .i64 h.k, .int .i64 h.n, .bool h.s1, u3, u4, .bool h.s2, u6, u7, .string h.x, u9, .slice a10 l.length c10] 30 (0, 0)) from hbox1)
    clear hH hS hg hbox hleft hsnd hbut hbut1 hL1 hoth1 hbox1 hbB1 hbut01 hsz1
    by_cases hneg : lf - 1 < 0
    · have HF : Hid (Tr.snd (.mk h l) d lf = (false, lf - 1)) := Lib.hid (Tr.snd_bad (.inl hneg))
      go_wp2_with fail
      go_ret
      exact ⟨by rw [← HSND.out, HF.out]; rfl, by rw [← HSND.out, HF.out]; exact HL1.out, HBUT.out⟩
    by_cases hdeep : 200 < d
    · have HF : Hid (Tr.snd (.mk h l) d lf = (false, lf - 1)) := Lib.hid (Tr.snd_bad (.inr (.inl hdeep)))
      have hdeepI : (200 : Int) < (d : Int) := by omega
      go_wp2_with fail
      go_ret
      exact ⟨by rw [← HSND.out, HF.out]; rfl, by rw [← HSND.out, HF.out]; exact HL1.out, HBUT.out⟩
    have hdeepI : ¬ (200 : Int) < (d : Int) := by omega
    obtain ⟨SH, hSH⟩ : ∃ b, h.shape l.length = b := ⟨_, rfl⟩
    rw [hSH] at KSH
    have HSH := Lib.hid hSH
    clear hSH
    go_wp2_with fail
    refine KSH.mono ?_
    rintro y w2 ⟨rfl, hb2⟩
    have hbut2 := HBUT.out.trans (Tr.But.of_below hb2 (Nat.le_refl _))
    have hL2 : w2.heap[L]? = some (.cells #[.int .i64 (lf - 1)] 3 (0, 0)) := (hb2.block L ((Array.getElem?_eq_some_iff.1 HL1.out).1)).trans HL1.out
    have hbox2 : w2.heap[w.heap.size]? = some (.cells (Tr.cells h u3 u4 u6 u7 u9 (.slice a10 l.length c10)) 30 (0, 0)) := (hb2.block w.heap.size ((Array.getElem?_eq_some_iff.1 HBOX.out).1)).trans HBOX.out
    have hbB2 : Below w0.heap.size w0 w2 := HBB.out.trans (hb2.mono HBB.out.size)
    have HL2 := Lib.hid hL2
    have HBUT2 := Lib.hid hbut2
    have HBOX2 := Lib.hid hbox2
    have HBB2 := Lib.hid hbB2
    clear d0 d1 d2 d3 d4 d5 d6 d7 d8 d9 d10
    obtain ⟨d0, d1, d2, d3, d4, d5, d6, d7, d8, d9, d10⟩ := Dt.cells11 (show w2.heap[w.heap.size]? = some (.cells #[.int .i64 h.k, .int .i64 h.n, .bool h.s1, u3, u4, .bool h.s2, u6, u7, .string h.x, u9, .slice a10 l.length c10] 30 (0, 0)) from hbox2)
    clear hb2 hbut2 hL2 hbox2 hbB2 p0 z0 p1 KSH
    cases SH with
    | false =>
      have HF : Hid (Tr.snd (.mk h l) d lf = (false, lf - 1)) := Lib.hid (Tr.snd_bad (.inr (.inr HSH.out)))
      go_wp2_with fail
      go_ret
      exact ⟨by rw [← HSND.out, HF.out]; rfl, by rw [← HSND.out, HF.out]; exact HL2.out, HBUT2.out⟩
    | true =>
      have HNB : Hid (¬ (lf - 1 < 0 ∨ 200 < d ∨ h.shape l.length = false)) := Lib.hid (by
        rintro (h1 | h1 | h1)
        · omega
        · omega
        · rw [HSH.out] at h1; cases h1)
      by_cases hk8 : h.k = 8
      · have hlen := Tr.Hd.shape_pair HSH.out hk8
        obtain ⟨a, b, rfl⟩ : ∃ a b, l = [a, b] := by
          match l, hlen with
          | [a, b], _ => exact ⟨a, b, rfl⟩
        have HF : Hid (Tr.snd (.mk h [a, b]) d lf = if (Tr.snd a (d + 1) (lf - 1)).1 = true then Tr.snd b d (Tr.snd a (d + 1) (lf - 1)).2 else (false, (Tr.snd a (d + 1) (lf - 1)).2)) := Lib.hid (Tr.snd_pair HNB.out hk8)
        obtain ⟨bL, oL, rfl, _, _, _, hbLlt, hSb, hall⟩ := Tr.Sl.at HS.out (by simp)
        obtain ⟨Ca, hIa, hMa⟩ := Tr.All.at _ _ _ hall 0 a rfl
        obtain ⟨Cb, hIb, hMb⟩ := Tr.All.at _ _ _ hall 1 b rfl
        have hMa : Tr.Mem w0 bL oL Ca := hMa
        have hMb : Tr.Mem w0 bL (oL + 11) Cb := hMb
        have hsz : Tr.size (.mk h [a, b]) = 1 + (Tr.size a + (Tr.size b + 0)) := by rw [Tr.size_mk, Tr.sizeL_cons, Tr.sizeL_cons, Tr.sizeL_nil]
        have KA := (HIH.out a (by have := HG.out; omega)).at (w := w2) (d := d) (left := lf - 1) hIa HT.out HBB2.out HGEO.out.1 HL2.out (by omega) (by omega) (by omega)
        have hMa2 := hMa.kept (Tr.Kept.all HBB2.out (Nat.le_refl _)) hSb hbLlt
        have hle := Tr.snd_le a (d + 1) (lf - 1) (by omega)
        obtain ⟨ha, la, ta3, ta4, ta6, ta7, ta9, ta10, eCa⟩ := Tr.In.form hIa
        obtain ⟨hb, lb, ab3, ab4, ab6, ab7, ab9, ab10, nb3, nb4, nb6, nb7, nb9, nb10, cb3, cb4, cb6, cb7, cb9, cb10, eCb, ebt, hbH, hbL⟩ := Tr.In.form2 hIb
        have HBH := Lib.hid (And.intro ebt (And.intro hbH hbL))
        subst eCa
        subst eCb
        unfold Tr.cells at KA hMa2
        obtain ⟨e0, e1, e2, e3, e4, e5, e6, e7, e8, e9, e10⟩ := Tr.Mem.cells hMa2
        have HSZ := Lib.hid hsz
        have HIB := Lib.hid hIb
        have HMB := Lib.hid hMb
        have HBL := Lib.hid (And.intro hbLlt hSb)
        have HLE := Lib.hid hle
        have hlI : (([a, b] : List Tr).length : Int) = 2 := rfl
        clear ebt hbH hbL hsz hIa hIb hMa hMb hMa2 hle hall hlen hbLlt hSb
        go_wp2_with fail
        refine KA.mono ?_
        rintro y w3 ⟨rfl, hL3, hbt3⟩
        have hbut3 := HBUT2.out.trans hbt3
        have hbB3 : Below w0.heap.size w0 w3 := HBB2.out.trans (hbt3.below HGEO.out.1 HBB2.out.size)
        have hbox3 : w3.heap[w.heap.size]? = some (.cells (Tr.cells h u3 u4 u6 u7 u9 (.slice (some ⟨bL, oL, none⟩) [a, b].length c10)) 30 (0, 0)) := (hbt3.block w.heap.size (by have := HGEO.out; omega) ((Array.getElem?_eq_some_iff.1 HBOX2.out).1)).trans HBOX2.out
        clear d0 d1 d2 d3 d4 d5 d6 d7 d8 d9 d10 e0 e1 e2 e3 e4 e5 e6 e7 e8 e9 e10
        have hMb3 := HMB.out.kept (Tr.Kept.all hbB3 (Nat.le_refl _)) HBL.out.2 HBL.out.1
        have hput := Dt.put11 (show w3.heap[w.heap.size]? = some (.cells #[.int .i64 h.k, .int .i64 h.n, .bool h.s1, u3, u4, .bool h.s2, u6, u7, .string h.x, u9, .slice (some ⟨bL, oL, none⟩) [a, b].length c10] 30 (0, 0)) from hbox3) (.int .i64 hb.k) (.int .i64 hb.n) (.bool hb.s1) (.slice ab3 nb3 cb3) (.slice ab4 nb4 cb4) (.bool hb.s2) (.slice ab6 nb6 cb6) (.slice ab7 nb7 cb7) (.string hb.x) (.slice ab9 nb9 cb9) (.slice ab10 nb10 cb10)
        have HPUT := Lib.hid hput
        obtain ⟨d0, d1, d2, d3, d4, d5, d6, d7, d8, d9, d10⟩ := Dt.cells11 (show w3.heap[w.heap.size]? = some (.cells #[.int .i64 h.k, .int .i64 h.n, .bool h.s1, u3, u4, .bool h.s2, u6, u7, .string h.x, u9, .slice (some ⟨bL, oL, none⟩) [a, b].length c10] 30 (0, 0)) from hbox3)
        unfold Tr.cells at hMb3
        obtain ⟨e0, e1, e2, e3, e4, e5, e6, e7, e8, e9, e10⟩ := Tr.Mem.cells hMb3
        have HL3 := Lib.hid hL3
        have HBUT3 := Lib.hid hbut3
        have HBB3 := Lib.hid hbB3
        clear hL3 hbut3 hbB3 hbt3 hbox3 hMb3 hput KA
        obtain ⟨ra, hra⟩ : ∃ r, (Tr.snd a (d + 1) (lf - 1)).1 = r := ⟨_, rfl⟩
        have HRA := Lib.hid hra
        rw [hra]
        clear hra
        cases ra with
        | false =>
          have HF2 : Hid (Tr.snd (.mk h [a, b]) d lf = (false, (Tr.snd a (d + 1) (lf - 1)).2)) := Lib.hid (by rw [HF.out, HRA.out]; rfl)
          go_wp2_with fail
          go_ret
          exact ⟨by rw [← HSND.out, HF2.out]; rfl, by rw [← HSND.out, HF2.out]; exact HL3.out, HBUT3.out⟩
        | true =>
          have HF2 : Hid (Tr.snd (.mk h [a, b]) d lf = Tr.snd b d (Tr.snd a (d + 1) (lf - 1)).2) := Lib.hid (by rw [HF.out, if_pos HRA.out])
          obtain ⟨X1, X2, X3, X4, X5, X6, X7, X8, X9, X10, X11, ⟨f0, y0, s0, _⟩, ⟨f1, y1, s1, _⟩, ⟨f2, y2, s2, _⟩, ⟨f3, y3, s3, _⟩, ⟨f4, y4, s4, _⟩, ⟨f5, y5, s5, _⟩, ⟨f6, y6, s6, _⟩, ⟨f7, y7, s7, _⟩, ⟨f8, y8, s8, _⟩, ⟨f9, y9, s9, _⟩, ⟨f10, y10, s10, _⟩, hX, hXz, hXo, hXb⟩ := HPUT.out
          have HX := Lib.hid (And.intro hX (And.intro hXz hXo))
          have HLX : Hid (X11.heap[L]? = some (.cells #[.int .i64 (Tr.snd a (d + 1) (lf - 1)).2] 3 (0, 0))) := Lib.hid ((hXo L (by have := HGEO.out; omega)).trans HL3.out)
          have HBX : Hid (Tr.But L w X11) := Lib.hid ⟨(hXb 0 w3 (Below.refl _ _) (Nat.zero_le _)).os.trans HBUT3.out.os, (hXb 0 w3 (Below.refl _ _) (Nat.zero_le _)).tape.trans HBUT3.out.tape, (hXb 0 w3 (Below.refl _ _) (Nat.zero_le _)).output.trans HBUT3.out.output, by rw [hXz]; exact HBUT3.out.size, fun q h1 h2 => (hXo q (by omega)).trans (HBUT3.out.block q h1 h2)⟩
          clear hX hXz hXo hXb
          have hle2 := HLE.out.2 HRA.out
          have HLE2 := Lib.hid hle2
          clear hle2
          go_wp2_with fail
          go_roundg (Tr.size b)
          case measure => have := HSZ.out; have := HG.out; have := Tr.size_pos a; omega
          case rel =>
            have e := HBH.out.1
            exact ⟨hb, lb, _, _, _, _, _, _, (Tr.snd a (d + 1) (lf - 1)).2, HBH.out.2.1, HBH.out.2.2, ⟨by rw [← e], by have := HSZ.out; have := HG.out; omega⟩, HX.out.1, HLX.out, HLE2.out, by have := HLE.out.1; omega, by rw [← e, ← HF2.out, HSND.out], HBX.out⟩
      · have hk8I : (h.k != 8) = true := by simp; exact hk8
        have HF : Hid (Tr.snd (.mk h l) d lf = Tr.sndL l (d + 1) (lf - 1)) := Lib.hid (Tr.snd_list HNB.out hk8)
        have hlf1 : 0 ≤ lf - 1 := by omega
        clear hk8
        go_wp2_with fail
        go_loopg [46] l.length (fun g iv wr => ∃ (k : Nat) (lf2 : Int), k + g = l.length ∧ iv = .int .i64 k ∧ wr.heap[L]? = some (.cells #[.int .i64 lf2] 3 (0, 0)) ∧ 0 ≤ lf2 ∧ lf2 ≤ 20000 ∧ Tr.sndL (l.drop k) (d + 1) lf2 = Tr.sndL l (d + 1) (lf - 1) ∧ Tr.But L w wr ∧ Below w0.heap.size w0 wr)
        case atStart => exact ⟨0, lf - 1, by omega, rfl, HL2.out, hlf1, by omega, by rw [List.drop_zero], HBUT2.out, HBB2.out⟩
        case round =>
          obtain ⟨k, lf2, hkg, rfl, hL3, hl20, hl21, hsl, hbt3, hbb3⟩ := hrel
          obtain ⟨w3, hw3⟩ : ∃ z, z = wr := ⟨_, rfl⟩
          subst hw3
          have HSL := Lib.hid hsl
          have HBT3 := Lib.hid hbt3
          have HBB3 := Lib.hid hbb3
          have HL3 := Lib.hid hL3
          clear hsl hbt3 hbb3 hL3 d0 d1 d2 d3 d4 d5 d6 d7 d8 d9 d10 HL2 HBUT2 HBOX2 HBB2
          by_cases hlt : k < l.length
          · obtain ⟨bL, oL, rfl, _, _, _, hbLlt, hSb, hall⟩ := Tr.Sl.at HS.out (by omega)
            obtain ⟨tk, htk⟩ : ∃ t, l[k]? = some t := ⟨_, List.getElem?_eq_getElem hlt⟩
            have hdrop : l.drop k = tk :: l.drop (k + 1) := by
              rw [List.drop_eq_getElem_cons hlt]
              rw [List.getElem?_eq_getElem hlt] at htk
              injection htk with e
              rw [e]
            obtain ⟨Ck, hIk, hMk⟩ := Tr.All.at _ _ _ hall k tk htk
            rw [Nat.mul_comm 11 k] at hMk
            have hsz : Tr.size tk < Tr.size (.mk h l) := Tr.size_lt (t := .mk h l) (k := k) htk
            have KT := fun w' hb hp => (HIH.out tk (by have := HG.out; omega)).at (w := w') (d := d) (left := lf2) hIk HT.out hb HGEO.out.1 hp hl20 hl21 (by omega)
            have hMk3 := hMk.kept (Tr.Kept.all HBB3.out (Nat.le_refl _)) hSb hbLlt
            obtain ⟨hb, lb, ab3, ab4, ab6, ab7, ab9, ab10, nb3, nb4, nb6, nb7, nb9, nb10, cb3, cb4, cb6, cb7, cb9, cb10, eCb, ebt, hbH, hbL⟩ := Tr.In.form2 hIk
            subst eCb
            unfold Tr.cells at KT hMk3
            obtain ⟨e0, e1, e2, e3, e4, e5, e6, e7, e8, e9, e10⟩ := Tr.Mem.cells hMk3
            have HDR := Lib.hid hdrop
            have hle := Tr.snd_le tk (d + 1) lf2 (by omega)
            have HLE := Lib.hid hle
            have HKT := Lib.hid KT
            clear hIk hMk hMk3 hall hsz hdrop htk ebt hbH hbL hbLlt hSb hle KT
            have HALC : Hid (∀ o, Below w0.heap.size w0 (w3.alloc o) ∧ (w3.alloc o).heap[L]? = some (.cells #[.int .i64 lf2] 3 (0, 0)) ∧ Tr.But L w (w3.alloc o)) := Lib.hid (fun o => ⟨HBB3.out.alloc HBB3.out.size o, (Lib.alloc_old _ _ _ ((Array.getElem?_eq_some_iff.1 HL3.out).1)).trans HL3.out, HBT3.out.alloc o⟩)
            go_wp2_with fail
            refine (HKT.out _ (HALC.out _).1 (HALC.out _).2.1).mono ?_
            rintro y w5 ⟨rfl, hL5, hbt5⟩
            have hbb5 : Below w0.heap.size w0 w5 := (HALC.out _).1.trans (hbt5.below HGEO.out.1 (HALC.out _).1.size)
            have hbut5 := (HALC.out _).2.2.trans hbt5
            have HR5 := Lib.hid (And.intro hL5 (And.intro hbut5 hbb5))
            clear hL5 hbt5 hbb5 hbut5 HALC e0 e1 e2 e3 e4 e5 e6 e7 e8 e9 e10
            obtain ⟨ra, hra⟩ : ∃ r, (Tr.snd tk (d + 1) lf2).1 = r := ⟨_, rfl⟩
            have HRA := Lib.hid hra
            rw [hra]
            clear hra
            cases ra with
            | false =>
              have HF2 : Hid (Tr.snd (.mk h l) d lf = (false, (Tr.snd tk (d + 1) lf2).2)) := Lib.hid (by rw [HF.out, ← HSL.out, HDR.out, Tr.sndL_cons, HRA.out]; rfl)
              go_wp2_with fail
              go_ret
              exact ⟨by rw [← HSND.out, HF2.out]; rfl, by rw [← HSND.out, HF2.out]; exact HR5.out.1, HR5.out.2.1⟩
            | true =>
              have HF2 : Hid (Tr.sndL (l.drop (k + 1)) (d + 1) (Tr.snd tk (d + 1) lf2).2 = Tr.sndL l (d + 1) (lf - 1)) := Lib.hid (by rw [← HSL.out, HDR.out, Tr.sndL_cons, if_pos HRA.out])
              have hle2 := HLE.out.2 HRA.out
              have HLE2 := Lib.hid hle2
              clear hle2
              go_wp2_with fail
              go_roundg (gk - 1)
              case measure => omega
              case rel => exact ⟨k + 1, _, by omega, by first | rfl | go_num | (simp; try omega), HR5.out.1, HLE2.out, by have := HLE.out.1; omega, HF2.out, HR5.out.2.1, HR5.out.2.2⟩
          · obtain rfl : k = l.length := by omega
            have HF2 : Hid (Tr.snd (.mk h l) d lf = (true, lf2)) := Lib.hid (by rw [HF.out, ← HSL.out, List.drop_length, Tr.sndL_nil])
            have hnlt : decide ((l.length : Int) < (l.length : Int)) = false := decide_eq_false (by omega)
            go_wp2_with fail
            go_ret
            exact ⟨by rw [← HSND.out, HF2.out]; rfl, by rw [← HSND.out, HF2.out]; exact HL3.out, HBT3.out⟩
theorem Tr.sound_says (t : Tr) : Tr.SoundSays t := by
  have H : ∀ n t, Tr.size t < n → Tr.SoundSays t := by
    intro n
    induction n with
    | zero => intro t h; omega
    | succ n ih => intro t h; exact Tr.sound_step t (fun u hu => ih u (by omega))
  exact H _ t (Nat.lt_succ_self _)
end Go.Proofs.YtikmebkfdpbidaaGreatDoor
namespace Go.Proofs.YtikmebkfdpbidaaGreatDoor
open Go.RowKit
set_option linter.unusedVariables false
set_option linter.unusedSimpArgs false

theorem Tr.In.agg {w : World} {S : Nat → Prop} {t : Tr} {v : Value} (h : Tr.In w S t v) : ∃ C, v = .agg C := by
  obtain ⟨hd, l⟩ := t
  rw [Tr.In_mk] at h
  obtain ⟨v3, v4, v6, v7, v9, v10, e, _⟩ := h
  exact ⟨_, e⟩
set_option maxHeartbeats 4000000 in
set_option maxRecDepth 1000000 in
theorem Tr.Sound_any (t : Tr) (S : Nat → Prop) (v : Value) (w : World) (hI : Tr.In w S t v) (hT : Tr.Tabs w) : Calls Tryz.prog 60 #[v] w fun e w' => e = .returned (.bool (Tr.sound t)) ∧ Below w.heap.size w w' := by
  obtain ⟨C, rfl⟩ := hI.agg
  have K := fun w' L hb hL hp => Tr.sound_says t S C w w' L 1 20000 hI hT hb hL hp (by decide) (by decide) (by decide)
  obtain ⟨hb, lb, a3, a4, a6, a7, a9, a10, n3, n4, n6, n7, n9, n10, c3, c4, c6, c7, c9, c10, eC, _, _, _⟩ := Tr.In.form2 hI
  subst eC
  unfold Tr.cells at K ⊢
  rw [show ((1 : Nat) : Int) = 1 from rfl] at K
  have hdef : Tr.sound t = (Tr.snd t 1 20000).1 := rfl
  rw [← hdef] at K
  have hA : ∀ o1 o2, Below w.heap.size w ((w.alloc o1).alloc o2) := fun o1 o2 => ((Below.refl _ _).alloc (Nat.le_refl _) _).alloc (by simp) _
  have hN : ∀ o, ((w.alloc o).alloc (.cells #[.int .i64 20000] 3)).heap[w.heap.size + 1]? = some (.cells #[.int .i64 20000] 3 (0, 0)) := by
    intro o
    have := heap_alloc_new (w.alloc o) (.cells #[.int .i64 20000] 3)
    rwa [show (w.alloc o).heap.size = w.heap.size + 1 by simp] at this
  have HK := Lib.hid K
  have HA := Lib.hid hA
  have HN := Lib.hid hN
  clear K hA hN hI hT hdef
  generalize Tr.sound t = R at *
  go_enter Tryz.func60, Tryz.ntmps60
  go_wp2_with fail
  refine (HK.out _ _ (HA.out _ _) (Nat.le_succ _) (HN.out _)).mono ?_
  rintro y w1 ⟨rfl, _, hbt⟩
  have HB := Lib.hid ((HA.out _ _).trans (hbt.below (Nat.le_succ _) (HA.out _ _).size))
  clear hbt
  go_wp2_with fail
  go_ret
  exact ⟨rfl, HB.out⟩
end Go.Proofs.YtikmebkfdpbidaaGreatDoor
namespace Go.Proofs.YtikmebkfdpbidaaGreatDoor
open Go.RowKit
set_option linter.unusedVariables false
set_option linter.unusedSimpArgs false

theorem Rt.belowD2 {B : Nat} {w0 w : World} (h : Below B w0 w) : Below B w0 w.drew := h.drew
def Rt.L4 (t1 b1 t2 b2 : Nat) : Prop := (Nt.dig t1).length ≤ 400000 ∧ (Nt.dig b1).length ≤ 400000 ∧ (Nt.dig t2).length ≤ 400000 ∧ (Nt.dig b2).length ≤ 400000
set_option maxHeartbeats 8000000 in
set_option maxRecDepth 1000000 in
theorem Rt.Add_ok (s1 s2 s3 s4 : Bool) (t1 b1 t2 b2 t3 b3 t4 b4 : Nat) (v v2 : Value) (w : World) (h : Rt.Q w v s1 t1 b1 s2 t2 b2) (h2 : Rt.Q w v2 s3 t3 b3 s4 t4 b4) (K1 : Rt.SoundAt w v) (K2 : Rt.SoundAt w v2)
    (R1 R2 : Bool × Nat × Nat) (hR1 : Rt.sumS s1 t1 b1 s3 t3 b3 = R1) (hR2 : Rt.sumS s2 t2 b2 s4 t4 b4 = R2) (p1 : 0 < b1) (p2 : 0 < b2) (p3 : 0 < b3) (p4 : 0 < b4) (hl1 : Rt.L4 t1 b1 t3 b3) (hl2 : Rt.L4 t2 b2 t4 b4) (hok1 : Nt.Ok (t1 * b3 + t3 * b1) (b1 * b3)) (hok2 : Nt.Ok (t2 * b4 + t4 * b2) (b2 * b4))
    (hl : (Nt.dig R1.2.1).length ≤ 512 ∧ (Nt.dig R1.2.2).length ≤ 512 ∧ (Nt.dig R2.2.1).length ≤ 512 ∧ (Nt.dig R2.2.2).length ≤ 512) :
    Calls Tryz.prog 80 #[v, v2] w fun e w' => ∃ v', e = .returned (.tuple #[v', .int .i64 0]) ∧ Rt.Q w' v' R1.1 R1.2.1 R1.2.2 R2.1 R2.2.1 R2.2.2 ∧ Rt.FrN w.heap.size v' ∧ Below w.heap.size w w' := by
  have KS1 := fun v v2 w h h2 => Rt.sum_any s1 s3 t1 b1 t3 b3 v v2 w h h2 p1 p3 hl1 hok1
  have KS2 := fun v v2 w h h2 => Rt.sum_any s2 s4 t2 b2 t4 b4 v v2 w h h2 p2 p4 hl2 hok2
  rw [hR1] at KS1
  rw [hR2] at KS2
  obtain ⟨r1, x1, y1⟩ := R1
  obtain ⟨r2, x2, y2⟩ := R2
  simp only at KS1 KS2 hl ⊢
  have KF := fun v v2 w h h2 => Rt.fit_ok r1 x1 y1 r2 x2 y2 v v2 w h h2 hl
  clear hR1 hR2 p1 p2 p3 p4 hl1 hl2 hok1 hok2 hl
  obtain ⟨tv1, bv1, tv2, bv2, rfl, hn1, hd1, hn2, hd2⟩ := h
  obtain ⟨tv3, bv3, tv4, bv4, rfl, hn3, hd3, hn4, hd4⟩ := h2
  obtain ⟨a1, c1, rfl⟩ := Nt.In.slice hn1
  obtain ⟨a2, c2, rfl⟩ := Nt.In.slice hd1
  obtain ⟨a3, c3, rfl⟩ := Nt.In.slice hn2
  obtain ⟨a4, c4, rfl⟩ := Nt.In.slice hd2
  obtain ⟨a5, c5, rfl⟩ := Nt.In.slice hn3
  obtain ⟨a6, c6, rfl⟩ := Nt.In.slice hd3
  obtain ⟨a7, c7, rfl⟩ := Nt.In.slice hn4
  obtain ⟨a8, c8, rfl⟩ := Nt.In.slice hd4
  generalize (Nt.dig t1).length = l1 at *
  generalize (Nt.dig b1).length = l2 at *
  generalize (Nt.dig t2).length = l3 at *
  generalize (Nt.dig b2).length = l4 at *
  generalize (Nt.dig t3).length = l5 at *
  generalize (Nt.dig b3).length = l6 at *
  generalize (Nt.dig t4).length = l7 at *
  generalize (Nt.dig b4).length = l8 at *
  obtain ⟨W2, hW2, q0, q1, q2, hsz, hb0⟩ := Rt.three w (.cells #[.bool s1, .slice a1 l1 c1, .slice a2 l2 c2, .bool s2, .slice a3 l3 c3, .slice a4 l4 c4] 26) (.cells #[.bool s3, .slice a5 l5 c5, .slice a6 l6 c6, .bool s4, .slice a7 l7 c7, .slice a8 l8 c8] 26) (.cells #[.bool false, .slice none 0 0, .slice none 0 0, .bool false, .slice none 0 0, .slice none 0 0] 26)
  obtain ⟨W3, hW3⟩ : ∃ z, W2.alloc (.cells #[.bool s1, .slice a1 l1 c1, .slice a2 l2 c2, .bool s2, .slice a3 l3 c3, .slice a4 l4 c4, .bool s3, .slice a5 l5 c5, .slice a6 l6 c6, .bool s4, .slice a7 l7 c7, .slice a8 l8 c8] 26) = z := ⟨_, rfl⟩
  have hb3 : Below w.heap.size w W3 := by rw [← hW3]; exact hb0.alloc hb0.size _
  have hz3 : W2.heap.size < W3.heap.size := by rw [← hW3]; simp
  have hq3 : W3.heap[W2.heap.size]? = some (.cells #[.bool s1, .slice a1 l1 c1, .slice a2 l2 c2, .bool s2, .slice a3 l3 c3, .slice a4 l4 c4, .bool s3, .slice a5 l5 c5, .slice a6 l6 c6, .bool s4, .slice a7 l7 c7, .slice a8 l8 c8] 26 (0, 0)) := by rw [← hW3]; exact heap_alloc_new W2 _
  have KC := Rt.check2 s1 s2 s3 s4 a1 a2 a3 a4 a5 a6 a7 a8 l1 l2 l3 l4 l5 l6 l7 l8 c1 c2 c3 c4 c5 c6 c7 c8 W2.heap.size W3 hq3 (fun w' hb => K1 w' (hb3.trans (hb.mono hb3.size))) (fun w' hb => K2 w' (hb3.trans (hb.mono hb3.size)))
  have HK := Lib.hid (fun (w' : World) (hb : Below W2.heap.size W2 w') => And.intro (Rt.cells6 ((hb.block w.heap.size (by omega)).trans q0)) (Rt.cells6 ((hb.block (w.heap.size + 1) (by omega)).trans q1)))
  have HR := Lib.hid (fun (w' : World) (hb : Below W2.heap.size W2 w') => (hb.block (w.heap.size + 1 + 1) (by omega)).trans q2)
  have HKX := Lib.hid (fun (w' w'' : World) (hb : Below W2.heap.size W2 w') (hx : ∀ q, q ≠ w.heap.size + 1 + 1 → w''.heap[q]? = w'.heap[q]?) => And.intro (Rt.cells6 ((hx w.heap.size (by omega)).trans ((hb.block w.heap.size (by omega)).trans q0))) (Rt.cells6 ((hx (w.heap.size + 1) (by omega)).trans ((hb.block (w.heap.size + 1) (by omega)).trans q1))))
  have HB := Lib.hid (fun (w' : World) (hb : Below W2.heap.size W2 w') => hb0.trans (hb.mono (by omega : w.heap.size ≤ W2.heap.size)))
  have HI := Lib.hid (fun (w' : World) (hb : Below w.heap.size w w') => And.intro (And.intro (show Rt.R w' (.agg #[.bool s1, .slice a1 l1 c1, .slice a2 l2 c2]) s1 t1 b1 from ⟨_, _, rfl, Nt.N.below hn1 hb (Nat.le_refl _), Nt.N.below hd1 hb (Nat.le_refl _)⟩) (show Rt.R w' (.agg #[.bool s3, .slice a5 l5 c5, .slice a6 l6 c6]) s3 t3 b3 from ⟨_, _, rfl, Nt.N.below hn3 hb (Nat.le_refl _), Nt.N.below hd3 hb (Nat.le_refl _)⟩)) (And.intro (show Rt.R w' (.agg #[.bool s2, .slice a3 l3 c3, .slice a4 l4 c4]) s2 t2 b2 from ⟨_, _, rfl, Nt.N.below hn2 hb (Nat.le_refl _), Nt.N.below hd2 hb (Nat.le_refl _)⟩) (show Rt.R w' (.agg #[.bool s4, .slice a7 l7 c7, .slice a8 l8 c8]) s4 t4 b4 from ⟨_, _, rfl, Nt.N.below hn4 hb (Nat.le_refl _), Nt.N.below hd4 hb (Nat.le_refl _)⟩)))
  have HZ : Hid (∀ w', Below W2.heap.size W2 w' → w.heap.size ≤ w'.heap.size) := Lib.hid (fun w' hb => by have := hb.size; omega)
  have hb23 : Below W2.heap.size W2 W3 := by rw [← hW3]; exact (Below.refl _ _).alloc (Nat.le_refl _) _
  have HB23 := Lib.hid hb23
  obtain ⟨⟨e0, e1, e2, e3, e4, e5⟩, f0, f1, f2, f3, f4, f5⟩ := HK.out _ (Below.refl _ _)
  clear q0 q1 q2 hb0 hb3 hn1 hd1 hn2 hd2 hn3 hd3 hn4 hd4 hsz hz3 hq3 K1 K2 hb23
  go_enter Tryz.func80, Tryz.ntmps80
  go_wp2_with fail
  refine KC.mono ?_
  rintro x w4 ⟨rfl, hb4⟩
  clear e0 e1 e2 e3 e4 e5 f0 f1 f2 f3 f4 f5 hW2 hW3
  have hacc := HB23.out.trans (hb4.mono HB23.out.size)
  clear hb4 KC
  have HACC := Lib.hid hacc
  clear hacc
  go_wp2_with fail
  have hacc : Below W2.heap.size W2 w4.drew := Rt.belowD2 HACC.out
  have hkeep := HK.out _ hacc
  go_region_held3 (fun w' => (w'.cell? ⟨w.heap.size, 0, none⟩ = some (.bool s1) ∧ w'.cell? ⟨w.heap.size, 1, none⟩ = some (.slice a1 l1 c1) ∧ w'.cell? ⟨w.heap.size, 2, none⟩ = some (.slice a2 l2 c2) ∧ w'.cell? ⟨w.heap.size, 3, none⟩ = some (.bool s2) ∧ w'.cell? ⟨w.heap.size, 4, none⟩ = some (.slice a3 l3 c3) ∧ w'.cell? ⟨w.heap.size, 5, none⟩ = some (.slice a4 l4 c4)) ∧ (w'.cell? ⟨w.heap.size + 1, 0, none⟩ = some (.bool s3) ∧ w'.cell? ⟨w.heap.size + 1, 1, none⟩ = some (.slice a5 l5 c5) ∧ w'.cell? ⟨w.heap.size + 1, 2, none⟩ = some (.slice a6 l6 c6) ∧ w'.cell? ⟨w.heap.size + 1, 3, none⟩ = some (.bool s4) ∧ w'.cell? ⟨w.heap.size + 1, 4, none⟩ = some (.slice a7 l7 c7) ∧ w'.cell? ⟨w.heap.size + 1, 5, none⟩ = some (.slice a8 l8 c8)))
    (first | exact hkeep | exact hkeepX)
    (first
      | (go_at_call_of 123 a1
         refine (KS1 _ _ _ (HI.out _ (HB.out _ hacc)).1.1 (HI.out _ (HB.out _ hacc)).1.2).mono ?_
         rintro x w5 ⟨v5, rfl, hv5, hb5⟩
         have hacc := hacc.trans (hb5.mono hacc.size)
         have hkeep := HK.out _ hacc)
      | (go_at_call_of 123 a3
         refine (KS2 _ _ _ (HI.out _ (HB.out _ hacc)).2.1 (HI.out _ (HB.out _ hacc)).2.2).mono ?_
         rintro x w6 ⟨v6, rfl, hv6, hb6⟩
         have hv5 := Rt.R.below hv5 hb6 (Nat.le_refl _)
         have hacc := hacc.trans (hb6.mono hacc.size)
         have hkeep := HK.out _ hacc)
      | (go_at_call 125
         refine (KF _ _ _ hv5 hv6).mono ?_
         rintro x w7 ⟨v7, rfl, hv7, hf7, hb7⟩
         have hf7 := Lib.hid (hf7.mono (HZ.out _ hacc))
         have hacc := hacc.trans (hb7.mono hacc.size)
         have hkeep := HK.out _ hacc
         obtain ⟨tvx, bvx, tvy, bvy, rfl, hn5, hd5, hn6, hd6⟩ := hv7
         obtain ⟨a9, c9, rfl⟩ := Nt.In.slice hn5
         obtain ⟨a10, c10, rfl⟩ := Nt.In.slice hd5
         obtain ⟨a11, c11, rfl⟩ := Nt.In.slice hn6
         obtain ⟨a12, c12, rfl⟩ := Nt.In.slice hd6
         obtain ⟨X1, X2, X3, X4, X5, X6, ⟨f0, z0, s0⟩, ⟨f1, z1, s1'⟩, ⟨f2, z2, s2'⟩, ⟨f3, z3, s3'⟩, ⟨f4, z4, s4'⟩, ⟨f5, z5, s5'⟩, ⟨r0, r1', r2', r3, r4, r5⟩, HX⟩ := Rt.put6 (HR.out _ hacc) (.bool r1) (.slice a9 (Nt.dig x1).length c9) (.slice a10 (Nt.dig y1).length c10) (.bool r2) (.slice a11 (Nt.dig x2).length c11) (.slice a12 (Nt.dig y2).length c12)
         have HOUT : Hid (Rt.Q X6 (.agg #[.bool r1, .slice a9 (Nt.dig x1).length c9, .slice a10 (Nt.dig y1).length c10, .bool r2, .slice a11 (Nt.dig x2).length c11, .slice a12 (Nt.dig y2).length c12]) r1 x1 y1 r2 x2 y2 ∧ Below w.heap.size w X6) := Lib.hid ⟨⟨_, _, _, _, rfl, Nt.In.othr hn5 (HR.out _ hacc) Rt.noWords6 HX.out.2.2.1 HX.out.2.1, Nt.In.othr hd5 (HR.out _ hacc) Rt.noWords6 HX.out.2.2.1 HX.out.2.1, Nt.In.othr hn6 (HR.out _ hacc) Rt.noWords6 HX.out.2.2.1 HX.out.2.1, Nt.In.othr hd6 (HR.out _ hacc) Rt.noWords6 HX.out.2.2.1 HX.out.2.1⟩, HX.out.2.2.2 _ _ (HB.out _ hacc) (by omega)⟩
         have hkeepX := HKX.out _ X6 hacc HX.out.2.2.1))
  all_goals
    clear hkeep hkeepX hacc hb5 hb6 hb7 hn5 hd5 hn6 hd6 HX hv5 hv6
    generalize (Nt.dig x1).length = m1 at *
    generalize (Nt.dig y1).length = m2 at *
    generalize (Nt.dig x2).length = m3 at *
    generalize (Nt.dig y2).length = m4 at *
    go_wp2_with fail
    refine bodyPost_ret (v := .tuple #[.agg #[.bool r1, .slice a9 m1 c9, .slice a10 m2 c10, .bool r2, .slice a11 m3 c11, .slice a12 m4 c12], .int .i64 0]) (by simp [results, Tryz.results80, go_sem, r0, r1', r2', r3, r4, r5]) rfl ⟨_, rfl, HOUT.out.1, hf7.out, HOUT.out.2⟩
end Go.Proofs.YtikmebkfdpbidaaGreatDoor
namespace Go.Proofs.YtikmebkfdpbidaaGreatDoor
open Go.RowKit
set_option linter.unusedVariables false
set_option linter.unusedSimpArgs false

/-- What a sound number is, in plain Lean. -/
structure Rt.Snd (s : Bool) (t b : Nat) : Prop where
  l1 : (Nt.dig t).length ≤ 512
  l2 : (Nt.dig b).length ≤ 512
  pos : 0 < b
  cop : Nat.gcd t b = 1
  sgn : t = 0 → s = false
theorem Rt.Snd.sound {s : Bool} {t b : Nat} (h : Rt.Snd s t b) : Rt.sound s (Nt.dig t) (Nt.dig b) = true := by
  unfold Rt.sound
  rw [Nt.sound_dig, Nt.sound_dig, Nt.val_dig, Nt.val_dig]
  have hb := Nt.dig_len_pos.2 h.pos
  have h1 := h.l1
  have h2 := h.l2
  have h3 := h.cop
  have h4 : (!(decide ((Nt.dig t).length = 0) && s)) = true := by
    rcases Nat.eq_zero_or_pos t with h0 | h0
    · rw [h.sgn h0]; simp
    · have := Nt.dig_len_pos.2 h0
      have h5 : ¬ (Nt.dig t).length = 0 := by omega
      simp [h5]
  have h5 : ¬ (Nt.dig b).length = 0 := by omega
  rw [h4]
  simp [h1, h2, h3, h5]
/-- Words that make a sound fraction are those of its numbers. -/
theorem Rt.Snd.of {s : Bool} {t b : List Nat} (h1 : Nt.Wd t) (h2 : Nt.Wd b) (h : Rt.sound s t b = true) : t = Nt.dig (Nt.val t) ∧ b = Nt.dig (Nt.val b) ∧ Rt.Snd s (Nt.val t) (Nt.val b) := by
  unfold Rt.sound at h
  simp only [Bool.and_eq_true, decide_eq_true_eq] at h
  obtain ⟨⟨⟨⟨a1, a2⟩, a3⟩, a4⟩, a5⟩ := h
  obtain ⟨et, lt⟩ := Nt.sound_eq h1 a1
  obtain ⟨eb, lb⟩ := Nt.sound_eq h2 a2
  refine ⟨et, eb, by rw [← et]; exact lt, by rw [← eb]; exact lb, ?_, a5, fun h0 => ?_⟩
  · rcases Nat.eq_zero_or_pos (Nt.val b) with h0 | h0
    · rw [h0, Nt.dig_zero] at eb
      rw [eb] at a3
      exact absurd rfl a3
    · exact h0
  · rw [h0, Nt.dig_zero] at et
    rw [et] at a4
    simpa using a4
theorem Rt.GN.of_Q {w : World} {v : Value} {s s2 : Bool} {t b t2 b2 : Nat} (h : Rt.Q w v s t b s2 t2 b2) (h1 : Rt.Snd s t b) (h2 : Rt.Snd s2 t2 b2) : Rt.GN w v s (Nt.dig t) (Nt.dig b) s2 (Nt.dig t2) (Nt.dig b2) := by
  obtain ⟨tv1, bv1, tv2, bv2, e, hn1, hd1, hn2, hd2⟩ := h
  exact ⟨⟨tv1, bv1, tv2, bv2, e, hn1, hd1, hn2, hd2⟩, ⟨Nt.dig_wd _, Nt.dig_wd _, Nat.le_trans h1.l1 (by decide), Nat.le_trans h1.l2 (by decide)⟩, ⟨Nt.dig_wd _, Nt.dig_wd _, Nat.le_trans h2.l1 (by decide), Nat.le_trans h2.l2 (by decide)⟩⟩
theorem Rt.SoundAt.of_Q {w : World} {v : Value} {s s2 : Bool} {t b t2 b2 : Nat} (h : Rt.Q w v s t b s2 t2 b2) (h1 : Rt.Snd s t b) (h2 : Rt.Snd s2 t2 b2) : Rt.SoundAt w v :=
  Rt.SoundAt.of (Rt.GN.of_Q h h1 h2) (by unfold Rt.soundN; rw [h1.sound, h2.sound]; rfl)
theorem Rt.ratS_snd {s : Bool} {t b : Nat} (h : Rt.Snd s t b) : Rt.ratS s t b = (s, t, b) := by
  unfold Rt.ratS
  rw [h.cop, Nat.div_one, Nat.div_one]
  rcases Nat.eq_zero_or_pos t with h0 | h0
  · rw [h.sgn h0]; simp
  · simp [h0]
theorem Rt.sum_nought {s : Bool} {t b : Nat} (h : Rt.Snd s t b) : Rt.sumS s t b false 0 1 = (s, t, b) := by
  unfold Rt.sumS
  rw [Nat.mul_one, Nat.zero_mul, Nat.mul_one]
  split
  · rw [Nat.add_zero]; exact Rt.ratS_snd h
  · rw [if_pos (Nat.zero_le _), Nat.sub_zero]; exact Rt.ratS_snd h
theorem Rt.Snd.nought : Rt.Snd false 0 1 := ⟨by rw [Nt.dig_zero]; decide, by rw [Nt.dig_small (by decide) (by decide)]; decide, by decide, by decide, fun _ => rfl⟩
/-- The numbers of 64 bits. -/
theorem Rt.Snd.int {s : Bool} {t : Nat} (ht : t < 18446744073709551616) (hs : t = 0 → s = false) : Rt.Snd s t 1 := by
  refine ⟨?_, by rw [Nt.dig_small (by decide) (by decide)]; decide, by decide, Nat.gcd_one_right t, hs⟩
  rcases Nat.lt_or_ge (Nt.dig t).length 513 with h | h
  · omega
  · exfalso
    rcases Nat.eq_zero_or_pos t with h0 | h0
    · rw [h0, Nt.dig_zero] at h; simp at h
    · have h1 := Nt.dig_pow_le h0
      have h2 : 4294967296 ^ 2 ≤ 4294967296 ^ ((Nt.dig t).length - 1) := Nat.pow_le_pow_right (by decide) (by omega)
      omega
set_option maxHeartbeats 8000000 in
set_option maxRecDepth 1000000 in
theorem Rt.Int_any (n : Int) (w : World) (h0 : -9223372036854775808 ≤ n) (h1 : n ≤ 9223372036854775807) :
    Calls Tryz.prog 19 #[.int .i64 n] w fun e w' => ∃ v', e = .returned v' ∧ Rt.Q w' v' (decide (n < 0)) n.natAbs 1 false 0 1 ∧ Below w.heap.size w w' := by
  have KO := fun w => Nt.Of_any n.natAbs w (by omega)
  have KW := fun v w h => Rt.whole_any (decide (n < 0)) n.natAbs v w h (by have := (Rt.Snd.int (s := false) (t := n.natAbs) (by omega) (fun _ => rfl)).l1; omega)
  have KZ := fun w => Rt.whole_any false 0 (.slice none 0 0) w (Nt.N.zero w) (by rw [Nt.dig_zero]; decide)
  have hsg : (decide (n < 0) && decide (0 < n.natAbs)) = decide (n < 0) := by
    by_cases h : n < 0
    · simp [h]; omega
    · simp [h]
  rw [hsg] at KW
  obtain ⟨m, hm⟩ : ∃ m, n.natAbs = m := ⟨_, rfl⟩
  rw [hm] at KO KW ⊢
  obtain ⟨W, hW⟩ : ∃ z, w.alloc (.cells #[.bool false, .slice none 0 0, .slice none 0 0, .bool false, .slice none 0 0, .slice none 0 0] 26) = z := ⟨_, rfl⟩
  have q0 : W.heap[w.heap.size]? = some (.cells #[.bool false, .slice none 0 0, .slice none 0 0, .bool false, .slice none 0 0, .slice none 0 0] 26 (0, 0)) := by rw [← hW]; exact heap_alloc_new w _
  have hb0 : Below w.heap.size w W := by rw [← hW]; exact (Below.refl _ _).alloc (Nat.le_refl _) _
  have HB0 := Lib.hid hb0
  have HQ0 := Lib.hid q0
  clear hb0 q0 hsg
  by_cases hn : n < 0
  · have hu : IntKind.u64.wrap n = 18446744073709551616 - (m : Int) := by rw [IntKind.wrap_u64]; omega
    have hu2 : IntKind.u64.wrap (-(18446744073709551616 - (m : Int))) = (m : Int) := by rw [IntKind.wrap_u64]; omega
    have hd : decide (n < 0) = true := decide_eq_true hn
    rw [hd] at KW ⊢
    clear hm hd
    go_enter Tryz.func19, Tryz.ntmps19
    go_wp2_with fail
    refine (KO _).mono ?_
    rintro x w1 ⟨v1, rfl, hn1, hb1⟩
    have HN1 := Lib.hid hn1
    have HB1 := Lib.hid (HB0.out.trans (hb1.mono HB0.out.size))
    have HQ1 := Lib.hid ((hb1.block w.heap.size (Array.getElem?_eq_some_iff.1 HQ0.out).1).trans HQ0.out)
    clear hn1 hb1 hW
    go_wp2_with fail
    refine (KW _ _ HN1.out).mono ?_
    rintro x w2 ⟨v2, rfl, hr2, hb2⟩
    have HR2 := Lib.hid hr2
    have HB2 := Lib.hid (HB1.out.trans (hb2.mono HB1.out.size))
    have HQ2 := Lib.hid ((hb2.block w.heap.size (Array.getElem?_eq_some_iff.1 HQ1.out).1).trans HQ1.out)
    clear hr2 hb2
    go_wp2_with fail
    refine (KZ _).mono ?_
    rintro x w3 ⟨v3, rfl, hr3, hb3⟩
    obtain ⟨tvx, bvx, rfl, hn5, hd5⟩ := Rt.R.below HR2.out hb3 (Nat.le_refl _)
    obtain ⟨tvy, bvy, rfl, hn6, hd6⟩ := hr3
    have hb3w := HB2.out.trans (hb3.mono HB2.out.size)
    have hq3 := (hb3.block w.heap.size (Array.getElem?_eq_some_iff.1 HQ2.out).1).trans HQ2.out
    obtain ⟨a9, c9, rfl⟩ := Nt.In.slice hn5
    obtain ⟨a10, c10, rfl⟩ := Nt.In.slice hd5
    obtain ⟨a11, c11, rfl⟩ := Nt.In.slice hn6
    obtain ⟨a12, c12, rfl⟩ := Nt.In.slice hd6
    obtain ⟨X1, X2, X3, X4, X5, X6, ⟨f0, z0, s0⟩, ⟨f1, z1, s1'⟩, ⟨f2, z2, s2'⟩, ⟨f3, z3, s3'⟩, ⟨f4, z4, s4'⟩, ⟨f5, z5, s5'⟩, ⟨r0, r1', r2', r3, r4, r5⟩, HX⟩ := Rt.put6 hq3 (.bool true) (.slice a9 (Nt.dig m).length c9) (.slice a10 (Nt.dig 1).length c10) (.bool false) (.slice a11 (Nt.dig 0).length c11) (.slice a12 (Nt.dig 1).length c12)
    have HOUT : Hid (Rt.Q X6 (.agg #[.bool true, .slice a9 (Nt.dig m).length c9, .slice a10 (Nt.dig 1).length c10, .bool false, .slice a11 (Nt.dig 0).length c11, .slice a12 (Nt.dig 1).length c12]) true m 1 false 0 1 ∧ Below w.heap.size w X6) := Lib.hid ⟨⟨_, _, _, _, rfl, Nt.In.othr hn5 hq3 Rt.noWords6 HX.out.2.2.1 HX.out.2.1, Nt.In.othr hd5 hq3 Rt.noWords6 HX.out.2.2.1 HX.out.2.1, Nt.In.othr hn6 hq3 Rt.noWords6 HX.out.2.2.1 HX.out.2.1, Nt.In.othr hd6 hq3 Rt.noWords6 HX.out.2.2.1 HX.out.2.1⟩, HX.out.2.2.2 _ _ hb3w (Nat.le_refl _)⟩
    clear hn5 hd5 hn6 hd6 hb3w hq3 HX hb3
    generalize (Nt.dig m).length = m1 at *
    generalize (Nt.dig 1).length = m2 at *
    generalize (Nt.dig 0).length = m3 at *
    go_wp2_with fail
    refine bodyPost_ret (v := .agg #[.bool true, .slice a9 m1 c9, .slice a10 m2 c10, .bool false, .slice a11 m3 c11, .slice a12 m2 c12]) (by simp [results, Tryz.results19, go_sem, r0, r1', r2', r3, r4, r5]) rfl ⟨_, rfl, HOUT.out.1, HOUT.out.2⟩
  · have hu : IntKind.u64.wrap n = (m : Int) := by rw [IntKind.wrap_u64]; omega
    have hu3 : n = (m : Int) := by omega
    have hd : decide (n < 0) = false := decide_eq_false hn
    rw [hd] at KW ⊢
    clear hm hd
    subst hu3
    have hu4 : ¬ (m : Int) < 0 := by omega
    clear hu hn
    go_enter Tryz.func19, Tryz.ntmps19
    go_wp2_with fail
    refine (KO _).mono ?_
    rintro x w1 ⟨v1, rfl, hn1, hb1⟩
    have HN1 := Lib.hid hn1
    have HB1 := Lib.hid (HB0.out.trans (hb1.mono HB0.out.size))
    have HQ1 := Lib.hid ((hb1.block w.heap.size (Array.getElem?_eq_some_iff.1 HQ0.out).1).trans HQ0.out)
    clear hn1 hb1 hW
    go_wp2_with fail
    refine (KW _ _ HN1.out).mono ?_
    rintro x w2 ⟨v2, rfl, hr2, hb2⟩
    have HR2 := Lib.hid hr2
    have HB2 := Lib.hid (HB1.out.trans (hb2.mono HB1.out.size))
    have HQ2 := Lib.hid ((hb2.block w.heap.size (Array.getElem?_eq_some_iff.1 HQ1.out).1).trans HQ1.out)
    clear hr2 hb2
    go_wp2_with fail
    refine (KZ _).mono ?_
    rintro x w3 ⟨v3, rfl, hr3, hb3⟩
    obtain ⟨tvx, bvx, rfl, hn5, hd5⟩ := Rt.R.below HR2.out hb3 (Nat.le_refl _)
    obtain ⟨tvy, bvy, rfl, hn6, hd6⟩ := hr3
    have hb3w := HB2.out.trans (hb3.mono HB2.out.size)
    have hq3 := (hb3.block w.heap.size (Array.getElem?_eq_some_iff.1 HQ2.out).1).trans HQ2.out
    obtain ⟨a9, c9, rfl⟩ := Nt.In.slice hn5
    obtain ⟨a10, c10, rfl⟩ := Nt.In.slice hd5
    obtain ⟨a11, c11, rfl⟩ := Nt.In.slice hn6
    obtain ⟨a12, c12, rfl⟩ := Nt.In.slice hd6
    obtain ⟨X1, X2, X3, X4, X5, X6, ⟨f0, z0, s0⟩, ⟨f1, z1, s1'⟩, ⟨f2, z2, s2'⟩, ⟨f3, z3, s3'⟩, ⟨f4, z4, s4'⟩, ⟨f5, z5, s5'⟩, ⟨r0, r1', r2', r3, r4, r5⟩, HX⟩ := Rt.put6 hq3 (.bool false) (.slice a9 (Nt.dig m).length c9) (.slice a10 (Nt.dig 1).length c10) (.bool false) (.slice a11 (Nt.dig 0).length c11) (.slice a12 (Nt.dig 1).length c12)
    have HOUT : Hid (Rt.Q X6 (.agg #[.bool false, .slice a9 (Nt.dig m).length c9, .slice a10 (Nt.dig 1).length c10, .bool false, .slice a11 (Nt.dig 0).length c11, .slice a12 (Nt.dig 1).length c12]) false m 1 false 0 1 ∧ Below w.heap.size w X6) := Lib.hid ⟨⟨_, _, _, _, rfl, Nt.In.othr hn5 hq3 Rt.noWords6 HX.out.2.2.1 HX.out.2.1, Nt.In.othr hd5 hq3 Rt.noWords6 HX.out.2.2.1 HX.out.2.1, Nt.In.othr hn6 hq3 Rt.noWords6 HX.out.2.2.1 HX.out.2.1, Nt.In.othr hd6 hq3 Rt.noWords6 HX.out.2.2.1 HX.out.2.1⟩, HX.out.2.2.2 _ _ hb3w (Nat.le_refl _)⟩
    clear hn5 hd5 hn6 hd6 hb3w hq3 HX hb3
    generalize (Nt.dig m).length = m1 at *
    generalize (Nt.dig 1).length = m2 at *
    generalize (Nt.dig 0).length = m3 at *
    go_wp2_with fail
    refine bodyPost_ret (v := .agg #[.bool false, .slice a9 m1 c9, .slice a10 m2 c10, .bool false, .slice a11 m3 c11, .slice a12 m2 c12]) (by simp [results, Tryz.results19, go_sem, r0, r1', r2', r3, r4, r5]) rfl ⟨_, rfl, HOUT.out.1, HOUT.out.2⟩
end Go.Proofs.YtikmebkfdpbidaaGreatDoor
namespace Go.Proofs.YtikmebkfdpbidaaGreatDoor
open Go.RowKit
set_option linter.unusedVariables false
set_option linter.unusedSimpArgs false

/-- Block b is cells that can be written. -/
def Tr.Blk (w : World) (b : Nat) (cur : Array Value) : Prop := ∃ t, w.heap[b]? = some (.cells cur t (0, 0))
theorem Tr.Blk.lt {w : World} {b : Nat} {cur : Array Value} (h : Tr.Blk w b cur) : b < w.heap.size := by
  obtain ⟨t, h⟩ := h
  exact (Array.getElem?_eq_some_iff.1 h).1
theorem Tr.Blk.cell {w : World} {b : Nat} {cur : Array Value} (h : Tr.Blk w b cur) (k : Nat) : w.cell? ⟨b, k, none⟩ = cur[k]? := by
  obtain ⟨t, h⟩ := h
  exact Dt.cell_of h k
theorem Tr.Blk.frozen {w : World} {b : Nat} {cur : Array Value} (h : Tr.Blk w b cur) (k : Nat) : w.frozen? ⟨b, k, none⟩ = false := by
  obtain ⟨t, h⟩ := h
  exact Dt.frozen_of h k
theorem Tr.Blk.set {w : World} {b : Nat} {cur : Array Value} (h : Tr.Blk w b cur) (k : Nat) (u : Value) : Tr.Blk (w.setCell ⟨b, k, none⟩ u) b (cur.set! k u) := by
  obtain ⟨t, h⟩ := h
  exact ⟨t, Dt.setCells h k u⟩
theorem Tr.Blk.kept {w w' : World} {b : Nat} {cur : Array Value} (h : Tr.Blk w b cur) (e : w'.heap[b]? = w.heap[b]?) : Tr.Blk w' b cur := by
  obtain ⟨t, h⟩ := h
  exact ⟨t, e.trans h⟩
/-- One cell stored. -/
theorem Tr.Blk.put {w : World} {b : Nat} {cur : Array Value} (h : Tr.Blk w b cur) (k : Nat) (hk : k < cur.size) (u : Value) :
    ∃ (x : Value) (W : World), w.cell? ⟨b, k, none⟩ = some x ∧ w.frozen? ⟨b, k, none⟩ = false ∧ w.setCell ⟨b, k, none⟩ u = W ∧ Tr.Blk W b (cur.set! k u) ∧ W.heap.size = w.heap.size ∧ (∀ q, q ≠ b → W.heap[q]? = w.heap[q]?) ∧ W.os = w.os ∧ W.tape = w.tape ∧ W.output = w.output :=
  ⟨cur[k], _, by rw [h.cell k, Array.getElem?_eq_getElem hk], h.frozen k, rfl, h.set k u, by simp, fun q hq => Below.heap_setCell _ _ _ _ hq, rfl, rfl, rfl⟩
theorem Tr.set_get (cur : Array Value) (k j : Nat) (u : Value) (hk : k < cur.size) : (cur.set! k u)[j]? = if j = k then some u else cur[j]? := by
  rw [Array.set!_eq_setIfInBounds, Array.getElem?_setIfInBounds]
  by_cases h : k = j
  · subst h; rw [if_pos rfl, if_pos hk, if_pos rfl]
  · rw [if_neg h, if_neg (fun e => h e.symm)]
theorem Tr.set_size (cur : Array Value) (k : Nat) (u : Value) : (cur.set! k u).size = cur.size := by simp
/-- Six cells stored. -/
theorem Tr.Blk.put6 {w : World} {b : Nat} {cur : Array Value} (h : Tr.Blk w b cur) (off : Nat) (hoff : off + 6 ≤ cur.size) (u0 u1 u2 u3 u4 u5 : Value) :
    ∃ (x0 x1 x2 x3 x4 x5 : Value) (W1 W2 W3 W4 W5 W6 : World) (cur' : Array Value),
    (w.cell? ⟨b, off, none⟩ = some x0 ∧ w.frozen? ⟨b, off, none⟩ = false ∧ w.setCell ⟨b, off, none⟩ u0 = W1) ∧
    (W1.cell? ⟨b, off + 1, none⟩ = some x1 ∧ W1.frozen? ⟨b, off + 1, none⟩ = false ∧ W1.setCell ⟨b, off + 1, none⟩ u1 = W2) ∧
    (W2.cell? ⟨b, off + 2, none⟩ = some x2 ∧ W2.frozen? ⟨b, off + 2, none⟩ = false ∧ W2.setCell ⟨b, off + 2, none⟩ u2 = W3) ∧
    (W3.cell? ⟨b, off + 3, none⟩ = some x3 ∧ W3.frozen? ⟨b, off + 3, none⟩ = false ∧ W3.setCell ⟨b, off + 3, none⟩ u3 = W4) ∧
    (W4.cell? ⟨b, off + 4, none⟩ = some x4 ∧ W4.frozen? ⟨b, off + 4, none⟩ = false ∧ W4.setCell ⟨b, off + 4, none⟩ u4 = W5) ∧
    (W5.cell? ⟨b, off + 5, none⟩ = some x5 ∧ W5.frozen? ⟨b, off + 5, none⟩ = false ∧ W5.setCell ⟨b, off + 5, none⟩ u5 = W6) ∧
    Hid (Tr.Blk W6 b cur' ∧ cur'.size = cur.size ∧ W6.heap.size = w.heap.size ∧ (∀ q, q ≠ b → W6.heap[q]? = w.heap[q]?) ∧ (∀ j, j < 6 → cur'[off + j]? = (#[u0, u1, u2, u3, u4, u5] : Array Value)[j]?) ∧ (∀ o, (o < off ∨ off + 6 ≤ o) → cur'[o]? = cur[o]?) ∧ (W6.os = w.os ∧ W6.tape = w.tape ∧ W6.output = w.output)) := by
  obtain ⟨x0, W1, f0, z0, s0, g1, n0, o0, p0, q0, r0⟩ := h.put (off + 0) (by first | omega | (simp only [Tr.set_size]; omega)) u0
  obtain ⟨x1, W2, f1, z1, s1, g2, n1, o1, p1, q1, r1⟩ := g1.put (off + 1) (by first | omega | (simp only [Tr.set_size]; omega)) u1
  obtain ⟨x2, W3, f2, z2, s2, g3, n2, o2, p2, q2, r2⟩ := g2.put (off + 2) (by first | omega | (simp only [Tr.set_size]; omega)) u2
  obtain ⟨x3, W4, f3, z3, s3, g4, n3, o3, p3, q3, r3⟩ := g3.put (off + 3) (by first | omega | (simp only [Tr.set_size]; omega)) u3
  obtain ⟨x4, W5, f4, z4, s4, g5, n4, o4, p4, q4, r4⟩ := g4.put (off + 4) (by first | omega | (simp only [Tr.set_size]; omega)) u4
  obtain ⟨x5, W6, f5, z5, s5, g6, n5, o5, p5, q5, r5⟩ := g5.put (off + 5) (by first | omega | (simp only [Tr.set_size]; omega)) u5
  refine ⟨x0, x1, x2, x3, x4, x5, W1, W2, W3, W4, W5, W6, _, ⟨f0, z0, s0⟩, ⟨f1, z1, s1⟩, ⟨f2, z2, s2⟩, ⟨f3, z3, s3⟩, ⟨f4, z4, s4⟩, ⟨f5, z5, s5⟩, Lib.hid ⟨g6, by simp only [Tr.set_size], by omega, fun q hq => ?_, fun j hj => ?_, fun o ho => ?_, ?_⟩⟩
  · rw [o5 q hq, o4 q hq, o3 q hq, o2 q hq, o1 q hq, o0 q hq]
  · repeat rw [Tr.set_get _ _ _ _ (by first | omega | (simp only [Tr.set_size]; omega))]
    rcases (show j = 0 ∨ j = 1 ∨ j = 2 ∨ j = 3 ∨ j = 4 ∨ j = 5 by omega) with rfl | rfl | rfl | rfl | rfl | rfl <;> simp
  · repeat rw [Tr.set_get _ _ _ _ (by first | omega | (simp only [Tr.set_size]; omega))]
    repeat rw [if_neg (by omega)]
  · exact ⟨by rw [p5, p4, p3, p2, p1, p0], by rw [q5, q4, q3, q2, q1, q0], by rw [r5, r4, r3, r2, r1, r0]⟩
/-- Eleven cells stored. -/
theorem Tr.Blk.put11 {w : World} {b : Nat} {cur : Array Value} (h : Tr.Blk w b cur) (off : Nat) (hoff : off + 11 ≤ cur.size) (u0 u1 u2 u3 u4 u5 u6 u7 u8 u9 u10 : Value) :
    ∃ (x0 x1 x2 x3 x4 x5 x6 x7 x8 x9 x10 : Value) (W1 W2 W3 W4 W5 W6 W7 W8 W9 W10 W11 : World) (cur' : Array Value),
    (w.cell? ⟨b, off, none⟩ = some x0 ∧ w.frozen? ⟨b, off, none⟩ = false ∧ w.setCell ⟨b, off, none⟩ u0 = W1) ∧
    (W1.cell? ⟨b, off + 1, none⟩ = some x1 ∧ W1.frozen? ⟨b, off + 1, none⟩ = false ∧ W1.setCell ⟨b, off + 1, none⟩ u1 = W2) ∧
    (W2.cell? ⟨b, off + 2, none⟩ = some x2 ∧ W2.frozen? ⟨b, off + 2, none⟩ = false ∧ W2.setCell ⟨b, off + 2, none⟩ u2 = W3) ∧
    (W3.cell? ⟨b, off + 3, none⟩ = some x3 ∧ W3.frozen? ⟨b, off + 3, none⟩ = false ∧ W3.setCell ⟨b, off + 3, none⟩ u3 = W4) ∧
    (W4.cell? ⟨b, off + 4, none⟩ = some x4 ∧ W4.frozen? ⟨b, off + 4, none⟩ = false ∧ W4.setCell ⟨b, off + 4, none⟩ u4 = W5) ∧
    (W5.cell? ⟨b, off + 5, none⟩ = some x5 ∧ W5.frozen? ⟨b, off + 5, none⟩ = false ∧ W5.setCell ⟨b, off + 5, none⟩ u5 = W6) ∧
    (W6.cell? ⟨b, off + 6, none⟩ = some x6 ∧ W6.frozen? ⟨b, off + 6, none⟩ = false ∧ W6.setCell ⟨b, off + 6, none⟩ u6 = W7) ∧
    (W7.cell? ⟨b, off + 7, none⟩ = some x7 ∧ W7.frozen? ⟨b, off + 7, none⟩ = false ∧ W7.setCell ⟨b, off + 7, none⟩ u7 = W8) ∧
    (W8.cell? ⟨b, off + 8, none⟩ = some x8 ∧ W8.frozen? ⟨b, off + 8, none⟩ = false ∧ W8.setCell ⟨b, off + 8, none⟩ u8 = W9) ∧
    (W9.cell? ⟨b, off + 9, none⟩ = some x9 ∧ W9.frozen? ⟨b, off + 9, none⟩ = false ∧ W9.setCell ⟨b, off + 9, none⟩ u9 = W10) ∧
    (W10.cell? ⟨b, off + 10, none⟩ = some x10 ∧ W10.frozen? ⟨b, off + 10, none⟩ = false ∧ W10.setCell ⟨b, off + 10, none⟩ u10 = W11) ∧
    Hid (Tr.Blk W11 b cur' ∧ cur'.size = cur.size ∧ W11.heap.size = w.heap.size ∧ (∀ q, q ≠ b → W11.heap[q]? = w.heap[q]?) ∧ (∀ j, j < 11 → cur'[off + j]? = (#[u0, u1, u2, u3, u4, u5, u6, u7, u8, u9, u10] : Array Value)[j]?) ∧ (∀ o, (o < off ∨ off + 11 ≤ o) → cur'[o]? = cur[o]?) ∧ (W11.os = w.os ∧ W11.tape = w.tape ∧ W11.output = w.output)) := by
  obtain ⟨x0, W1, f0, z0, s0, g1, n0, o0, p0, q0, r0⟩ := h.put (off + 0) (by first | omega | (simp only [Tr.set_size]; omega)) u0
  obtain ⟨x1, W2, f1, z1, s1, g2, n1, o1, p1, q1, r1⟩ := g1.put (off + 1) (by first | omega | (simp only [Tr.set_size]; omega)) u1
  obtain ⟨x2, W3, f2, z2, s2, g3, n2, o2, p2, q2, r2⟩ := g2.put (off + 2) (by first | omega | (simp only [Tr.set_size]; omega)) u2
  obtain ⟨x3, W4, f3, z3, s3, g4, n3, o3, p3, q3, r3⟩ := g3.put (off + 3) (by first | omega | (simp only [Tr.set_size]; omega)) u3
  obtain ⟨x4, W5, f4, z4, s4, g5, n4, o4, p4, q4, r4⟩ := g4.put (off + 4) (by first | omega | (simp only [Tr.set_size]; omega)) u4
  obtain ⟨x5, W6, f5, z5, s5, g6, n5, o5, p5, q5, r5⟩ := g5.put (off + 5) (by first | omega | (simp only [Tr.set_size]; omega)) u5
  obtain ⟨x6, W7, f6, z6, s6, g7, n6, o6, p6, q6, r6⟩ := g6.put (off + 6) (by first | omega | (simp only [Tr.set_size]; omega)) u6
  obtain ⟨x7, W8, f7, z7, s7, g8, n7, o7, p7, q7, r7⟩ := g7.put (off + 7) (by first | omega | (simp only [Tr.set_size]; omega)) u7
  obtain ⟨x8, W9, f8, z8, s8, g9, n8, o8, p8, q8, r8⟩ := g8.put (off + 8) (by first | omega | (simp only [Tr.set_size]; omega)) u8
  obtain ⟨x9, W10, f9, z9, s9, g10, n9, o9, p9, q9, r9⟩ := g9.put (off + 9) (by first | omega | (simp only [Tr.set_size]; omega)) u9
  obtain ⟨x10, W11, f10, z10, s10, g11, n10, o10, p10, q10, r10⟩ := g10.put (off + 10) (by first | omega | (simp only [Tr.set_size]; omega)) u10
  refine ⟨x0, x1, x2, x3, x4, x5, x6, x7, x8, x9, x10, W1, W2, W3, W4, W5, W6, W7, W8, W9, W10, W11, _, ⟨f0, z0, s0⟩, ⟨f1, z1, s1⟩, ⟨f2, z2, s2⟩, ⟨f3, z3, s3⟩, ⟨f4, z4, s4⟩, ⟨f5, z5, s5⟩, ⟨f6, z6, s6⟩, ⟨f7, z7, s7⟩, ⟨f8, z8, s8⟩, ⟨f9, z9, s9⟩, ⟨f10, z10, s10⟩, Lib.hid ⟨g11, by simp only [Tr.set_size], by omega, fun q hq => ?_, fun j hj => ?_, fun o ho => ?_, ?_⟩⟩
  · rw [o10 q hq, o9 q hq, o8 q hq, o7 q hq, o6 q hq, o5 q hq, o4 q hq, o3 q hq, o2 q hq, o1 q hq, o0 q hq]
  · repeat rw [Tr.set_get _ _ _ _ (by first | omega | (simp only [Tr.set_size]; omega))]
    rcases (show j = 0 ∨ j = 1 ∨ j = 2 ∨ j = 3 ∨ j = 4 ∨ j = 5 ∨ j = 6 ∨ j = 7 ∨ j = 8 ∨ j = 9 ∨ j = 10 by omega) with rfl | rfl | rfl | rfl | rfl | rfl | rfl | rfl | rfl | rfl | rfl <;> simp
  · repeat rw [Tr.set_get _ _ _ _ (by first | omega | (simp only [Tr.set_size]; omega))]
    repeat rw [if_neg (by omega)]
  · exact ⟨by rw [p10, p9, p8, p7, p6, p5, p4, p3, p2, p1, p0], by rw [q10, q9, q8, q7, q6, q5, q4, q3, q2, q1, q0], by rw [r10, r9, r8, r7, r6, r5, r4, r3, r2, r1, r0]⟩
end Go.Proofs.YtikmebkfdpbidaaGreatDoor
namespace Go.Proofs.YtikmebkfdpbidaaGreatDoor
open Go.RowKit
set_option linter.unusedVariables false
set_option linter.unusedSimpArgs false

mutual
/-- Each node is sound by its kind. -/
def Tr.good : Tr → Prop
  | .mk h l => h.shape l.length = true ∧ Tr.goodL l
def Tr.goodL : List Tr → Prop
  | [] => True
  | t :: ts => Tr.good t ∧ Tr.goodL ts
end
theorem Tr.good_mk {h : Tr.Hd} {l : List Tr} : Tr.good (.mk h l) ↔ h.shape l.length = true ∧ Tr.goodL l := by rw [Tr.good]
theorem Tr.goodL_cons {t : Tr} {ts : List Tr} : Tr.goodL (t :: ts) ↔ Tr.good t ∧ Tr.goodL ts := by rw [Tr.goodL]
theorem Tr.goodL_nil : Tr.goodL [] := by rw [Tr.goodL]; trivial
theorem Tr.goodL_at : ∀ (l : List Tr), Tr.goodL l → ∀ (k : Nat) (t : Tr), l[k]? = some t → Tr.good t
  | [], _, k, t, h => by simp at h
  | x :: ts, hg, 0, t, h => by
    obtain rfl : x = t := by simpa using h
    exact (Tr.goodL_cons.1 hg).1
  | x :: ts, hg, k + 1, t, h => Tr.goodL_at ts (Tr.goodL_cons.1 hg).2 k t (by simpa using h)
mutual
theorem Tr.snd_good : ∀ (t : Tr) (d : Nat) (left : Int), (Tr.snd t d left).1 = true → Tr.good t
  | .mk h l, d, left, hs => by
    by_cases hb : left - 1 < 0 ∨ 200 < d ∨ h.shape l.length = false
    · rw [Tr.snd_bad hb] at hs; cases hs
    · have hsh : h.shape l.length = true := by
        cases e : h.shape l.length with
        | true => rfl
        | false => exact absurd (Or.inr (Or.inr e)) hb
      rw [Tr.good_mk]
      refine ⟨hsh, ?_⟩
      by_cases hk : h.k = 8
      · have hl := Tr.Hd.shape_pair hsh hk
        match l, hl with
        | [a, b], _ =>
          rw [Tr.snd_pair hb hk] at hs
          split at hs
          · rename_i h1
            exact Tr.goodL_cons.2 ⟨Tr.snd_good a _ _ h1, Tr.goodL_cons.2 ⟨Tr.snd_good b _ _ hs, Tr.goodL_nil⟩⟩
          · cases hs
      · rw [Tr.snd_list hb hk] at hs
        exact Tr.sndL_good l _ _ hs
theorem Tr.sndL_good : ∀ (l : List Tr) (d : Nat) (left : Int), (Tr.sndL l d left).1 = true → Tr.goodL l
  | [], d, left, _ => Tr.goodL_nil
  | t :: ts, d, left, hs => by
    rw [Tr.sndL_cons] at hs
    split at hs
    · rename_i h1
      exact Tr.goodL_cons.2 ⟨Tr.snd_good t _ _ h1, Tr.sndL_good ts _ _ hs⟩
    · cases hs
end
theorem Tr.sound_good {t : Tr} (h : Tr.sound t = true) : Tr.good t := Tr.snd_good t _ _ h
/-- A datum but for one node, which lies at oA in block bA: whatever stands there as 'cu' makes 't' of what stands at OB. -/
def Tr.Hole (B0 : Nat) (wr : World) (bA oA OB : Nat) (t cu : Tr) : Prop := ∀ (w'' : World) (C' : Array Value), wr.heap.size ≤ w''.heap.size → (∀ q, B0 ≤ q → q < wr.heap.size → q ≠ bA → w''.heap[q]? = wr.heap[q]?) → (∀ o, o < oA → w''.cell? ⟨bA, o, none⟩ = wr.cell? ⟨bA, o, none⟩) → Tr.In w'' (fun q => B0 ≤ q) cu (.agg C') → Tr.Mem w'' bA oA C' → ∃ Cout, Tr.Mem w'' OB 0 Cout ∧ Tr.In w'' (fun q => B0 ≤ q) t (.agg Cout)
theorem Tr.Hole.start (B0 : Nat) (w : World) (OB : Nat) (t : Tr) : Tr.Hole B0 w OB 0 OB t t := fun w'' C' _ _ _ hI hM => ⟨C', hM, hI⟩
theorem Tr.Hole.kept {B0 : Nat} {wr wr' : World} {bA oA OB : Nat} {t cu : Tr} (h : Tr.Hole B0 wr bA oA OB t cu) (hz : wr.heap.size ≤ wr'.heap.size) (hk : ∀ q, B0 ≤ q → q < wr.heap.size → q ≠ bA → wr'.heap[q]? = wr.heap[q]?) (hc : ∀ o, o < oA → wr'.cell? ⟨bA, o, none⟩ = wr.cell? ⟨bA, o, none⟩) : Tr.Hole B0 wr' bA oA OB t cu :=
  fun w'' C' h1 h2 h3 hI hM => h w'' C' (Nat.le_trans hz h1) (fun q a b c => (h2 q a (Nat.lt_of_lt_of_le b hz) c).trans (hk q a b c)) (fun o ho => (h3 o ho).trans (hc o ho)) hI hM
/-- Words that are none: their slice lies anywhere. -/
theorem Tr.none_in {w w' : World} {v : Value} {ws : List Nat} (h : Nt.In w v ws) (h0 : ws.length = 0) : Nt.In w' v ws := by
  rcases h with h | h | ⟨h1, _⟩
  · exact .inl h
  · exact .inr (.inl h)
  · omega
theorem Tr.none_raw {w w' : World} {v : Value} {s : ByteArray} (h : By.In w v s) (h0 : s.size = 0) : By.In w' v s := by
  rcases h with h | h | ⟨h1, _⟩
  · exact .inl h
  · exact .inr (.inl h)
  · omega
theorem Tr.On.zero (S : Nat → Prop) (v : Value) : Tr.On S v 0 := fun h => absurd h (by omega)
/-- The next hole: a pair whose first datum is copied and whose second is to be copied. -/
theorem Tr.Hole.next {B0 : Nat} {w0 wr : World} {bA oA OB Lb : Nat} {t : Tr} {hc : Tr.Hd} {a b : Tr} {u3 u4 u6 u7 v9 : Value} {Ca : Array Value}
    (h : Tr.Hole B0 w0 bA oA OB t (.mk hc [a, b])) (hz0 : w0.heap.size ≤ Lb) (hk0 : ∀ q, B0 ≤ q → q < w0.heap.size → q ≠ bA → wr.heap[q]? = w0.heap[q]?) (hc0 : ∀ o, o < oA → wr.cell? ⟨bA, o, none⟩ = w0.cell? ⟨bA, o, none⟩) (hlt : bA < wr.heap.size) (hLlt : Lb < wr.heap.size) (hne : bA ≠ Lb) (hB : B0 ≤ bA) (hBL : B0 ≤ Lb)
    (hH : Tr.Hd.In wr (fun q => B0 ≤ q ∧ q ≠ Lb) hc u3 u4 u6 u7 v9) (hA : Tr.In wr (fun q => B0 ≤ q ∧ q ≠ Lb) a (.agg Ca)) (hMA : Tr.Mem wr Lb 0 Ca)
    (hM : Tr.Mem wr bA oA (Tr.cells hc u3 u4 u6 u7 v9 (.slice (some ⟨Lb, 0, none⟩) 2 2))) : Tr.Hole B0 wr Lb 11 OB t b := by
  intro w'' C' h1 h2 h3 hI hMb
  have hk : Tr.Kept (fun q => B0 ≤ q ∧ q ≠ Lb) wr w'' := ⟨h1, fun q hq hl => h2 q hq.1 hl hq.2⟩
  have hM'' : Tr.Mem w'' bA oA (Tr.cells hc u3 u4 u6 u7 v9 (.slice (some ⟨Lb, 0, none⟩) 2 2)) := hM.kept hk ⟨hB, hne⟩ hlt
  have hMA'' : Tr.Mem w'' Lb 0 Ca := fun j hj => by
    obtain ⟨u, e1, e2⟩ := hMA j hj
    exact ⟨u, e1, (h3 (0 + j) (by omega)).trans e2⟩
  refine h w'' _ (by omega) (fun q q1 q2 q3 => (h2 q q1 (by omega) (by omega)).trans (hk0 q q1 q2 q3)) (fun o ho => (hk.cell ⟨hB, hne⟩ hlt).trans (hc0 o ho)) (?_ : Tr.In w'' (fun q => B0 ≤ q) (.mk hc [a, b]) (.agg (Tr.cells hc u3 u4 u6 u7 v9 (.slice (some ⟨Lb, 0, none⟩) 2 2)))) hM''
  rw [Tr.In_mk]
  refine ⟨u3, u4, u6, u7, v9, _, rfl, (hH.kept hk).mono (fun q hq => hq.1), .inr (.inr ⟨by simp, Lb, 0, 2, by simp, by simp, by decide, Nat.lt_of_lt_of_le hLlt h1, hBL, ?_⟩)⟩
  show Tr.All w'' (fun q => B0 ≤ q) [a, b] Lb 0
  rw [Tr.All_cons, Tr.All_cons]
  exact ⟨⟨Ca, Tr.In.mono (fun q hq => hq.1) a _ (Tr.In.kept hk a _ hA), hMA''⟩, ⟨C', hI, by simpa using hMb⟩, Tr.All_nil⟩
theorem Tr.Blk.mem {w : World} {b off : Nat} {cur C : Array Value} (h : Tr.Blk w b cur) (hm : ∀ j, j < 11 → cur[off + j]? = C[j]?) (hC : C.size = 11) : Tr.Mem w b off C := fun j hj =>
  ⟨C[j]'(by omega), Array.getElem?_eq_getElem _, (h.cell _).trans ((hm j hj).trans (Array.getElem?_eq_getElem _))⟩
theorem Tr.cases11 {P : Nat → Prop} (h0 : P 0) (h1 : P 1) (h2 : P 2) (h3 : P 3) (h4 : P 4) (h5 : P 5) (h6 : P 6) (h7 : P 7) (h8 : P 8) (h9 : P 9) (h10 : P 10) : ∀ j, j < 11 → P j := by
  intro j hj
  rcases (show j = 0 ∨ j = 1 ∨ j = 2 ∨ j = 3 ∨ j = 4 ∨ j = 5 ∨ j = 6 ∨ j = 7 ∨ j = 8 ∨ j = 9 ∨ j = 10 by omega) with rfl | rfl | rfl | rfl | rfl | rfl | rfl | rfl | rfl | rfl | rfl <;> assumption
theorem Tr.mem_set9 {cur : Array Value} {off : Nat} {h : Tr.Hd} {u3 u4 u6 u7 u9 u10 : Value} (hm : ∀ j, j < 11 → cur[off + j]? = (Tr.cells h u3 u4 u6 u7 u9 u10)[j]?) (hs : off + 11 ≤ cur.size) (v : Value) : ∀ j, j < 11 → (cur.set! (off + 9) v)[off + j]? = (Tr.cells h u3 u4 u6 u7 v u10)[j]? := by
  intro j hj
  rw [Tr.set_get _ _ _ _ (by omega)]
  by_cases e : j = 9
  · subst e; rw [if_pos rfl]; rfl
  · rw [if_neg (by omega), hm j hj]
    rcases (show j = 0 ∨ j = 1 ∨ j = 2 ∨ j = 3 ∨ j = 4 ∨ j = 5 ∨ j = 6 ∨ j = 7 ∨ j = 8 ∨ j = 10 by omega) with rfl | rfl | rfl | rfl | rfl | rfl | rfl | rfl | rfl | rfl <;> rfl
theorem Tr.mem_set10 {cur : Array Value} {off : Nat} {h : Tr.Hd} {u3 u4 u6 u7 u9 u10 : Value} (hm : ∀ j, j < 11 → cur[off + j]? = (Tr.cells h u3 u4 u6 u7 u9 u10)[j]?) (hs : off + 11 ≤ cur.size) (v : Value) : ∀ j, j < 11 → (cur.set! (off + 10) v)[off + j]? = (Tr.cells h u3 u4 u6 u7 u9 v)[j]? := by
  intro j hj
  rw [Tr.set_get _ _ _ _ (by omega)]
  by_cases e : j = 10
  · subst e; rw [if_pos rfl]; rfl
  · rw [if_neg (by omega), hm j hj]
    rcases (show j = 0 ∨ j = 1 ∨ j = 2 ∨ j = 3 ∨ j = 4 ∨ j = 5 ∨ j = 6 ∨ j = 7 ∨ j = 8 ∨ j = 9 by omega) with rfl | rfl | rfl | rfl | rfl | rfl | rfl | rfl | rfl | rfl <;> rfl
/-- The number's six cells, stored anew. -/
theorem Tr.mem_set6 {cur cur' : Array Value} {off : Nat} {h : Tr.Hd} {u3 u4 u6 u7 u9 u10 v3 v4 v6 v7 : Value} (hm : ∀ j, j < 11 → cur[off + j]? = (Tr.cells h u3 u4 u6 u7 u9 u10)[j]?) (h6 : ∀ j, j < 6 → cur'[off + 2 + j]? = (#[.bool h.s1, v3, v4, .bool h.s2, v6, v7] : Array Value)[j]?) (ho : ∀ o, (o < off + 2 ∨ off + 2 + 6 ≤ o) → cur'[o]? = cur[o]?) : ∀ j, j < 11 → cur'[off + j]? = (Tr.cells h v3 v4 v6 v7 u9 u10)[j]? := by
  refine Tr.cases11 ?_ ?_ ?_ ?_ ?_ ?_ ?_ ?_ ?_ ?_ ?_
  · exact (ho _ (by omega)).trans (hm 0 (by decide))
  · exact (ho _ (by omega)).trans (hm 1 (by decide))
  · exact h6 0 (by decide)
  · exact h6 1 (by decide)
  · exact h6 2 (by decide)
  · exact h6 3 (by decide)
  · exact h6 4 (by decide)
  · exact h6 5 (by decide)
  · exact (ho _ (by omega)).trans (hm 8 (by decide))
  · exact (ho _ (by omega)).trans (hm 9 (by decide))
  · exact (ho _ (by omega)).trans (hm 10 (by decide))
theorem Tr.Hole.setAt {B0 : Nat} {wr wr' : World} {bA oA OB : Nat} {t cu : Tr} {cur cur' : Array Value} (h : Tr.Hole B0 wr bA oA OB t cu) (hz : wr.heap.size ≤ wr'.heap.size) (hk : ∀ q, q ≠ bA → q < wr.heap.size → B0 ≤ q → wr'.heap[q]? = wr.heap[q]?) (h1 : Tr.Blk wr bA cur) (h2 : Tr.Blk wr' bA cur') (ho : ∀ o, o < oA → cur'[o]? = cur[o]?) : Tr.Hole B0 wr' bA oA OB t cu :=
  h.kept hz (fun q a b c => hk q c b a) (fun o hlt => by rw [h2.cell, h1.cell, ho o hlt])
theorem Tr.num_none {h : Tr.Hd} {n : Nat} (hs : h.shape n = true) (hk : h.k ≠ 3) : h.t1.length = 0 ∧ h.b1.length = 0 ∧ h.t2.length = 0 ∧ h.b2.length = 0 := by
  unfold Tr.Hd.shape at hs
  simp only [Bool.and_eq_true] at hs
  have h1 := hs.1.1.1.1
  unfold Tr.Hd.num at h1
  rw [if_neg hk] at h1
  unfold Rt.noRat at h1
  simp only [Bool.and_eq_true, decide_eq_true_eq] at h1
  exact ⟨h1.1.1.2, h1.1.2, h1.2.1.2, h1.2.2⟩
theorem Tr.num_sound {h : Tr.Hd} {n : Nat} (hs : h.shape n = true) (hk : h.k = 3) : Rt.sound h.s1 h.t1 h.b1 = true ∧ Rt.sound h.s2 h.t2 h.b2 = true := by
  unfold Tr.Hd.shape at hs
  simp only [Bool.and_eq_true] at hs
  have h1 := hs.1.1.1.1
  unfold Tr.Hd.num at h1
  rw [if_pos hk] at h1
  simpa using h1
theorem Rt.FrN.open {B B' : Nat} {s tv bv s2 tv2 bv2 : Value} (h : Rt.FrN B (.agg #[s, tv, bv, s2, tv2, bv2])) (hB : B' ≤ B) : Nt.Fr B' tv ∧ Nt.Fr B' bv ∧ Nt.Fr B' tv2 ∧ Nt.Fr B' bv2 := by
  obtain ⟨x0, x1, x2, x3, x4, x5, e, h1, h2, h3, h4⟩ := h
  simp only [Value.agg.injEq] at e
  have e1 : tv = x1 := by have := congrArg (fun a : Array Value => a[1]?) e; simpa using this
  have e2 : bv = x2 := by have := congrArg (fun a : Array Value => a[2]?) e; simpa using this
  have e4 : tv2 = x4 := by have := congrArg (fun a : Array Value => a[4]?) e; simpa using this
  have e5 : bv2 = x5 := by have := congrArg (fun a : Array Value => a[5]?) e; simpa using this
  subst e1 e2 e4 e5
  exact ⟨h1.mono hB, h2.mono hB, h3.mono hB, h4.mono hB⟩
def Tr.zeroV : Value := .agg #[.int .i64 0, .int .i64 0, .bool false, .slice none 0 0, .slice none 0 0, .bool false, .slice none 0 0, .slice none 0 0, .string ⟨#[]⟩, .slice none 0 0, .slice none 0 0]
theorem Tr.infoD : (Tryz.prog.info? 30).map (fun i => (i.zero, i.size, i.bytes)) = some (some Tr.zeroV, 11, 192) := by kernel_rfl
/-- A row of n data is made. -/
theorem Tr.make (n : Nat) (w : World) (hn : n ≤ 1000000) : ∃ cur : Array Value, cur.size = n * 11 ∧ (Instr.makeSlice 28 (.int .i64 (n : Int)) (.int .i64 (n : Int))).run Tryz.prog w = .ok (.slice (some ⟨w.heap.size, 0, none⟩) n n) (w.alloc (.cells cur 30)) := by
  obtain ⟨i0, hi, hz0, hz1, hz2⟩ := info_parts Tr.infoD
  have := run_makeSlice (P := Tryz.prog) w 28 30 i0 Tr.zeroV Tryz.underlying28 hi hz0 .i64 .i64 n n (by omega) (by omega) (by rw [hz1]; omega) (by rw [hz2]; omega) (by omega)
  refine ⟨_, ?_, by rw [this]; rfl⟩
  simp [madeCells, hz1]
theorem Tr.len_le_size : ∀ (l : List Tr), l.length ≤ Tr.sizeL l
  | [] => Nat.zero_le _
  | t :: ts => by
    have := Tr.len_le_size ts
    have := Tr.size_pos t
    rw [Tr.sizeL_cons, List.length_cons]; omega
mutual
theorem Tr.snd_left : ∀ (t : Tr) (d : Nat) (left : Int), (Tr.snd t d left).1 = true → (Tr.snd t d left).2 = left - Tr.size t
  | .mk h l, d, left, hs => by
    by_cases hb : left - 1 < 0 ∨ 200 < d ∨ h.shape l.length = false
    · rw [Tr.snd_bad hb] at hs; cases hs
    · have hsh : h.shape l.length = true := by
        cases e : h.shape l.length with
        | true => rfl
        | false => exact absurd (Or.inr (Or.inr e)) hb
      rw [Tr.size_mk]
      by_cases hk : h.k = 8
      · have hl := Tr.Hd.shape_pair hsh hk
        match l, hl with
        | [a, b], _ =>
          rw [Tr.snd_pair hb hk] at hs ⊢
          split at hs
          · rename_i h1
            rw [if_pos h1, Tr.snd_left b _ _ hs, Tr.snd_left a _ _ h1, Tr.sizeL_cons, Tr.sizeL_cons, Tr.sizeL_nil]
            omega
          · cases hs
      · rw [Tr.snd_list hb hk] at hs ⊢
        rw [Tr.sndL_left l _ _ hs]
        omega
theorem Tr.sndL_left : ∀ (l : List Tr) (d : Nat) (left : Int), (Tr.sndL l d left).1 = true → (Tr.sndL l d left).2 = left - Tr.sizeL l
  | [], d, left, _ => by rw [Tr.sndL_nil, Tr.sizeL_nil]; simp
  | t :: ts, d, left, hs => by
    rw [Tr.sndL_cons] at hs ⊢
    split at hs
    · rename_i h1
      rw [if_pos h1, Tr.sndL_left ts _ _ hs, Tr.snd_left t _ _ h1, Tr.sizeL_cons]
      omega
    · cases hs
end
/-- A sound datum has so many nodes at most. -/
theorem Tr.sound_size {t : Tr} (h : Tr.sound t = true) : Tr.size t ≤ 20000 := by
  have h1 := Tr.snd_left t 1 20000 h
  have h2 := (Tr.snd_le t 1 20000 (by decide)).2 h
  omega
end Go.Proofs.YtikmebkfdpbidaaGreatDoor
namespace Go.Proofs.YtikmebkfdpbidaaGreatDoor
open Go.RowKit
set_option linter.unusedVariables false

mutual
/-- Each text is short enough. -/
def Tr.txt : Tr → Prop
  | .mk h l => h.x.size ≤ 1048576 ∧ Tr.txtL l
def Tr.txtL : List Tr → Prop
  | [] => True
  | t :: ts => Tr.txt t ∧ Tr.txtL ts
end
theorem Tr.txt_mk {h : Tr.Hd} {l : List Tr} : Tr.txt (.mk h l) ↔ h.x.size ≤ 1048576 ∧ Tr.txtL l := by rw [Tr.txt]
theorem Tr.txtL_cons {t : Tr} {ts : List Tr} : Tr.txtL (t :: ts) ↔ Tr.txt t ∧ Tr.txtL ts := by rw [Tr.txtL]
theorem Tr.txtL_at : ∀ {l : List Tr}, Tr.txtL l → ∀ {k : Nat} {t : Tr}, l[k]? = some t → Tr.txt t
  | a :: r, h, 0, t, e => by
    simp only [List.getElem?_cons_zero, Option.some.injEq] at e
    subst e
    exact (Tr.txtL_cons.1 h).1
  | a :: r, h, k + 1, t, e => by
    simp only [List.getElem?_cons_succ] at e
    exact Tr.txtL_at (Tr.txtL_cons.1 h).2 e
theorem Tr.txtL_nil : Tr.txtL [] := by first | (rw [Tr.txtL]; trivial) | rw [Tr.txtL] | simp [Tr.txtL]
theorem Tr.txtL_of : ∀ {l : List Tr}, (∀ (k : Nat) (t : Tr), l[k]? = some t → Tr.txt t) → Tr.txtL l
  | [], _ => Tr.txtL_nil
  | a :: r, h => Tr.txtL_cons.2 ⟨h 0 a rfl, Tr.txtL_of (fun k t e => h (k + 1) t (by simpa using e))⟩
end Go.Proofs.YtikmebkfdpbidaaGreatDoor
namespace Go.Proofs.YtikmebkfdpbidaaGreatDoor
open Go.RowKit
set_option linter.unusedVariables false

/-- Bytes, with a blank between. -/
def Wt.raws : Bool → List UInt8 → List UInt8
  | _, [] => []
  | f, x :: xs => (if f = true then [] else [32]) ++ (Tx.dec x.toNat ++ Wt.raws false xs)
/-- A fraction's text without its sign. -/
def Wt.mag (t b : Nat) : List UInt8 := Tx.dec t ++ if b = 1 then [] else 47 :: Tx.dec b
/-- A number's text. -/
def Wt.cnum (s1 : Bool) (t1 b1 : Nat) (s2 : Bool) (t2 b2 : Nat) : List UInt8 :=
  if t2 = 0 then Tx.rat s1 t1 b1 else (if t1 = 0 then [] else Tx.rat s1 t1 b1) ++ ((if s2 = true then 45 else 43) :: ((if t2 = 1 ∧ b2 = 1 then [] else Wt.mag t2 b2) ++ [105]))
def Wt.num (h : Tr.Hd) : List UInt8 := Wt.cnum h.s1 (Nt.val h.t1) (Nt.val h.b1) h.s2 (Nt.val h.t2) (Nt.val h.b2)
/-- A datum that is no pair; R: the text of its list. -/
def Wt.atom (m : Bool) (h : Tr.Hd) (R : List UInt8) : List UInt8 :=
  if h.k = 1 then [40, 41] else if h.k = 2 then (if h.n = 1 then [35, 116] else [35, 102]) else if h.k = 3 then Wt.num h else if h.k = 4 then Wt.chr m h.n
  else if h.k = 5 then (if m = true then Wt.str h.x.data.toList else h.x.data.toList) else if h.k = 6 then (if m = true then Wt.sym h.x.data.toList else h.x.data.toList)
  else if h.k = 7 then [35, 118, 117, 56, 40] ++ (Wt.raws true h.raw.data.toList ++ [41]) else if h.k = 9 then [35, 40] ++ (R ++ [41])
  else if h.k = 10 then [35, 60, 118, 111, 105, 100, 62] else [35, 60] ++ (h.x.data.toList ++ [62])
/-- Is it the symbol quote? -/
def Wt.isQ : Tr → Bool
  | .mk h _ => decide (h.k = 6) && decide (h.x.data.toList = [113, 117, 111, 116, 101])
/-- Is it a pair whose second datum is nil? -/
def Wt.isOne : Tr → Bool
  | .mk h [_, .mk h2 _] => decide (h.k = 8) && decide (h2.k = 1)
  | _ => false
mutual
/-- A datum's text. -/
def Wt.tell (m : Bool) : Tr → List UInt8
  | .mk h l =>
    if h.k = 8 then
      match l with
      | [a, r] => if (Wt.isQ a && Wt.isOne r) = true then 39 :: Wt.quoted m r else 40 :: (Wt.tell m a ++ (Wt.tail m r ++ [41]))
      | _ => []
    else Wt.atom m h (Wt.row m true l)
/-- What stands behind a list's first datum. -/
def Wt.tail (m : Bool) : Tr → List UInt8
  | .mk h l =>
    if h.k = 8 then
      match l with
      | [a, r] => 32 :: (Wt.tell m a ++ Wt.tail m r)
      | _ => []
    else if h.k = 1 then [] else [32, 46, 32] ++ Wt.atom m h (Wt.row m true l)
/-- What is quoted. -/
def Wt.quoted (m : Bool) : Tr → List UInt8
  | .mk _ l =>
    match l with
    | [b, _] => Wt.tell m b
    | _ => []
/-- Data with a blank between. -/
def Wt.row (m : Bool) : Bool → List Tr → List UInt8
  | _, [] => []
  | f, t :: ts => (if f = true then [] else [32]) ++ (Wt.tell m t ++ Wt.row m false ts)
end
theorem Wt.tell_pair {m : Bool} {h : Tr.Hd} {a r : Tr} (hk : h.k = 8) (hq : (Wt.isQ a && Wt.isOne r) = false) : Wt.tell m (.mk h [a, r]) = 40 :: (Wt.tell m a ++ (Wt.tail m r ++ [41])) := by
  rw [Wt.tell]; simp only [hk, if_true, hq]; simp
theorem Wt.tell_quo {m : Bool} {h hr : Tr.Hd} {a b c : Tr} (hk : h.k = 8) (hq : (Wt.isQ a && Wt.isOne (.mk hr [b, c])) = true) : Wt.tell m (.mk h [a, .mk hr [b, c]]) = 39 :: Wt.tell m b := by
  rw [Wt.tell]; simp only [hk, if_true, hq]; rw [Wt.quoted]
theorem Wt.tell_atom {m : Bool} {h : Tr.Hd} {l : List Tr} (hk : h.k ≠ 8) : Wt.tell m (.mk h l) = Wt.atom m h (Wt.row m true l) := by
  rw [Wt.tell.eq_def]; simp only [hk, if_false]
theorem Wt.tail_pair {m : Bool} {h : Tr.Hd} {a r : Tr} (hk : h.k = 8) : Wt.tail m (.mk h [a, r]) = 32 :: (Wt.tell m a ++ Wt.tail m r) := by
  rw [Wt.tail]; simp only [hk, if_true]
theorem Wt.tail_nil {m : Bool} {h : Tr.Hd} {l : List Tr} (hk : h.k = 1) : Wt.tail m (.mk h l) = [] := by
  rw [Wt.tail.eq_def]; simp [hk]
theorem Wt.tail_atom {m : Bool} {h : Tr.Hd} {l : List Tr} (hk : h.k ≠ 8) (hk1 : h.k ≠ 1) : Wt.tail m (.mk h l) = [32, 46, 32] ++ Wt.tell m (.mk h l) := by
  rw [Wt.tail.eq_def, Wt.tell_atom hk]; simp only [hk, hk1, if_false]
theorem Wt.row_nil {m f : Bool} : Wt.row m f [] = [] := by rw [Wt.row]
theorem Wt.row_cons {m f : Bool} {t : Tr} {ts : List Tr} : Wt.row m f (t :: ts) = (if f = true then [] else [32]) ++ (Wt.tell m t ++ Wt.row m false ts) := by rw [Wt.row]

mutual
/-- Each text and each row of bytes is short enough. -/
def Wt.fit : Tr → Prop
  | .mk h l => (h.x.size ≤ 1048576 ∧ h.raw.size ≤ 1048576) ∧ Wt.fitL l
def Wt.fitL : List Tr → Prop
  | [] => True
  | t :: ts => Wt.fit t ∧ Wt.fitL ts
end
theorem Wt.fit_mk {h : Tr.Hd} {l : List Tr} : Wt.fit (.mk h l) ↔ (h.x.size ≤ 1048576 ∧ h.raw.size ≤ 1048576) ∧ Wt.fitL l := by rw [Wt.fit]
theorem Wt.fitL_cons {t : Tr} {ts : List Tr} : Wt.fitL (t :: ts) ↔ Wt.fit t ∧ Wt.fitL ts := by rw [Wt.fitL]
theorem Wt.fitL_nil : Wt.fitL [] := by rw [Wt.fitL]; trivial
theorem Wt.fitL_at : ∀ {l : List Tr}, Wt.fitL l → ∀ {k : Nat} {t : Tr}, l[k]? = some t → Wt.fit t
  | a :: r, h, 0, t, e => by
    simp only [List.getElem?_cons_zero, Option.some.injEq] at e
    subst e
    exact (Wt.fitL_cons.1 h).1
  | a :: r, h, k + 1, t, e => by
    simp only [List.getElem?_cons_succ] at e
    exact Wt.fitL_at (Wt.fitL_cons.1 h).2 e
mutual
theorem Wt.fit_txt : ∀ (t : Tr), Wt.fit t → Tr.txt t
  | .mk h l, hf => Tr.txt_mk.2 ⟨(Wt.fit_mk.1 hf).1.1, Wt.fitL_txt l (Wt.fit_mk.1 hf).2⟩
theorem Wt.fitL_txt : ∀ (l : List Tr), Wt.fitL l → Tr.txtL l
  | [], _ => Tr.txtL_nil
  | t :: ts, hf => Tr.txtL_cons.2 ⟨Wt.fit_txt t (Wt.fitL_cons.1 hf).1, Wt.fitL_txt ts (Wt.fitL_cons.1 hf).2⟩
end

theorem Wt.dec_byte (x : UInt8) : (Tx.dec x.toNat).length ≤ 9 := by
  unfold Tx.dec
  rw [List.length_reverse]
  exact Tx.lo_len 8 x.toNat x.toNat_lt
theorem Wt.raws_len : ∀ (f : Bool) (l : List UInt8), (Wt.raws f l).length ≤ 10 * l.length
  | _, [] => by simp [Wt.raws]
  | f, x :: xs => by
    rw [Wt.raws, List.length_append, List.length_append, List.length_cons]
    have := Wt.raws_len false xs
    have := Wt.dec_byte x
    have : (if f = true then ([] : List UInt8) else [32]).length ≤ 1 := by split <;> simp
    omega
/-- A number's digits are few enough. -/
def Wt.few (n : Nat) : Prop := (Tx.dec n).length ≤ 16385
theorem Wt.mag_len {t b : Nat} (h1 : Wt.few t) (h2 : Wt.few b) : (Wt.mag t b).length ≤ 32771 := by
  unfold Wt.few at h1 h2
  unfold Wt.mag
  split
  · simp only [List.length_append, List.length_nil]; omega
  · simp only [List.length_append, List.length_cons]; omega
theorem Wt.rat_mag (s : Bool) (t b : Nat) : Tx.rat s t b = (if s = true then [45] else []) ++ Wt.mag t b := rfl
theorem Wt.rat_len {s : Bool} {t b : Nat} (h1 : Wt.few t) (h2 : Wt.few b) : (Tx.rat s t b).length ≤ 32772 := by
  rw [Wt.rat_mag, List.length_append]
  have := Wt.mag_len h1 h2
  have : (if s = true then ([45] : List UInt8) else []).length ≤ 1 := by split <;> simp
  omega
theorem Wt.cnum_len {s1 : Bool} {t1 b1 : Nat} {s2 : Bool} {t2 b2 : Nat} (h1 : Wt.few t1) (h2 : Wt.few b1) (h3 : Wt.few t2) (h4 : Wt.few b2) : (Wt.cnum s1 t1 b1 s2 t2 b2).length ≤ 100000 := by
  have a1 := Wt.rat_len (s := s1) h1 h2
  have a2 := Wt.mag_len h3 h4
  unfold Wt.cnum
  split
  · omega
  · have : (if t1 = 0 then ([] : List UInt8) else Tx.rat s1 t1 b1).length ≤ 32772 := by split <;> (first | omega | (simp only [List.length_nil]; omega))
    have : (if t2 = 1 ∧ b2 = 1 then ([] : List UInt8) else Wt.mag t2 b2).length ≤ 32771 := by split <;> (first | omega | (simp only [List.length_nil]; omega))
    simp only [List.length_append, List.length_cons, List.length_nil]
    omega
theorem Wt.few_dig {n : Nat} (h : (Nt.dig n).length ≤ 512) : Wt.few n := by
  unfold Wt.few Tx.dec
  rw [List.length_reverse]
  exact Tx.lo_len_dig (k := 512) h
theorem Wt.few_words {ws : List Nat} (h : Nt.sound ws = true) : Wt.few (Nt.val ws) := by
  unfold Nt.sound at h
  simp only [Bool.and_eq_true, decide_eq_true_eq] at h
  unfold Wt.few Tx.dec
  rw [List.length_reverse]
  exact Tx.lo_len_dig (k := 512) (by omega)
theorem Wt.ratSound {s : Bool} {t b : List Nat} (h : Rt.sound s t b = true) : Nt.sound t = true ∧ Nt.sound b = true := by
  unfold Rt.sound at h
  simp only [Bool.and_eq_true] at h
  exact ⟨h.1.1.1.1, h.1.1.1.2⟩
theorem Wt.num_len {h : Tr.Hd} {l : Nat} (hs : h.shape l = true) (hk : h.k = 3) : (Wt.num h).length ≤ 100000 := by
  unfold Tr.Hd.shape Tr.Hd.num at hs
  simp only [hk, if_true, Bool.and_eq_true] at hs
  have h1 := Wt.ratSound hs.1.1.1.1.1
  have h2 := Wt.ratSound hs.1.1.1.1.2
  exact Wt.cnum_len (Wt.few_words h1.1) (Wt.few_words h1.2) (Wt.few_words h2.1) (Wt.few_words h2.2)
theorem Wt.isChar_ok {n : Int} (h : Tr.isChar n = true) : Ru.okR n := by
  unfold Tr.isChar at h
  unfold Ru.okR
  simp only [Bool.or_eq_true, Bool.and_eq_true, decide_eq_true_eq] at h
  omega
theorem Wt.shape_own {h : Tr.Hd} {l : Nat} (hs : h.shape l = true) : Tr.own h.k h.n l = true := by
  unfold Tr.Hd.shape at hs
  simp only [Bool.and_eq_true] at hs
  exact hs.2
theorem Wt.shape_char {h : Tr.Hd} {l : Nat} (hs : h.shape l = true) (hk : h.k = 4) : Ru.okR h.n := by
  have := Wt.shape_own hs
  simp [Tr.own, hk] at this
  exact Wt.isChar_ok this.1
theorem Wt.atom_len (m : Bool) {h : Tr.Hd} {l : Nat} (R : List UInt8) (hs : h.shape l = true) (hx : h.x.size ≤ 1048576) (hr : h.raw.size ≤ 1048576) : (Wt.atom m h R).length ≤ R.length + 16777000 := by
  have e1 : h.x.data.toList.length = h.x.size := by simp
  have e2 : h.raw.data.toList.length = h.raw.size := by simp
  unfold Wt.atom
  split
  · simp only [List.length_cons, List.length_nil]; omega
  split
  · split <;> (simp only [List.length_cons, List.length_nil]; omega)
  split
  · rename_i hk
    have := Wt.num_len hs hk
    omega
  split
  · rename_i hk
    have := Wt.chr_len m (Wt.shape_char hs hk)
    omega
  split
  · have := Wt.str_len h.x.data.toList
    split <;> omega
  split
  · have := Wt.sym_len h.x.data.toList
    split <;> omega
  split
  · have := Wt.raws_len true h.raw.data.toList
    simp only [List.length_append, List.length_cons, List.length_nil]
    omega
  split
  · simp only [List.length_append, List.length_cons, List.length_nil]; omega
  split
  · simp only [List.length_cons, List.length_nil]; omega
  · simp only [List.length_append, List.length_cons, List.length_nil]; omega
def Wt.Small (m : Bool) (t : Tr) : Prop := Tr.good t → Wt.fit t → (Wt.tell m t).length + 8 ≤ 16777216 * Tr.size t ∧ (Wt.tail m t).length ≤ 16777216 * Tr.size t
theorem Wt.row_small (m : Bool) : ∀ (f : Bool) (l : List Tr), (∀ (k : Nat) (t : Tr), l[k]? = some t → Wt.Small m t) → Tr.goodL l → Wt.fitL l → (Wt.row m f l).length ≤ 16777216 * Tr.sizeL l
  | f, [], _, _, _ => by rw [Wt.row_nil]; simp
  | f, t :: ts, IH, hg, hf => by
    rw [Wt.row_cons, List.length_append, List.length_append, Tr.sizeL_cons]
    have h1 := (IH 0 t rfl (Tr.goodL_cons.1 hg).1 (Wt.fitL_cons.1 hf).1).1
    have h2 := Wt.row_small m false ts (fun k u e => IH (k + 1) u (by simpa using e)) (Tr.goodL_cons.1 hg).2 (Wt.fitL_cons.1 hf).2
    have : (if f = true then ([] : List UInt8) else [32]).length ≤ 1 := by split <;> simp
    omega
theorem Wt.isOne_form {r : Tr} (h : Wt.isOne r = true) : ∃ hr b hc lc, r = .mk hr [b, .mk hc lc] ∧ hr.k = 8 ∧ hc.k = 1 := by
  unfold Wt.isOne at h
  split at h
  · rename_i h1 b h2 l2
    simp only [Bool.and_eq_true, decide_eq_true_eq] at h
    exact ⟨_, _, _, _, rfl, h.1, h.2⟩
  · cases h
theorem Wt.small_step (m : Bool) (t : Tr) (IH : ∀ u, Tr.size u < Tr.size t → Wt.Small m u) : Wt.Small m t := by
  intro hg hf
  obtain ⟨h, l⟩ := t
  obtain ⟨hs, hgl⟩ := Tr.good_mk.1 hg
  obtain ⟨⟨hx, hr⟩, hfl⟩ := Wt.fit_mk.1 hf
  have hsz : Tr.size (.mk h l) = 1 + Tr.sizeL l := Tr.size_mk h l
  by_cases hk : h.k = 8
  · have hl := Tr.Hd.shape_pair hs hk
    match l, hl with
    | [a, r], _ =>
      have s1 := IH a (Tr.size_lt (t := .mk h [a, r]) (k := 0) rfl)
      have s2 := IH r (Tr.size_lt (t := .mk h [a, r]) (k := 1) rfl)
      have g1 := Tr.goodL_cons.1 hgl
      have g2 := Tr.goodL_cons.1 g1.2
      have f1 := Wt.fitL_cons.1 hfl
      have f2 := Wt.fitL_cons.1 f1.2
      have a1 := s1 g1.1 f1.1
      have a2 := s2 g2.1 f2.1
      have hz : Tr.size (.mk h [a, r]) = 1 + (Tr.size a + Tr.size r) := by rw [hsz, Tr.sizeL_cons, Tr.sizeL_cons, Tr.sizeL_nil]; omega
      refine ⟨?_, ?_⟩
      · cases hq : Wt.isQ a && Wt.isOne r
        · rw [Wt.tell_pair hk hq]
          simp only [List.length_append, List.length_cons, List.length_nil]
          omega
        · have hq2 := hq
          simp only [Bool.and_eq_true] at hq2
          obtain ⟨hr, b, hc, lc, rfl, _, _⟩ := Wt.isOne_form hq2.2
          rw [Wt.tell_quo hk hq]
          have hb := Tr.size_lt (t := .mk hr [b, .mk hc lc]) (u := b) (k := 0) rfl
          have s3 := IH b (by omega)
          have := (s3 (Tr.goodL_cons.1 (Tr.good_mk.1 g2.1).2).1 (Wt.fitL_cons.1 (Wt.fit_mk.1 f2.1).2).1).1
          simp only [List.length_cons]
          omega
      · rw [Wt.tail_pair hk]
        simp only [List.length_append, List.length_cons]
        omega
  · have h1 := Wt.row_small m true l (fun k u e => IH u (Tr.size_lt (t := .mk h l) e)) hgl hfl
    have h2 := Wt.atom_len m (Wt.row m true l) hs hx hr
    rw [hsz]
    refine ⟨?_, ?_⟩
    · rw [Wt.tell_atom hk]; omega
    · by_cases hk1 : h.k = 1
      · rw [Wt.tail_nil hk1]; simp
      · rw [Wt.tail_atom hk hk1, Wt.tell_atom hk, List.length_append]
        simp only [List.length_cons, List.length_nil]
        omega
theorem Wt.small (m : Bool) (t : Tr) : Wt.Small m t := Wt.small_step m t (fun u _ => Wt.small m u)
termination_by Tr.size t
decreasing_by assumption
end Go.Proofs.YtikmebkfdpbidaaGreatDoor
namespace Go.Proofs.YtikmebkfdpbidaaGreatDoor
open Go.RowKit
set_option linter.unusedVariables false
set_option linter.unusedSimpArgs false

theorem Tx.mag_one (t b : Nat) : (Wt.mag t b == [49]) = decide (t = 1 ∧ b = 1) := by
  have h1 : Tx.dec 1 = [49] := by unfold Tx.dec; rw [Tx.lo_small (by decide)]; rfl
  by_cases h : t = 1 ∧ b = 1
  · rw [decide_eq_true h, h.1, h.2]
    unfold Wt.mag
    rw [h1]
    rfl
  · rw [decide_eq_false h, beq_eq_false_iff_ne]
    intro e
    unfold Wt.mag at e
    by_cases hb : b = 1
    · rw [if_pos hb, List.append_nil, ← h1] at e
      exact h ⟨Tx.dec_inj e, hb⟩
    · rw [if_neg hb] at e
      have e2 := congrArg List.length e
      have h3 : 0 < (Tx.dec t).length := by unfold Tx.dec; rw [List.length_reverse]; exact Tx.lo_pos t
      have h4 : 0 < (Tx.dec b).length := by unfold Tx.dec; rw [List.length_reverse]; exact Tx.lo_pos b
      simp only [List.length_append, List.length_cons, List.length_nil] at e2
      omega
theorem Tx.ret2 {X Y : ByteArray} (h : X = Y) : Ending.returned (.tuple #[.string X, .int .i64 0]) = .returned (.tuple #[.string Y, .int .i64 0]) := by rw [h]
theorem Tx.plus_tail (M : List UInt8) (n : Nat) (hn : M.length = n) : ((⟨#[43]⟩ ++ (⟨M.toArray⟩ : ByteArray) : ByteArray).extract 1 (1 + n)).toList = M := by
  subst hn
  rw [ByteArray.toList_eq]
  simp
theorem Tx.minus_tail (M : List UInt8) (n : Nat) (hn : M.length + 1 = n) : ((⟨(45 :: M).toArray⟩ : ByteArray).extract 1 n).toList = M := by
  subst hn
  rw [ByteArray.toList_eq]
  simp
set_option maxHeartbeats 2000000 in
set_option maxRecDepth 1000000 in
theorem Tx.Text_cplx (s : Bool) (t b : Nat) (s2 : Bool) (t2 b2 : Nat) (v : Value) (w : World) (h : Rt.Q w v s t b s2 t2 b2) (K : Rt.SoundAt w v) (h0 : 0 < t2) (hb : 0 < b) (hb2 : 0 < b2) (hl : (Nt.dig t).length ≤ 512 ∧ (Nt.dig b).length ≤ 512) (hl2 : (Nt.dig t2).length ≤ 512 ∧ (Nt.dig b2).length ≤ 512) :
    Calls Tryz.prog 78 #[v, .int .i64 10] w fun e w' => e = .returned (.tuple #[.string (Tx.str (Wt.cnum s t b s2 t2 b2)), .int .i64 0]) ∧ Below w.heap.size w w' := by
  obtain ⟨tv, bv, tv2, bv2, rfl, h1, h2, h3, h4⟩ := h
  obtain ⟨L1, a1, c1, rfl, hL1⟩ := Tx.N_slice h1
  obtain ⟨L2, a2, c2, rfl, hL2⟩ := Tx.N_slice h2
  obtain ⟨L3, a3, c3, rfl, hL3⟩ := Tx.N_slice h3
  obtain ⟨L4, a4, c4, rfl, hL4⟩ := Tx.N_slice h4
  obtain ⟨n0, n1, n2, n3⟩ := Sm.two w (.cells #[.bool s, .slice a1 L1 c1, .slice a2 L2 c2, .bool s2, .slice a3 L3 c3, .slice a4 L4 c4] 26) (.cells #[.bool s, .slice a1 L1 c1, .slice a2 L2 c2, .bool s2, .slice a3 L3 c3, .slice a4 L4 c4] 26)
  have KC := Tx.chk1 _ _ _ _ _ _ _ _ _ _ _ _ _ _ _ _ n1 (fun w' hb => K w' (n3.trans (hb.mono n3.size)))
  have KR := Lib.hid (fun w' (hb2 : Below w.heap.size w w') => Tx.ratText_any s t b (.agg #[.bool s, .slice a1 L1 c1, .slice a2 L2 c2]) w' ⟨_, _, rfl, Nt.In.below h1 hb2 (Nat.le_refl _), Nt.In.below h2 hb2 (Nat.le_refl _)⟩ hb hl)
  have hf1 := Wt.few_dig hl2.1
  have hf2 := Wt.few_dig hl2.2
  have hf3 := Wt.few_dig hl.1
  have hf4 := Wt.few_dig hl.2
  obtain ⟨one, hone⟩ : ∃ z, (Wt.mag t2 b2 == [49]) = z := ⟨_, rfl⟩
  have hone2 := (Tx.mag_one t2 b2).symm.trans hone
  obtain ⟨M, hM⟩ : ∃ z, Wt.mag t2 b2 = z := ⟨_, rfl⟩
  have hMl := Wt.mag_len hf1 hf2
  rw [hM] at hMl hone
  obtain ⟨S0, hS0⟩ : ∃ z, Tx.str (Tx.rat s2 t2 b2) = z := ⟨_, rfl⟩
  obtain ⟨R0, hR0⟩ : ∃ z, Tx.str (Tx.rat s t b) = z := ⟨_, rfl⟩
  have hRl := Wt.rat_len (s := s) hf3 hf4
  have KI := Lib.hid (fun w' (hbb : Below w.heap.size w w') => Tx.ratText_any s2 t2 b2 (.agg #[.bool s2, .slice a3 L3 c3, .slice a4 L4 c4]) w' ⟨_, _, rfl, Nt.In.below h3 hbb (Nat.le_refl _), Nt.In.below h4 hbb (Nat.le_refl _)⟩ hb2 hl2)
  rw [hS0] at KI
  rw [hR0] at KR
  have hSM : S0 = ⟨((if s2 = true then [45] else []) ++ M).toArray⟩ := by rw [← hS0, Wt.rat_mag, hM]; rfl
  obtain ⟨n, hn⟩ : ∃ z, S0.size = z := ⟨_, rfl⟩
  obtain ⟨k, hk⟩ : ∃ z, R0.size = z := ⟨_, rfl⟩
  have hn2 : n = (if s2 = true then 1 else 0) + M.length := by rw [← hn, hSM]; show (List.toArray _).size = _; cases s2 <;> simp <;> omega
  have hk2 : k ≤ 32772 := by rw [← hk, ← hR0]; show (List.toArray _).size ≤ _; simpa using hRl
  have hnn : n ≤ 40000 := by rw [hn2]; split <;> omega
  have hCN : Tx.str (Wt.cnum s t b s2 t2 b2) = (if t = 0 then ⟨#[]⟩ else R0) ++ (⟨((if s2 = true then 45 else 43) :: ((if one = true then [] else M) ++ [105])).toArray⟩ : ByteArray) := by
    unfold Wt.cnum
    rw [if_neg (by omega), ← hone2, hM, ← hR0]
    unfold Tx.str
    by_cases ht : t = 0
    · apply ByteArray.ext
      by_cases h12 : t2 = 1 ∧ b2 = 1 <;> simp [ht, h12]
    · apply ByteArray.ext
      by_cases h12 : t2 = 1 ∧ b2 = 1 <;> simp [ht, h12]
  have HCN := Lib.hid hCN
  have HSM := Lib.hid hSM
  have HN := Lib.hid (And.intro n0 (And.intro n2 n3))
  have hL3p : ((L3 : Int) == 0) = false := beq_eq_false_iff_ne.2 (by
    have := Nt.dig_len_pos.2 h0
    omega)
  have hzt : (L1 = 0 ∧ t = 0) ∨ (0 < L1 ∧ t ≠ 0) := by
    have := Nt.dig_len_pos (n := t)
    omega
  have HZT := Lib.hid hzt
  have hsz1 : (9223372036854775807 < 1 + n) = False := eq_false (by omega)
  have hsz2 : (9223372036854775807 < n + 1) = False := eq_false (by omega)
  have hsz3 : (9223372036854775807 < 1 + n + 1) = False := eq_false (by omega)
  have hsz4 : (9223372036854775807 < k + 1) = False := eq_false (by omega)
  have hsz5 : (9223372036854775807 < k + 1 + 1) = False := eq_false (by omega)
  have hsz6 : (9223372036854775807 < k + (1 + n)) = False := eq_false (by omega)
  have hsz7 : (9223372036854775807 < k + (1 + n) + 1) = False := eq_false (by omega)
  have hsz8 : (9223372036854775807 < k + n) = False := eq_false (by omega)
  have hsz9 : (9223372036854775807 < k + n + 1) = False := eq_false (by omega)
  have HN2 := Lib.hid hn2
  have HONE := Lib.hid hone
  clear n0 n1 n2 n3 h1 h2 h3 h4 hL1 hL2 hL3 hL4 K hzt hS0 hR0 hM hMl hRl hCN hSM hn2 hk2 hnn hone hone2 hf1 hf2 hf3 hf4 hl hl2
  go_enter Tryz.func78, Tryz.ntmps78
  go_wp2_with fail
  refine KC.mono ?_
  rintro x w1 ⟨rfl, hb1⟩
  have HB1 := Lib.hid (HN.out.2.2.trans (hb1.mono HN.out.2.2.size))
  have HC := Lib.hid (fun (w' : World) (hb' : Below w1.heap.size w1 w') => Rt.cells6 ((hb'.block w.heap.size (by have := hb1.size; have := HN.out.2.1; omega)).trans ((hb1.block w.heap.size (by have := HN.out.2.1; omega)).trans HN.out.1)))
  obtain ⟨e0, e1, e2, e3, e4, e5⟩ := HC.out _ (Below.refl _ _)
  clear hb1 KC
  go_wp2_with fail
  refine (KI.out _ HB1.out).mono ?_
  rintro x w2 ⟨rfl, hb2⟩
  have HB2 := Lib.hid (HB1.out.trans (hb2.mono HB1.out.size))
  clear e0 e1 e2 e3 e4 e5
  obtain ⟨e0, e1, e2, e3, e4, e5⟩ := HC.out _ hb2
  clear hb2
  have hcond : (s2 = false ∧ (((⟨#[43]⟩ ++ S0 : ByteArray).extract 1 (1 + n)).toList == [49]) = one) ∨ (s2 = true ∧ (1 : Int) ≤ n ∧ S0.extract 0 1 = (⟨#[45]⟩ : ByteArray) ∧ ((S0.extract 1 n).toList == [49]) = one) := by
    have h1 := HN2.out
    rw [HSM.out]
    cases s2
    · refine .inl ⟨rfl, ?_⟩
      have h2 : M.length = n := by simpa using h1.symm
      have := Tx.plus_tail M n h2
      simp only [Bool.false_eq_true, if_false, List.nil_append]
      rw [this]
      exact HONE.out
    · have h2 : M.length + 1 = n := by simp at h1; omega
      refine .inr ⟨rfl, by omega, by apply ByteArray.ext; simp, ?_⟩
      have := Tx.minus_tail M n h2
      simp only [if_true, List.cons_append, List.nil_append]
      rw [this]
      exact HONE.out
  rcases HZT.out with ⟨hz, ht⟩ | ⟨hz, ht⟩
  · subst hz
    rcases hcond with ⟨rfl, hcond⟩ | ⟨rfl, hn1, hpre, hcond⟩
    all_goals cases one
    all_goals
      go_wp2_with fail
      go_ret2
      refine ⟨Tx.ret2 ?_, HB2.out⟩
      rw [HCN.out]
      try rw [HSM.out]
      apply ByteArray.ext
      simp [ht]
  · have hz2 : (0 : Int) < (L1 : Int) := by omega
    rcases hcond with ⟨rfl, hcond⟩ | ⟨rfl, hn1, hpre, hcond⟩
    all_goals cases one
    all_goals
      go_wp2_with (go_at_call 126; refine (KR.out _ HB2.out).mono ?_; rintro x w3 ⟨rfl, hb3⟩)
      go_ret2
      refine ⟨Tx.ret2 ?_, HB2.out.trans (hb3.mono HB2.out.size)⟩
      rw [HCN.out]
      try rw [HSM.out]
      apply ByteArray.ext
      first | (simp [ht]; done) | (simp [ht]; apply Array.ext'; simp)
end Go.Proofs.YtikmebkfdpbidaaGreatDoor
namespace Go.Proofs.YtikmebkfdpbidaaGreatDoor
open Go.RowKit
set_option linter.unusedVariables false

theorem Wr.infoByte : (Tryz.prog.info? 5).map (fun i => (i.zero, i.size, i.bytes)) = some (some (.int .u8 0), 1, 1) := by kernel_rfl
theorem Wr.sizeBuilder : (Tryz.prog.info? 94).map (·.size) = some 2 := by kernel_rfl
theorem Wr.lies : liesAt Tryz.prog Tryz.prog.depth 128 (3 / Tryz.prog.cellsOf 128) 0 94 1 = true := by kernel_rfl
theorem Wr.cellsByte : Tryz.prog.cellsOf 5 = 1 := by kernel_rfl

/-- A writer at block b (one of the call's own), that holds the bytes bs. -/
def Wr.At (B b : Nat) (p : Value) (m : Bool) (bs : List Value) (w : World) : Prop :=
  B ≤ b ∧ ∃ v, w.heap[b]? = some (.cells #[p, v, .bool m] 128 (0, 0)) ∧ w.ownsRowF B 5 1 v bs.length bs ∧ v.ownBlock ≠ some b
def Wr.Is (B b : Nat) (m : Bool) (bs : List Value) (w : World) : Prop := Wr.At B b (.pointer none) m bs w ∨ Wr.At B b (.pointer (some ⟨b, 0, none⟩)) m bs w

theorem Wr.At.cells {B b : Nat} {p : Value} {m : Bool} {bs : List Value} {w : World} (h : Wr.At B b p m bs w) : w.cell? ⟨b, 0, none⟩ = some p ∧ w.cell? ⟨b, 2, none⟩ = some (.bool m) ∧ w.frozen? ⟨b, 0, none⟩ = false ∧ w.shape? b = some (128, 3) := by
  obtain ⟨_, v, hb, _⟩ := h
  simp [World.cell?, World.frozen?, World.shape?, hb]
theorem Wr.At.used {B b : Nat} {p : Value} {m : Bool} {bs : List Value} {w : World} (h : Wr.At B b p m bs w) (q : Value) : Wr.At B b q m bs (w.setCell ⟨b, 0, none⟩ q) := by
  obtain ⟨hB, v, hb, hown, hne⟩ := h
  refine ⟨hB, v, ?_, ?_, hne⟩
  · simp [World.setCell, Array.getElem?_modify, hb]
  · exact hown.kept (row := some b) ⟨rfl, rfl, rfl, by simp [World.setCell], fun k _ hk => Below.heap_setCell _ _ _ _ (fun e => hk (by simp [e]))⟩ (Or.inr hne)
theorem Wr.At.put {B b : Nat} {p v v' : Value} {m : Bool} {bs' : List Value} {w : World} (hB : B ≤ b) (hb : w.heap[b]? = some (.cells #[p, v, .bool m] 128 (0, 0))) (hown : w.ownsRowF B 5 1 v' bs'.length bs') :
    Wr.At B b p m bs' (w.setCell ⟨b, 1, none⟩ v') := by
  have hne := Lib.ownBlock_neF hown hb (by decide)
  refine ⟨hB, v', ?_, ?_, hne⟩
  · simp [World.setCell, Array.getElem?_modify, hb]
  · exact hown.kept (row := some b) ⟨rfl, rfl, rfl, by simp [World.setCell], fun k _ hk => Below.heap_setCell _ _ _ _ (fun e => hk (by simp [e]))⟩ (Or.inr hne)

set_option maxHeartbeats 1000000 in
set_option maxRecDepth 100000 in
theorem Wr.copyCheck_used (b : Nat) (w : World) (h0 : w.cell? ⟨b, 0, none⟩ = some (.pointer (some ⟨b, 0, none⟩))) :
    Calls Tryz.prog 81 #[.pointer (some ⟨b, 0, none⟩)] w fun e w' => e = .returned (.tuple #[]) ∧ w' = w := by
  obtain ⟨j, hj, _⟩ := Option.map_eq_some_iff.1 Wr.sizeBuilder
  go_enter Tryz.func81, Tryz.ntmps81
  go_wp2
  rw [Lib.run_neq_ptr_same w _ Tryz.underlying92 hj]
  go_wp2
  go_end0
  exact ⟨rfl, rfl⟩

set_option maxHeartbeats 1000000 in
set_option maxRecDepth 100000 in
theorem Wr.copyCheck_fresh (b : Nat) (w : World) (h0 : w.cell? ⟨b, 0, none⟩ = some (.pointer none)) (hsh : w.shape? b = some (128, 3)) (hfz : w.frozen? ⟨b, 0, none⟩ = false) :
    Calls Tryz.prog 81 #[.pointer (some ⟨b, 0, none⟩)] w fun e w' => e = .returned (.tuple #[]) ∧ w' = w.setCell ⟨b, 0, none⟩ (.pointer (some ⟨b, 0, none⟩)) := by
  obtain ⟨j, hj, hjs⟩ := Option.map_eq_some_iff.1 Wr.sizeBuilder
  go_enter Tryz.func81, Tryz.ntmps81
  go_wp2
  rw [Lib.run_to_unsafe w ⟨b, 0, none⟩ Tryz.underlying92 Tryz.underlying173 hj (by rw [hjs]; decide) hsh (Nat.zero_lt_succ 2)]
  simp only [Result.andThen]
  rw [Oper.upon_value]
  go_wp2
  rw [run_callFunc_extern Tryz.func127 (by kernel_rfl) (by kernel_rfl) (by kernel_rfl) (e := Extern.AbiNoEscape.same) (by kernel_rfl)]
  rw [Lib.run_noEscape]
  simp only [Result.andThen]
  rw [Oper.upon_value]
  go_wp2
  rw [Lib.run_from_unsafe w ⟨b, 0, none⟩ Tryz.underlying173 Tryz.underlying92 hj hsh Wr.lies]
  simp only [Result.andThen]
  rw [Oper.upon_value]
  go_wp2
  go_end0
  exact ⟨rfl, rfl⟩

theorem Wr.copyCheck (B b : Nat) (m : Bool) (bs : List Value) (w : World) (h : Wr.Is B b m bs w) :
    Calls Tryz.prog 81 #[.pointer (some ⟨b, 0, none⟩)] w fun e w' => e = .returned (.tuple #[]) ∧ (Wr.At B b (.pointer (some ⟨b, 0, none⟩)) m bs w' ∧ Below B w w') := by
  rcases h with h | h
  · refine (Wr.copyCheck_fresh b w h.cells.1 h.cells.2.2.2 h.cells.2.2.1).mono ?_
    rintro e w' ⟨rfl, rfl⟩
    exact ⟨rfl, h.used _, (Below.refl B w).setCell (p := ⟨b, 0, none⟩) h.1 _⟩
  · refine (Wr.copyCheck_used b w h.cells.1).mono ?_
    rintro e w' ⟨rfl, rfl⟩
    exact ⟨rfl, h, Below.refl B _⟩

set_option maxHeartbeats 2000000 in
set_option maxRecDepth 100000 in
theorem Wr.writeString (B b : Nat) (m : Bool) (bs : List Value) (s : ByteArray) (w : World) (h : Wr.Is B b m bs w) (hlen : bs.length + s.size ≤ 140737488355328) (hBw : B ≤ w.heap.size) :
    Calls Tryz.prog 45 #[.pointer (some ⟨b, 0, none⟩), .string s] w fun e w' => e = .returned (.tuple #[.int .i64 s.size, .nilIface]) ∧ (Wr.At B b (.pointer (some ⟨b, 0, none⟩)) m (bs ++ Lib.strCells s) w' ∧ Below B w w') := by
  obtain ⟨i0, hi, hz0, hz1, hz2⟩ := info_parts Wr.infoByte
  go_enter Tryz.func45, Tryz.ntmps45
  go_wp2_with (go_at_call 81; refine (Wr.copyCheck B b m bs _ h).mono ?_)
  rintro e w1 ⟨rfl, h1, hb1⟩
  obtain ⟨hB, v, hbk, hown, hne⟩ := h1
  have c0 : w1.cell? ⟨b, 0, none⟩ = some (.pointer (some ⟨b, 0, none⟩)) := by rw [Lib.cell_of_heap hbk]; rfl
  have c1 : w1.cell? ⟨b, 1, none⟩ = some v := by rw [Lib.cell_of_heap hbk]; rfl
  go_wp2_with (at_builtin; refine Lib.wpList_append_own_stringF _ rfl _ _ 27 9 rfl B 5 i0 Tryz.underlying27 Tryz.underlying9 hi hz0 hz1 hz2 _ _ _ rfl hown s rfl ?c3 ?c4 ?c5 ?_)
  case c3 => unfold maxLen; omega
  case c4 => omega
  case c5 => have := hb1.size; omega
  intro v' w2 hown' hgrow _
  have hlt : b < w1.heap.size := (Array.getElem?_eq_some_iff.1 hbk).1
  have hb2 : w2.heap[b]? = some (.cells #[.pointer (some ⟨b, 0, none⟩), v, .bool m] 128 (0, 0)) := by
    rw [hgrow.block b hlt (fun e => hne e.symm)]
    exact hbk
  have d0 : w2.cell? ⟨b, 0, none⟩ = some (.pointer (some ⟨b, 0, none⟩)) := by rw [Lib.cell_of_heap hb2]; rfl
  have d1 : w2.cell? ⟨b, 1, none⟩ = some v := by rw [Lib.cell_of_heap hb2]; rfl
  have f1 : w2.frozen? ⟨b, 1, none⟩ = false := Lib.frozen_of_heap hb2 1
  obtain ⟨ao, n', cap, rfl⟩ : ∃ ao n' cap, v' = .slice ao n' cap := by
    rcases hown'.2 with ⟨hv, _⟩ | ⟨g, cap, cur, fz, hv, _⟩
    · exact ⟨_, _, _, hv⟩
    · exact ⟨_, _, _, hv⟩
  go_wp2
  go_ret2
  refine ⟨rfl, ?_, ?_⟩
  · exact Wr.At.put hB hb2 (bs' := bs ++ Lib.strCells s) (by simpa [Lib.strCells_length] using hown')
  · exact (hb1.grown hgrow (by have := hb1.size; omega) (fun k hk => (hown.lt k hk).1)).setCell (p := ⟨b, 1, none⟩) hB _

set_option maxHeartbeats 1000000 in
set_option maxRecDepth 100000 in
/-- String, of a writer that holds at least one byte. -/
theorem Wr.string (B b : Nat) (m : Bool) (l : List UInt8) (p : Value) (w : World) (h : Wr.At B b p m (Lib.byteCells l) w) (h0 : l ≠ []) :
    Calls Tryz.prog 49 #[.pointer (some ⟨b, 0, none⟩)] w fun e w' => e = .returned (.string ⟨l.toArray⟩) ∧ Below B w w' := by
  obtain ⟨hB, v, hbk, hown, hne⟩ := h
  have hl0 : l.length ≠ 0 := by simpa using h0
  rw [Lib.byteCells_length] at hown
  obtain ⟨g, cap, cur, fz, rfl, hbg, hg, hfz, hnc, hcm, hcs, htake⟩ : ∃ g cap cur fz, v = .slice (some ⟨g, 0, none⟩) l.length cap ∧ B ≤ g ∧ w.heap[g]? = some (.cells cur 5 fz) ∧ fz.2 ≤ l.length * 1 ∧ l.length ≤ cap ∧ cap ≤ maxLen ∧ cur.size = cap * 1 ∧ cur.toList.take (l.length * 1) = Lib.byteCells l := by
    rcases hown.2 with ⟨_, hz⟩ | ⟨g, cap, cur, fz, hv, r⟩
    · exact absurd hz hl0
    · exact ⟨g, cap, cur, fz, hv, r⟩
  have c1 : w.drew.cell? ⟨b, 1, none⟩ = some (.slice (some ⟨g, 0, none⟩) l.length cap) := by
    have : w.drew.heap[b]? = some (.cells #[p, .slice (some ⟨g, 0, none⟩) l.length cap, .bool m] 128 (0, 0)) := hbk
    rw [Lib.cell_of_heap this]; rfl
  have hSD : (Builtin.unsafeSliceData_ #[27] 142 #[.slice (some ⟨g, 0, none⟩) l.length cap]).run Tryz.prog w.drew = .ok (.pointer (some ⟨g, 0, none⟩)) w.drew :=
    Lib.run_unsafeSliceData_row _ _ _ _ _ _ (by omega)
  have hUS : (Builtin.unsafeString_ #[142, 3] 9 #[.pointer (some ⟨g, 0, none⟩), .int .i64 l.length]).run Tryz.prog w.drew = .ok (.string ⟨l.toArray⟩) (w.drew.freeze ⟨g, 0, none⟩ l.length) := by
    refine Lib.run_unsafeString_row w.drew 142 3 9 5 Tryz.underlying142 Wr.cellsByte g cur.size (by have hg' : w.drew.heap[g]? = some (.cells cur 5 fz) := hg; simp [World.shape?, hg']) l h0 (by omega) (by unfold maxLen at hcm; omega) ?_
    intro j x hx
    have := hown.cells (g := g) rfl j (.int .u8 x.toNat) (by simp [Lib.byteCells, hx])
    exact this
  have hend : Below B w (w.drew.freeze ⟨g, 0, none⟩ l.length) := Lib.below_freeze (Below.drew (Below.refl B w)) (p := ⟨g, 0, none⟩) hbg _
  go_enter Tryz.func49, Tryz.ntmps49
  go_wp2
  go_region
  all_goals (go_wp2; go_ret; exact ⟨rfl, hend⟩)
end Go.Proofs.YtikmebkfdpbidaaGreatDoor
