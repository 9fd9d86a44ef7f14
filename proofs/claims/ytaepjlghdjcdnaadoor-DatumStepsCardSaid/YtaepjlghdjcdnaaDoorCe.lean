/-
  datum.sound of any datum.
  datum.Sound of any datum.
  Eleven cells stored at a place of a row that the call has made; a datum with a hole.
  Data whose nodes are sound; a datum with a hole.
-/
import Derived.Deep.LoopGhost
import Derived.Test.YtaepjlghdjcdnaaDoorCb
import Derived.Test.YtaepjlghdjcdnaaDoorCd
namespace Go.Proofs.YtaepjlghdjcdnaaDoor
open Go.RowKit
set_option linter.unusedVariables false
set_option linter.unusedSimpArgs false

/-- What sound says of a datum, met d deep. -/
def Tr.SoundSays (t : Tr) : Prop := ∀ (S : Nat → Prop) (C : Array Value) (w0 w : World) (L d : Nat) (left : Int), Tr.In w0 S t (.agg C) → Tr.Tabs w0 → Below w0.heap.size w0 w → w0.heap.size ≤ L →
  w.heap[L]? = some (.cells #[.int .i64 left] 3 (0, 0)) → 0 ≤ left → left ≤ 20000 → d ≤ 201 →
  Calls Tryd.prog 30 #[.agg C, .int .i64 d, .pointer (some ⟨L, 0, none⟩)] w fun e w' => e = .returned (.bool (Tr.snd t d left).1) ∧ w'.heap[L]? = some (.cells #[.int .i64 (Tr.snd t d left).2] 3 (0, 0)) ∧ Tr.But L w w'
/-- A child, in the walk's own form. -/
theorem Tr.SoundSays.at {t : Tr} (H : Tr.SoundSays t) {S : Nat → Prop} {C : Array Value} {w0 w : World} {L d : Nat} {left : Int} (hI : Tr.In w0 S t (.agg C)) (hT : Tr.Tabs w0) (hb : Below w0.heap.size w0 w) (hL : w0.heap.size ≤ L)
    (hp : w.heap[L]? = some (.cells #[.int .i64 left] 3 (0, 0))) (h0 : 0 ≤ left) (h1 : left ≤ 20000) (hd : d ≤ 200) :
    Calls Tryd.prog 30 #[.agg C, .int .i64 ((d : Int) + 1), .pointer (some ⟨L, 0, none⟩)] w fun e w' => e = .returned (.bool (Tr.snd t (d + 1) left).1) ∧ w'.heap[L]? = some (.cells #[.int .i64 (Tr.snd t (d + 1) left).2] 3 (0, 0)) ∧ Tr.But L w w' := by
  have := H S C w0 w L (d + 1) left hI hT hb hL hp h0 h1 (by omega)
  rwa [show ((d + 1 : Nat) : Int) = (d : Int) + 1 by omega] at this

set_option maxHeartbeats 8000000 in
set_option maxRecDepth 1000000 in
theorem Tr.sound_step (t : Tr) (IH : ∀ u, Tr.size u < Tr.size t → Tr.SoundSays u) : Tr.SoundSays t := by
  intro S C w0 w L d left hI hT hb hL hp hl0 hl1 hd
  obtain ⟨h0, li0⟩ := t
  rw [Tr.In_mk] at hI
  obtain ⟨v3, v4, v6, v7, v9, v10, hC, hH, hS⟩ := hI
  obtain rfl : C = Tr.cells h0 v3 v4 v6 v7 v9 v10 := by injection hC
  clear hC
  have hLw : L < w.heap.size := (Array.getElem?_eq_some_iff.1 hp).1
  obtain ⟨W, hW⟩ : ∃ W, w.alloc (.cells (Tr.cells h0 v3 v4 v6 v7 v9 v10) 32) = W := ⟨_, rfl⟩
  have q0 : W.heap[w.heap.size]? = some (.cells (Tr.cells h0 v3 v4 v6 v7 v9 v10) 32 (0, 0)) := by rw [← hW]; exact heap_alloc_new w _
  have qL : W.heap[L]? = some (.cells #[.int .i64 left] 3 (0, 0)) := by rw [← hW]; exact (Lib.alloc_old _ _ _ hLw).trans hp
  have hbt0 : Tr.But L w W := by rw [← hW]; exact (Tr.But.refl L w).alloc _
  have hzW : w.heap.size < W.heap.size := (Array.getElem?_eq_some_iff.1 q0).1
  have HIH := Lib.hid IH
  have HT := Lib.hid hT
  have HB := Lib.hid hb
  have HGEO := Lib.hid (And.intro hL (And.intro hLw (And.intro hb.size (And.intro hd hzW))))
  have HST : Hid (∃ (h : Tr.Hd) (l : List Tr) (v3 v4 v6 v7 v9 v10 : Value) (lf : Int), Tr.Hd.In w0 S h v3 v4 v6 v7 v9 ∧ Tr.LIn w0 S l v10 ∧ (Tr.size (.mk h l) = Tr.size (.mk h0 li0) ∧ Tr.size (.mk h0 li0) ≤ Tr.size (.mk h0 li0)) ∧ W.heap[w.heap.size]? = some (.cells (Tr.cells h v3 v4 v6 v7 v9 v10) 32 (0, 0)) ∧ W.heap[L]? = some (.cells #[.int .i64 lf] 3 (0, 0)) ∧ 0 ≤ lf ∧ lf ≤ 20000 ∧ Tr.snd (.mk h l) d lf = Tr.snd (.mk h0 li0) d left ∧ Tr.But L w W) :=
    Lib.hid ⟨h0, li0, v3, v4, v6, v7, v9, v10, left, hH, hS, ⟨rfl, Nat.le_refl _⟩, q0, qL, hl0, hl1, rfl, hbt0⟩
  have hdI : (d : Int) ≤ 201 := by omega
  unfold Tr.cells at hW ⊢
  clear IH hT hb hL hp hl0 hl1 hLw q0 qL hbt0 hH hS hzW hd
  go_enter Tryd.func30, Tryd.ntmps30
  go_wp2_with fail
  go_loopg [] (Tr.size (.mk h0 li0)) (fun g wr => ∃ (h : Tr.Hd) (l : List Tr) (v3 v4 v6 v7 v9 v10 : Value) (lf : Int), Tr.Hd.In w0 S h v3 v4 v6 v7 v9 ∧ Tr.LIn w0 S l v10 ∧ (Tr.size (.mk h l) = g ∧ g ≤ Tr.size (.mk h0 li0)) ∧ wr.heap[w.heap.size]? = some (.cells (Tr.cells h v3 v4 v6 v7 v9 v10) 32 (0, 0)) ∧ wr.heap[L]? = some (.cells #[.int .i64 lf] 3 (0, 0)) ∧ 0 ≤ lf ∧ lf ≤ 20000 ∧ Tr.snd (.mk h l) d lf = Tr.snd (.mk h0 li0) d left ∧ Tr.But L w wr)
  case atStart =>
    exact HST.out
  case round =>
    obtain ⟨h, l, u3, u4, u6, u7, u9, u10, lf, hH, hS, hg, hbox, hleft, hf0, hf1, hsnd, hbut⟩ := hrel
    obtain ⟨wo, hwo⟩ : ∃ z, z = wr := ⟨_, rfl⟩
    subst hwo
    clear HST hW
    obtain ⟨a10, c10, rfl, hcap10, _⟩ := hS.slice
    obtain ⟨W1, hW1, p0, z0, p1, hL1, hbut1, hsz1, hoth1⟩ := Tr.storeInt hleft (lf - 1)
    have hbox1 : W1.heap[w.heap.size]? = some (.cells (Tr.cells h u3 u4 u6 u7 u9 (.slice a10 l.length c10)) 32 (0, 0)) := (hoth1 _ (by have := HGEO.out; omega)).trans hbox
    have hbB1 : Below w0.heap.size w0 W1 := HB.out.trans ((hbut.trans (hbut1)).below HGEO.out.1 HGEO.out.2.2.1)
    have KSH := Tr.shape_any h l.length u3 u4 u6 u7 u9 a10 c10 S W1 (hH.kept (Tr.Kept.all hbB1 (Nat.le_refl _))) (HT.out.below hbB1)
    have hbut01 := hbut.trans hbut1
    have HH := Lib.hid hH
    have HS := Lib.hid hS
    have HG := Lib.hid hg
    have HSND := Lib.hid hsnd
    have HBUT := Lib.hid hbut01
    have HL1 := Lib.hid hL1
    have HBOX := Lib.hid hbox1
    have HBB := Lib.hid hbB1
    unfold Tr.cells at KSH
    obtain ⟨d0, d1, d2, d3, d4, d5, d6, d7, d8, d9, d10⟩ := Dt.cells11 (show W1.heap[w.heap.size]? = some (.cells #[.int .i64 h.k, .int .i64 h.n, .bool h.s1, u3, u4, .bool h.s2, u6, u7, .string h.x, u9, .slice a10 l.length c10] 32 (0, 0)) from hbox1)
    clear hH hS hg hbox hleft hsnd hbut hbut1 hL1 hoth1 hbox1 hbB1 hbut01 hsz1
    by_cases hneg : lf - 1 < 0
    · have HF : Hid (Tr.snd (.mk h l) d lf = (false, lf - 1)) := Lib.hid (Tr.snd_bad (.inl hneg))
      go_wp2_with fail
      go_ret
      exact ⟨by rw [← HSND.out, HF.out]; rfl, by rw [← HSND.out, HF.out]; exact HL1.out, HBUT.out⟩
    by_cases hdeep : 200 < d
    · have HF : Hid (Tr.snd (.mk h l) d lf = (false, lf - 1)) := Lib.hid (Tr.snd_bad (.inr (.inl hdeep)))
      have hdeepI : (200 : Int) < (d : Int) := by omega
      go_wp2_with fail
      go_ret
      exact ⟨by rw [← HSND.out, HF.out]; rfl, by rw [← HSND.out, HF.out]; exact HL1.out, HBUT.out⟩
    have hdeepI : ¬ (200 : Int) < (d : Int) := by omega
    obtain ⟨SH, hSH⟩ : ∃ b, h.shape l.length = b := ⟨_, rfl⟩
    rw [hSH] at KSH
    have HSH := Lib.hid hSH
    clear hSH
    go_wp2_with fail
    refine KSH.mono ?_
    rintro y w2 ⟨rfl, hb2⟩
    have hbut2 := HBUT.out.trans (Tr.But.of_below hb2 (Nat.le_refl _))
    have hL2 : w2.heap[L]? = some (.cells #[.int .i64 (lf - 1)] 3 (0, 0)) := (hb2.block L ((Array.getElem?_eq_some_iff.1 HL1.out).1)).trans HL1.out
    have hbox2 : w2.heap[w.heap.size]? = some (.cells (Tr.cells h u3 u4 u6 u7 u9 (.slice a10 l.length c10)) 32 (0, 0)) := (hb2.block w.heap.size ((Array.getElem?_eq_some_iff.1 HBOX.out).1)).trans HBOX.out
    have hbB2 : Below w0.heap.size w0 w2 := HBB.out.trans (hb2.mono HBB.out.size)
    have HL2 := Lib.hid hL2
    have HBUT2 := Lib.hid hbut2
    have HBOX2 := Lib.hid hbox2
    have HBB2 := Lib.hid hbB2
    clear d0 d1 d2 d3 d4 d5 d6 d7 d8 d9 d10
    obtain ⟨d0, d1, d2, d3, d4, d5, d6, d7, d8, d9, d10⟩ := Dt.cells11 (show w2.heap[w.heap.size]? = some (.cells #[.int .i64 h.k, .int .i64 h.n, .bool h.s1, u3, u4, .bool h.s2, u6, u7, .string h.x, u9, .slice a10 l.length c10] 32 (0, 0)) from hbox2)
    clear hb2 hbut2 hL2 hbox2 hbB2 p0 z0 p1 KSH
    cases SH with
    | false =>
      have HF : Hid (Tr.snd (.mk h l) d lf = (false, lf - 1)) := Lib.hid (Tr.snd_bad (.inr (.inr HSH.out)))
      go_wp2_with fail
      go_ret
      exact ⟨by rw [← HSND.out, HF.out]; rfl, by rw [← HSND.out, HF.out]; exact HL2.out, HBUT2.out⟩
    | true =>
      have HNB : Hid (¬ (lf - 1 < 0 ∨ 200 < d ∨ h.shape l.length = false)) := Lib.hid (by
        rintro (h1 | h1 | h1)
        · omega
        · omega
        · rw [HSH.out] at h1; cases h1)
      by_cases hk8 : h.k = 8
      · have hlen := Tr.Hd.shape_pair HSH.out hk8
        obtain ⟨a, b, rfl⟩ : ∃ a b, l = [a, b] := by
          match l, hlen with
          | [a, b], _ => exact ⟨a, b, rfl⟩
        have HF : Hid (Tr.snd (.mk h [a, b]) d lf = if (Tr.snd a (d + 1) (lf - 1)).1 = true then Tr.snd b d (Tr.snd a (d + 1) (lf - 1)).2 else (false, (Tr.snd a (d + 1) (lf - 1)).2)) := Lib.hid (Tr.snd_pair HNB.out hk8)
        obtain ⟨bL, oL, rfl, _, _, _, hbLlt, hSb, hall⟩ := Tr.Sl.at HS.out (by simp)
        obtain ⟨Ca, hIa, hMa⟩ := Tr.All.at _ _ _ hall 0 a rfl
        obtain ⟨Cb, hIb, hMb⟩ := Tr.All.at _ _ _ hall 1 b rfl
        have hMa : Tr.Mem w0 bL oL Ca := hMa
        have hMb : Tr.Mem w0 bL (oL + 11) Cb := hMb
        have hsz : Tr.size (.mk h [a, b]) = 1 + (Tr.size a + (Tr.size b + 0)) := by rw [Tr.size_mk, Tr.sizeL_cons, Tr.sizeL_cons, Tr.sizeL_nil]
        have KA := (HIH.out a (by have := HG.out; omega)).at (w := w2) (d := d) (left := lf - 1) hIa HT.out HBB2.out HGEO.out.1 HL2.out (by omega) (by omega) (by omega)
        have hMa2 := hMa.kept (Tr.Kept.all HBB2.out (Nat.le_refl _)) hSb hbLlt
        have hle := Tr.snd_le a (d + 1) (lf - 1) (by omega)
        obtain ⟨ha, la, ta3, ta4, ta6, ta7, ta9, ta10, eCa⟩ := Tr.In.form hIa
        obtain ⟨hb, lb, ab3, ab4, ab6, ab7, ab9, ab10, nb3, nb4, nb6, nb7, nb9, nb10, cb3, cb4, cb6, cb7, cb9, cb10, eCb, ebt, hbH, hbL⟩ := Tr.In.form2 hIb
        have HBH := Lib.hid (And.intro ebt (And.intro hbH hbL))
        subst eCa
        subst eCb
        unfold Tr.cells at KA hMa2
        obtain ⟨e0, e1, e2, e3, e4, e5, e6, e7, e8, e9, e10⟩ := Tr.Mem.cells hMa2
        have HSZ := Lib.hid hsz
        have HIB := Lib.hid hIb
        have HMB := Lib.hid hMb
        have HBL := Lib.hid (And.intro hbLlt hSb)
        have HLE := Lib.hid hle
        have hlI : (([a, b] : List Tr).length : Int) = 2 := rfl
        clear ebt hbH hbL hsz hIa hIb hMa hMb hMa2 hle hall hlen hbLlt hSb
        go_wp2_with fail
        refine KA.mono ?_
        rintro y w3 ⟨rfl, hL3, hbt3⟩
        have hbut3 := HBUT2.out.trans hbt3
        have hbB3 : Below w0.heap.size w0 w3 := HBB2.out.trans (hbt3.below HGEO.out.1 HBB2.out.size)
        have hbox3 : w3.heap[w.heap.size]? = some (.cells (Tr.cells h u3 u4 u6 u7 u9 (.slice (some ⟨bL, oL, none⟩) [a, b].length c10)) 32 (0, 0)) := (hbt3.block w.heap.size (by have := HGEO.out; omega) ((Array.getElem?_eq_some_iff.1 HBOX2.out).1)).trans HBOX2.out
        clear d0 d1 d2 d3 d4 d5 d6 d7 d8 d9 d10 e0 e1 e2 e3 e4 e5 e6 e7 e8 e9 e10
        have hMb3 := HMB.out.kept (Tr.Kept.all hbB3 (Nat.le_refl _)) HBL.out.2 HBL.out.1
        have hput := Dt.put11 (show w3.heap[w.heap.size]? = some (.cells #[.int .i64 h.k, .int .i64 h.n, .bool h.s1, u3, u4, .bool h.s2, u6, u7, .string h.x, u9, .slice (some ⟨bL, oL, none⟩) [a, b].length c10] 32 (0, 0)) from hbox3) (.int .i64 hb.k) (.int .i64 hb.n) (.bool hb.s1) (.slice ab3 nb3 cb3) (.slice ab4 nb4 cb4) (.bool hb.s2) (.slice ab6 nb6 cb6) (.slice ab7 nb7 cb7) (.string hb.x) (.slice ab9 nb9 cb9) (.slice ab10 nb10 cb10)
        have HPUT := Lib.hid hput
        obtain ⟨d0, d1, d2, d3, d4, d5, d6, d7, d8, d9, d10⟩ := Dt.cells11 (show w3.heap[w.heap.size]? = some (.cells #[.int .i64 h.k, .int .i64 h.n, .bool h.s1, u3, u4, .bool h.s2, u6, u7, .string h.x, u9, .slice (some ⟨bL, oL, none⟩) [a, b].length c10] 32 (0, 0)) from hbox3)
        unfold Tr.cells at hMb3
        obtain ⟨e0, e1, e2, e3, e4, e5, e6, e7, e8, e9, e10⟩ := Tr.Mem.cells hMb3
        have HL3 := Lib.hid hL3
        have HBUT3 := Lib.hid hbut3
        have HBB3 := Lib.hid hbB3
        clear hL3 hbut3 hbB3 hbt3 hbox3 hMb3 hput KA
        obtain ⟨ra, hra⟩ : ∃ r, (Tr.snd a (d + 1) (lf - 1)).1 = r := ⟨_, rfl⟩
        have HRA := Lib.hid hra
        rw [hra]
        clear hra
        cases ra with
        | false =>
          have HF2 : Hid (Tr.snd (.mk h [a, b]) d lf = (false, (Tr.snd a (d + 1) (lf - 1)).2)) := Lib.hid (by rw [HF.out, HRA.out]; rfl)
          go_wp2_with fail
          go_ret
          exact ⟨by rw [← HSND.out, HF2.out]; rfl, by rw [← HSND.out, HF2.out]; exact HL3.out, HBUT3.out⟩
        | true =>
          have HF2 : Hid (Tr.snd (.mk h [a, b]) d lf = Tr.snd b d (Tr.snd a (d + 1) (lf - 1)).2) := Lib.hid (by rw [HF.out, if_pos HRA.out])
          obtain ⟨X1, X2, X3, X4, X5, X6, X7, X8, X9, X10, X11, ⟨f0, y0, s0, _⟩, ⟨f1, y1, s1, _⟩, ⟨f2, y2, s2, _⟩, ⟨f3, y3, s3, _⟩, ⟨f4, y4, s4, _⟩, ⟨f5, y5, s5, _⟩, ⟨f6, y6, s6, _⟩, ⟨f7, y7, s7, _⟩, ⟨f8, y8, s8, _⟩, ⟨f9, y9, s9, _⟩, ⟨f10, y10, s10, _⟩, hX, hXz, hXo, hXb⟩ := HPUT.out
          have HX := Lib.hid (And.intro hX (And.intro hXz hXo))
          have HLX : Hid (X11.heap[L]? = some (.cells #[.int .i64 (Tr.snd a (d + 1) (lf - 1)).2] 3 (0, 0))) := Lib.hid ((hXo L (by have := HGEO.out; omega)).trans HL3.out)
          have HBX : Hid (Tr.But L w X11) := Lib.hid ⟨(hXb 0 w3 (Below.refl _ _) (Nat.zero_le _)).os.trans HBUT3.out.os, (hXb 0 w3 (Below.refl _ _) (Nat.zero_le _)).tape.trans HBUT3.out.tape, (hXb 0 w3 (Below.refl _ _) (Nat.zero_le _)).output.trans HBUT3.out.output, by rw [hXz]; exact HBUT3.out.size, fun q h1 h2 => (hXo q (by omega)).trans (HBUT3.out.block q h1 h2)⟩
          clear hX hXz hXo hXb
          have hle2 := HLE.out.2 HRA.out
          have HLE2 := Lib.hid hle2
          clear hle2
          go_wp2_with fail
          go_roundg (Tr.size b)
          case measure => have := HSZ.out; have := HG.out; have := Tr.size_pos a; omega
          case rel =>
            have e := HBH.out.1
            exact ⟨hb, lb, _, _, _, _, _, _, (Tr.snd a (d + 1) (lf - 1)).2, HBH.out.2.1, HBH.out.2.2, ⟨by rw [← e], by have := HSZ.out; have := HG.out; omega⟩, HX.out.1, HLX.out, HLE2.out, by have := HLE.out.1; omega, by rw [← e, ← HF2.out, HSND.out], HBX.out⟩
      · have hk8I : (h.k != 8) = true := by simp; exact hk8
        have HF : Hid (Tr.snd (.mk h l) d lf = Tr.sndL l (d + 1) (lf - 1)) := Lib.hid (Tr.snd_list HNB.out hk8)
        have hlf1 : 0 ≤ lf - 1 := by omega
        clear hk8
        go_wp2_with fail
        go_loopg [46] l.length (fun g iv wr => ∃ (k : Nat) (lf2 : Int), k + g = l.length ∧ iv = .int .i64 k ∧ wr.heap[L]? = some (.cells #[.int .i64 lf2] 3 (0, 0)) ∧ 0 ≤ lf2 ∧ lf2 ≤ 20000 ∧ Tr.sndL (l.drop k) (d + 1) lf2 = Tr.sndL l (d + 1) (lf - 1) ∧ Tr.But L w wr ∧ Below w0.heap.size w0 wr)
        case atStart => exact ⟨0, lf - 1, by omega, rfl, HL2.out, hlf1, by omega, by rw [List.drop_zero], HBUT2.out, HBB2.out⟩
        case round =>
          obtain ⟨k, lf2, hkg, rfl, hL3, hl20, hl21, hsl, hbt3, hbb3⟩ := hrel
          obtain ⟨w3, hw3⟩ : ∃ z, z = wr := ⟨_, rfl⟩
          subst hw3
          have HSL := Lib.hid hsl
          have HBT3 := Lib.hid hbt3
          have HBB3 := Lib.hid hbb3
          have HL3 := Lib.hid hL3
          clear hsl hbt3 hbb3 hL3 d0 d1 d2 d3 d4 d5 d6 d7 d8 d9 d10 HL2 HBUT2 HBOX2 HBB2
          by_cases hlt : k < l.length
          · obtain ⟨bL, oL, rfl, _, _, _, hbLlt, hSb, hall⟩ := Tr.Sl.at HS.out (by omega)
            obtain ⟨tk, htk⟩ : ∃ t, l[k]? = some t := ⟨_, List.getElem?_eq_getElem hlt⟩
            have hdrop : l.drop k = tk :: l.drop (k + 1) := by
              rw [List.drop_eq_getElem_cons hlt]
              rw [List.getElem?_eq_getElem hlt] at htk
              injection htk with e
              rw [e]
            obtain ⟨Ck, hIk, hMk⟩ := Tr.All.at _ _ _ hall k tk htk
            rw [Nat.mul_comm 11 k] at hMk
            have hsz : Tr.size tk < Tr.size (.mk h l) := Tr.size_lt (t := .mk h l) (k := k) htk
            have KT := fun w' hb hp => (HIH.out tk (by have := HG.out; omega)).at (w := w') (d := d) (left := lf2) hIk HT.out hb HGEO.out.1 hp hl20 hl21 (by omega)
            have hMk3 := hMk.kept (Tr.Kept.all HBB3.out (Nat.le_refl _)) hSb hbLlt
            obtain ⟨hb, lb, ab3, ab4, ab6, ab7, ab9, ab10, nb3, nb4, nb6, nb7, nb9, nb10, cb3, cb4, cb6, cb7, cb9, cb10, eCb, ebt, hbH, hbL⟩ := Tr.In.form2 hIk
            subst eCb
            unfold Tr.cells at KT hMk3
            obtain ⟨e0, e1, e2, e3, e4, e5, e6, e7, e8, e9, e10⟩ := Tr.Mem.cells hMk3
            have HDR := Lib.hid hdrop
            have hle := Tr.snd_le tk (d + 1) lf2 (by omega)
            have HLE := Lib.hid hle
            have HKT := Lib.hid KT
            clear hIk hMk hMk3 hall hsz hdrop htk ebt hbH hbL hbLlt hSb hle KT
            have HALC : Hid (∀ o, Below w0.heap.size w0 (w3.alloc o) ∧ (w3.alloc o).heap[L]? = some (.cells #[.int .i64 lf2] 3 (0, 0)) ∧ Tr.But L w (w3.alloc o)) := Lib.hid (fun o => ⟨HBB3.out.alloc HBB3.out.size o, (Lib.alloc_old _ _ _ ((Array.getElem?_eq_some_iff.1 HL3.out).1)).trans HL3.out, HBT3.out.alloc o⟩)
            go_wp2_with fail
            refine (HKT.out _ (HALC.out _).1 (HALC.out _).2.1).mono ?_
            rintro y w5 ⟨rfl, hL5, hbt5⟩
            have hbb5 : Below w0.heap.size w0 w5 := (HALC.out _).1.trans (hbt5.below HGEO.out.1 (HALC.out _).1.size)
            have hbut5 := (HALC.out _).2.2.trans hbt5
            have HR5 := Lib.hid (And.intro hL5 (And.intro hbut5 hbb5))
            clear hL5 hbt5 hbb5 hbut5 HALC e0 e1 e2 e3 e4 e5 e6 e7 e8 e9 e10
            obtain ⟨ra, hra⟩ : ∃ r, (Tr.snd tk (d + 1) lf2).1 = r := ⟨_, rfl⟩
            have HRA := Lib.hid hra
            rw [hra]
            clear hra
            cases ra with
            | false =>
              have HF2 : Hid (Tr.snd (.mk h l) d lf = (false, (Tr.snd tk (d + 1) lf2).2)) := Lib.hid (by rw [HF.out, ← HSL.out, HDR.out, Tr.sndL_cons, HRA.out]; rfl)
              go_wp2_with fail
              go_ret
              exact ⟨by rw [← HSND.out, HF2.out]; rfl, by rw [← HSND.out, HF2.out]; exact HR5.out.1, HR5.out.2.1⟩
            | true =>
              have HF2 : Hid (Tr.sndL (l.drop (k + 1)) (d + 1) (Tr.snd tk (d + 1) lf2).2 = Tr.sndL l (d + 1) (lf - 1)) := Lib.hid (by rw [← HSL.out, HDR.out, Tr.sndL_cons, if_pos HRA.out])
              have hle2 := HLE.out.2 HRA.out
              have HLE2 := Lib.hid hle2
              clear hle2
              go_wp2_with fail
              go_roundg (gk - 1)
              case measure => omega
              case rel => exact ⟨k + 1, _, by omega, by first | rfl | go_num | (simp; try omega), HR5.out.1, HLE2.out, by have := HLE.out.1; omega, HF2.out, HR5.out.2.1, HR5.out.2.2⟩
          · obtain rfl : k = l.length := by omega
            have HF2 : Hid (Tr.snd (.mk h l) d lf = (true, lf2)) := Lib.hid (by rw [HF.out, ← HSL.out, List.drop_length, Tr.sndL_nil])
            have hnlt : decide ((l.length : Int) < (l.length : Int)) = false := decide_eq_false (by omega)
            go_wp2_with fail
            go_ret
            exact ⟨by rw [← HSND.out, HF2.out]; rfl, by rw [← HSND.out, HF2.out]; exact HL3.out, HBT3.out⟩
theorem Tr.sound_says (t : Tr) : Tr.SoundSays t := by
  have H : ∀ n t, Tr.size t < n → Tr.SoundSays t := by
    intro n
    induction n with
    | zero => intro t h; omega
    | succ n ih => intro t h; exact Tr.sound_step t (fun u hu => ih u (by omega))
  exact H _ t (Nat.lt_succ_self _)
end Go.Proofs.YtaepjlghdjcdnaaDoor
namespace Go.Proofs.YtaepjlghdjcdnaaDoor
open Go.RowKit
set_option linter.unusedVariables false
set_option linter.unusedSimpArgs false

theorem Tr.In.agg {w : World} {S : Nat → Prop} {t : Tr} {v : Value} (h : Tr.In w S t v) : ∃ C, v = .agg C := by
  obtain ⟨hd, l⟩ := t
  rw [Tr.In_mk] at h
  obtain ⟨v3, v4, v6, v7, v9, v10, e, _⟩ := h
  exact ⟨_, e⟩
set_option maxHeartbeats 4000000 in
set_option maxRecDepth 1000000 in
theorem Tr.Sound_any (t : Tr) (S : Nat → Prop) (v : Value) (w : World) (hI : Tr.In w S t v) (hT : Tr.Tabs w) : Calls Tryd.prog 14 #[v] w fun e w' => e = .returned (.bool (Tr.sound t)) ∧ Below w.heap.size w w' := by
  obtain ⟨C, rfl⟩ := hI.agg
  have K := fun w' L hb hL hp => Tr.sound_says t S C w w' L 1 20000 hI hT hb hL hp (by decide) (by decide) (by decide)
  obtain ⟨hb, lb, a3, a4, a6, a7, a9, a10, n3, n4, n6, n7, n9, n10, c3, c4, c6, c7, c9, c10, eC, _, _, _⟩ := Tr.In.form2 hI
  subst eC
  unfold Tr.cells at K ⊢
  rw [show ((1 : Nat) : Int) = 1 from rfl] at K
  have hdef : Tr.sound t = (Tr.snd t 1 20000).1 := rfl
  rw [← hdef] at K
  have hA : ∀ o1 o2, Below w.heap.size w ((w.alloc o1).alloc o2) := fun o1 o2 => ((Below.refl _ _).alloc (Nat.le_refl _) _).alloc (by simp) _
  have hN : ∀ o, ((w.alloc o).alloc (.cells #[.int .i64 20000] 3)).heap[w.heap.size + 1]? = some (.cells #[.int .i64 20000] 3 (0, 0)) := by
    intro o
    have := heap_alloc_new (w.alloc o) (.cells #[.int .i64 20000] 3)
    rwa [show (w.alloc o).heap.size = w.heap.size + 1 by simp] at this
  have HK := Lib.hid K
  have HA := Lib.hid hA
  have HN := Lib.hid hN
  clear K hA hN hI hT hdef
  generalize Tr.sound t = R at *
  go_enter Tryd.func14, Tryd.ntmps14
  go_wp2_with fail
  refine (HK.out _ _ (HA.out _ _) (Nat.le_succ _) (HN.out _)).mono ?_
  rintro y w1 ⟨rfl, _, hbt⟩
  have HB := Lib.hid ((HA.out _ _).trans (hbt.below (Nat.le_succ _) (HA.out _ _).size))
  clear hbt
  go_wp2_with fail
  go_ret
  exact ⟨rfl, HB.out⟩
end Go.Proofs.YtaepjlghdjcdnaaDoor
namespace Go.Proofs.YtaepjlghdjcdnaaDoor
open Go.RowKit
set_option linter.unusedVariables false
set_option linter.unusedSimpArgs false

/-- Block b is cells that can be written. -/
def Tr.Blk (w : World) (b : Nat) (cur : Array Value) : Prop := ∃ t, w.heap[b]? = some (.cells cur t (0, 0))
theorem Tr.Blk.lt {w : World} {b : Nat} {cur : Array Value} (h : Tr.Blk w b cur) : b < w.heap.size := by
  obtain ⟨t, h⟩ := h
  exact (Array.getElem?_eq_some_iff.1 h).1
theorem Tr.Blk.cell {w : World} {b : Nat} {cur : Array Value} (h : Tr.Blk w b cur) (k : Nat) : w.cell? ⟨b, k, none⟩ = cur[k]? := by
  obtain ⟨t, h⟩ := h
  exact Dt.cell_of h k
theorem Tr.Blk.frozen {w : World} {b : Nat} {cur : Array Value} (h : Tr.Blk w b cur) (k : Nat) : w.frozen? ⟨b, k, none⟩ = false := by
  obtain ⟨t, h⟩ := h
  exact Dt.frozen_of h k
theorem Tr.Blk.set {w : World} {b : Nat} {cur : Array Value} (h : Tr.Blk w b cur) (k : Nat) (u : Value) : Tr.Blk (w.setCell ⟨b, k, none⟩ u) b (cur.set! k u) := by
  obtain ⟨t, h⟩ := h
  exact ⟨t, Dt.setCells h k u⟩
theorem Tr.Blk.kept {w w' : World} {b : Nat} {cur : Array Value} (h : Tr.Blk w b cur) (e : w'.heap[b]? = w.heap[b]?) : Tr.Blk w' b cur := by
  obtain ⟨t, h⟩ := h
  exact ⟨t, e.trans h⟩
/-- One cell stored. -/
theorem Tr.Blk.put {w : World} {b : Nat} {cur : Array Value} (h : Tr.Blk w b cur) (k : Nat) (hk : k < cur.size) (u : Value) :
    ∃ (x : Value) (W : World), w.cell? ⟨b, k, none⟩ = some x ∧ w.frozen? ⟨b, k, none⟩ = false ∧ w.setCell ⟨b, k, none⟩ u = W ∧ Tr.Blk W b (cur.set! k u) ∧ W.heap.size = w.heap.size ∧ (∀ q, q ≠ b → W.heap[q]? = w.heap[q]?) ∧ W.os = w.os ∧ W.tape = w.tape ∧ W.output = w.output :=
  ⟨cur[k], _, by rw [h.cell k, Array.getElem?_eq_getElem hk], h.frozen k, rfl, h.set k u, by simp, fun q hq => Below.heap_setCell _ _ _ _ hq, rfl, rfl, rfl⟩
theorem Tr.set_get (cur : Array Value) (k j : Nat) (u : Value) (hk : k < cur.size) : (cur.set! k u)[j]? = if j = k then some u else cur[j]? := by
  rw [Array.set!_eq_setIfInBounds, Array.getElem?_setIfInBounds]
  by_cases h : k = j
  · subst h; rw [if_pos rfl, if_pos hk, if_pos rfl]
  · rw [if_neg h, if_neg (fun e => h e.symm)]
theorem Tr.set_size (cur : Array Value) (k : Nat) (u : Value) : (cur.set! k u).size = cur.size := by simp
/-- Six cells stored. -/
theorem Tr.Blk.put6 {w : World} {b : Nat} {cur : Array Value} (h : Tr.Blk w b cur) (off : Nat) (hoff : off + 6 ≤ cur.size) (u0 u1 u2 u3 u4 u5 : Value) :
    ∃ (x0 x1 x2 x3 x4 x5 : Value) (W1 W2 W3 W4 W5 W6 : World) (cur' : Array Value),
    (w.cell? ⟨b, off, none⟩ = some x0 ∧ w.frozen? ⟨b, off, none⟩ = false ∧ w.setCell ⟨b, off, none⟩ u0 = W1) ∧
    (W1.cell? ⟨b, off + 1, none⟩ = some x1 ∧ W1.frozen? ⟨b, off + 1, none⟩ = false ∧ W1.setCell ⟨b, off + 1, none⟩ u1 = W2) ∧
    (W2.cell? ⟨b, off + 2, none⟩ = some x2 ∧ W2.frozen? ⟨b, off + 2, none⟩ = false ∧ W2.setCell ⟨b, off + 2, none⟩ u2 = W3) ∧
    (W3.cell? ⟨b, off + 3, none⟩ = some x3 ∧ W3.frozen? ⟨b, off + 3, none⟩ = false ∧ W3.setCell ⟨b, off + 3, none⟩ u3 = W4) ∧
    (W4.cell? ⟨b, off + 4, none⟩ = some x4 ∧ W4.frozen? ⟨b, off + 4, none⟩ = false ∧ W4.setCell ⟨b, off + 4, none⟩ u4 = W5) ∧
    (W5.cell? ⟨b, off + 5, none⟩ = some x5 ∧ W5.frozen? ⟨b, off + 5, none⟩ = false ∧ W5.setCell ⟨b, off + 5, none⟩ u5 = W6) ∧
    Hid (Tr.Blk W6 b cur' ∧ cur'.size = cur.size ∧ W6.heap.size = w.heap.size ∧ (∀ q, q ≠ b → W6.heap[q]? = w.heap[q]?) ∧ (∀ j, j < 6 → cur'[off + j]? = (#[u0, u1, u2, u3, u4, u5] : Array Value)[j]?) ∧ (∀ o, (o < off ∨ off + 6 ≤ o) → cur'[o]? = cur[o]?) ∧ (W6.os = w.os ∧ W6.tape = w.tape ∧ W6.output = w.output)) := by
  obtain ⟨x0, W1, f0, z0, s0, g1, n0, o0, p0, q0, r0⟩ := h.put (off + 0) (by first | omega | (simp only [Tr.set_size]; omega)) u0
  obtain ⟨x1, W2, f1, z1, s1, g2, n1, o1, p1, q1, r1⟩ := g1.put (off + 1) (by first | omega | (simp only [Tr.set_size]; omega)) u1
  obtain ⟨x2, W3, f2, z2, s2, g3, n2, o2, p2, q2, r2⟩ := g2.put (off + 2) (by first | omega | (simp only [Tr.set_size]; omega)) u2
  obtain ⟨x3, W4, f3, z3, s3, g4, n3, o3, p3, q3, r3⟩ := g3.put (off + 3) (by first | omega | (simp only [Tr.set_size]; omega)) u3
  obtain ⟨x4, W5, f4, z4, s4, g5, n4, o4, p4, q4, r4⟩ := g4.put (off + 4) (by first | omega | (simp only [Tr.set_size]; omega)) u4
  obtain ⟨x5, W6, f5, z5, s5, g6, n5, o5, p5, q5, r5⟩ := g5.put (off + 5) (by first | omega | (simp only [Tr.set_size]; omega)) u5
  refine ⟨x0, x1, x2, x3, x4, x5, W1, W2, W3, W4, W5, W6, _, ⟨f0, z0, s0⟩, ⟨f1, z1, s1⟩, ⟨f2, z2, s2⟩, ⟨f3, z3, s3⟩, ⟨f4, z4, s4⟩, ⟨f5, z5, s5⟩, Lib.hid ⟨g6, by simp only [Tr.set_size], by omega, fun q hq => ?_, fun j hj => ?_, fun o ho => ?_, ?_⟩⟩
  · rw [o5 q hq, o4 q hq, o3 q hq, o2 q hq, o1 q hq, o0 q hq]
  · repeat rw [Tr.set_get _ _ _ _ (by first | omega | (simp only [Tr.set_size]; omega))]
    rcases (show j = 0 ∨ j = 1 ∨ j = 2 ∨ j = 3 ∨ j = 4 ∨ j = 5 by omega) with rfl | rfl | rfl | rfl | rfl | rfl <;> simp
  · repeat rw [Tr.set_get _ _ _ _ (by first | omega | (simp only [Tr.set_size]; omega))]
    repeat rw [if_neg (by omega)]
  · exact ⟨by rw [p5, p4, p3, p2, p1, p0], by rw [q5, q4, q3, q2, q1, q0], by rw [r5, r4, r3, r2, r1, r0]⟩
/-- Eleven cells stored. -/
theorem Tr.Blk.put11 {w : World} {b : Nat} {cur : Array Value} (h : Tr.Blk w b cur) (off : Nat) (hoff : off + 11 ≤ cur.size) (u0 u1 u2 u3 u4 u5 u6 u7 u8 u9 u10 : Value) :
    ∃ (x0 x1 x2 x3 x4 x5 x6 x7 x8 x9 x10 : Value) (W1 W2 W3 W4 W5 W6 W7 W8 W9 W10 W11 : World) (cur' : Array Value),
    (w.cell? ⟨b, off, none⟩ = some x0 ∧ w.frozen? ⟨b, off, none⟩ = false ∧ w.setCell ⟨b, off, none⟩ u0 = W1) ∧
    (W1.cell? ⟨b, off + 1, none⟩ = some x1 ∧ W1.frozen? ⟨b, off + 1, none⟩ = false ∧ W1.setCell ⟨b, off + 1, none⟩ u1 = W2) ∧
    (W2.cell? ⟨b, off + 2, none⟩ = some x2 ∧ W2.frozen? ⟨b, off + 2, none⟩ = false ∧ W2.setCell ⟨b, off + 2, none⟩ u2 = W3) ∧
    (W3.cell? ⟨b, off + 3, none⟩ = some x3 ∧ W3.frozen? ⟨b, off + 3, none⟩ = false ∧ W3.setCell ⟨b, off + 3, none⟩ u3 = W4) ∧
    (W4.cell? ⟨b, off + 4, none⟩ = some x4 ∧ W4.frozen? ⟨b, off + 4, none⟩ = false ∧ W4.setCell ⟨b, off + 4, none⟩ u4 = W5) ∧
    (W5.cell? ⟨b, off + 5, none⟩ = some x5 ∧ W5.frozen? ⟨b, off + 5, none⟩ = false ∧ W5.setCell ⟨b, off + 5, none⟩ u5 = W6) ∧
    (W6.cell? ⟨b, off + 6, none⟩ = some x6 ∧ W6.frozen? ⟨b, off + 6, none⟩ = false ∧ W6.setCell ⟨b, off + 6, none⟩ u6 = W7) ∧
    (W7.cell? ⟨b, off + 7, none⟩ = some x7 ∧ W7.frozen? ⟨b, off + 7, none⟩ = false ∧ W7.setCell ⟨b, off + 7, none⟩ u7 = W8) ∧
    (W8.cell? ⟨b, off + 8, none⟩ = some x8 ∧ W8.frozen? ⟨b, off + 8, none⟩ = false ∧ W8.setCell ⟨b, off + 8, none⟩ u8 = W9) ∧
    (W9.cell? ⟨b, off + 9, none⟩ = some x9 ∧ W9.frozen? ⟨b, off + 9, none⟩ = false ∧ W9.setCell ⟨b, off + 9, none⟩ u9 = W10) ∧
    (W10.cell? ⟨b, off + 10, none⟩ = some x10 ∧ W10.frozen? ⟨b, off + 10, none⟩ = false ∧ W10.setCell ⟨b, off + 10, none⟩ u10 = W11) ∧
    Hid (Tr.Blk W11 b cur' ∧ cur'.size = cur.size ∧ W11.heap.size = w.heap.size ∧ (∀ q, q ≠ b → W11.heap[q]? = w.heap[q]?) ∧ (∀ j, j < 11 → cur'[off + j]? = (#[u0, u1, u2, u3, u4, u5, u6, u7, u8, u9, u10] : Array Value)[j]?) ∧ (∀ o, (o < off ∨ off + 11 ≤ o) → cur'[o]? = cur[o]?) ∧ (W11.os = w.os ∧ W11.tape = w.tape ∧ W11.output = w.output)) := by
  obtain ⟨x0, W1, f0, z0, s0, g1, n0, o0, p0, q0, r0⟩ := h.put (off + 0) (by first | omega | (simp only [Tr.set_size]; omega)) u0
  obtain ⟨x1, W2, f1, z1, s1, g2, n1, o1, p1, q1, r1⟩ := g1.put (off + 1) (by first | omega | (simp only [Tr.set_size]; omega)) u1
  obtain ⟨x2, W3, f2, z2, s2, g3, n2, o2, p2, q2, r2⟩ := g2.put (off + 2) (by first | omega | (simp only [Tr.set_size]; omega)) u2
  obtain ⟨x3, W4, f3, z3, s3, g4, n3, o3, p3, q3, r3⟩ := g3.put (off + 3) (by first | omega | (simp only [Tr.set_size]; omega)) u3
  obtain ⟨x4, W5, f4, z4, s4, g5, n4, o4, p4, q4, r4⟩ := g4.put (off + 4) (by first | omega | (simp only [Tr.set_size]; omega)) u4
  obtain ⟨x5, W6, f5, z5, s5, g6, n5, o5, p5, q5, r5⟩ := g5.put (off + 5) (by first | omega | (simp only [Tr.set_size]; omega)) u5
  obtain ⟨x6, W7, f6, z6, s6, g7, n6, o6, p6, q6, r6⟩ := g6.put (off + 6) (by first | omega | (simp only [Tr.set_size]; omega)) u6
  obtain ⟨x7, W8, f7, z7, s7, g8, n7, o7, p7, q7, r7⟩ := g7.put (off + 7) (by first | omega | (simp only [Tr.set_size]; omega)) u7
  obtain ⟨x8, W9, f8, z8, s8, g9, n8, o8, p8, q8, r8⟩ := g8.put (off + 8) (by first | omega | (simp only [Tr.set_size]; omega)) u8
  obtain ⟨x9, W10, f9, z9, s9, g10, n9, o9, p9, q9, r9⟩ := g9.put (off + 9) (by first | omega | (simp only [Tr.set_size]; omega)) u9
  obtain ⟨x10, W11, f10, z10, s10, g11, n10, o10, p10, q10, r10⟩ := g10.put (off + 10) (by first | omega | (simp only [Tr.set_size]; omega)) u10
  refine ⟨x0, x1, x2, x3, x4, x5, x6, x7, x8, x9, x10, W1, W2, W3, W4, W5, W6, W7, W8, W9, W10, W11, _, ⟨f0, z0, s0⟩, ⟨f1, z1, s1⟩, ⟨f2, z2, s2⟩, ⟨f3, z3, s3⟩, ⟨f4, z4, s4⟩, ⟨f5, z5, s5⟩, ⟨f6, z6, s6⟩, ⟨f7, z7, s7⟩, ⟨f8, z8, s8⟩, ⟨f9, z9, s9⟩, ⟨f10, z10, s10⟩, Lib.hid ⟨g11, by simp only [Tr.set_size], by omega, fun q hq => ?_, fun j hj => ?_, fun o ho => ?_, ?_⟩⟩
  · rw [o10 q hq, o9 q hq, o8 q hq, o7 q hq, o6 q hq, o5 q hq, o4 q hq, o3 q hq, o2 q hq, o1 q hq, o0 q hq]
  · repeat rw [Tr.set_get _ _ _ _ (by first | omega | (simp only [Tr.set_size]; omega))]
    rcases (show j = 0 ∨ j = 1 ∨ j = 2 ∨ j = 3 ∨ j = 4 ∨ j = 5 ∨ j = 6 ∨ j = 7 ∨ j = 8 ∨ j = 9 ∨ j = 10 by omega) with rfl | rfl | rfl | rfl | rfl | rfl | rfl | rfl | rfl | rfl | rfl <;> simp
  · repeat rw [Tr.set_get _ _ _ _ (by first | omega | (simp only [Tr.set_size]; omega))]
    repeat rw [if_neg (by omega)]
  · exact ⟨by rw [p10, p9, p8, p7, p6, p5, p4, p3, p2, p1, p0], by rw [q10, q9, q8, q7, q6, q5, q4, q3, q2, q1, q0], by rw [r10, r9, r8, r7, r6, r5, r4, r3, r2, r1, r0]⟩
end Go.Proofs.YtaepjlghdjcdnaaDoor
namespace Go.Proofs.YtaepjlghdjcdnaaDoor
open Go.RowKit
set_option linter.unusedVariables false
set_option linter.unusedSimpArgs false

mutual
/-- Each node is sound by its kind. -/
def Tr.good : Tr → Prop
  | .mk h l => h.shape l.length = true ∧ Tr.goodL l
def Tr.goodL : List Tr → Prop
  | [] => True
  | t :: ts => Tr.good t ∧ Tr.goodL ts
end
theorem Tr.good_mk {h : Tr.Hd} {l : List Tr} : Tr.good (.mk h l) ↔ h.shape l.length = true ∧ Tr.goodL l := by rw [Tr.good]
theorem Tr.goodL_cons {t : Tr} {ts : List Tr} : Tr.goodL (t :: ts) ↔ Tr.good t ∧ Tr.goodL ts := by rw [Tr.goodL]
theorem Tr.goodL_nil : Tr.goodL [] := by rw [Tr.goodL]; trivial
theorem Tr.goodL_at : ∀ (l : List Tr), Tr.goodL l → ∀ (k : Nat) (t : Tr), l[k]? = some t → Tr.good t
  | [], _, k, t, h => by simp at h
  | x :: ts, hg, 0, t, h => by
    obtain rfl : x = t := by simpa using h
    exact (Tr.goodL_cons.1 hg).1
  | x :: ts, hg, k + 1, t, h => Tr.goodL_at ts (Tr.goodL_cons.1 hg).2 k t (by simpa using h)
mutual
theorem Tr.snd_good : ∀ (t : Tr) (d : Nat) (left : Int), (Tr.snd t d left).1 = true → Tr.good t
  | .mk h l, d, left, hs => by
    by_cases hb : left - 1 < 0 ∨ 200 < d ∨ h.shape l.length = false
    · rw [Tr.snd_bad hb] at hs; cases hs
    · have hsh : h.shape l.length = true := by
        cases e : h.shape l.length with
        | true => rfl
        | false => exact absurd (Or.inr (Or.inr e)) hb
      rw [Tr.good_mk]
      refine ⟨hsh, ?_⟩
      by_cases hk : h.k = 8
      · have hl := Tr.Hd.shape_pair hsh hk
        match l, hl with
        | [a, b], _ =>
          rw [Tr.snd_pair hb hk] at hs
          split at hs
          · rename_i h1
            exact Tr.goodL_cons.2 ⟨Tr.snd_good a _ _ h1, Tr.goodL_cons.2 ⟨Tr.snd_good b _ _ hs, Tr.goodL_nil⟩⟩
          · cases hs
      · rw [Tr.snd_list hb hk] at hs
        exact Tr.sndL_good l _ _ hs
theorem Tr.sndL_good : ∀ (l : List Tr) (d : Nat) (left : Int), (Tr.sndL l d left).1 = true → Tr.goodL l
  | [], d, left, _ => Tr.goodL_nil
  | t :: ts, d, left, hs => by
    rw [Tr.sndL_cons] at hs
    split at hs
    · rename_i h1
      exact Tr.goodL_cons.2 ⟨Tr.snd_good t _ _ h1, Tr.sndL_good ts _ _ hs⟩
    · cases hs
end
theorem Tr.sound_good {t : Tr} (h : Tr.sound t = true) : Tr.good t := Tr.snd_good t _ _ h
/-- A datum but for one node, which lies at oA in block bA: whatever stands there as 'cu' makes 't' of what stands at OB. -/
def Tr.Hole (B0 : Nat) (wr : World) (bA oA OB : Nat) (t cu : Tr) : Prop := ∀ (w'' : World) (C' : Array Value), wr.heap.size ≤ w''.heap.size → (∀ q, B0 ≤ q → q < wr.heap.size → q ≠ bA → w''.heap[q]? = wr.heap[q]?) → (∀ o, o < oA → w''.cell? ⟨bA, o, none⟩ = wr.cell? ⟨bA, o, none⟩) → Tr.In w'' (fun q => B0 ≤ q) cu (.agg C') → Tr.Mem w'' bA oA C' → ∃ Cout, Tr.Mem w'' OB 0 Cout ∧ Tr.In w'' (fun q => B0 ≤ q) t (.agg Cout)
theorem Tr.Hole.start (B0 : Nat) (w : World) (OB : Nat) (t : Tr) : Tr.Hole B0 w OB 0 OB t t := fun w'' C' _ _ _ hI hM => ⟨C', hM, hI⟩
theorem Tr.Hole.kept {B0 : Nat} {wr wr' : World} {bA oA OB : Nat} {t cu : Tr} (h : Tr.Hole B0 wr bA oA OB t cu) (hz : wr.heap.size ≤ wr'.heap.size) (hk : ∀ q, B0 ≤ q → q < wr.heap.size → q ≠ bA → wr'.heap[q]? = wr.heap[q]?) (hc : ∀ o, o < oA → wr'.cell? ⟨bA, o, none⟩ = wr.cell? ⟨bA, o, none⟩) : Tr.Hole B0 wr' bA oA OB t cu :=
  fun w'' C' h1 h2 h3 hI hM => h w'' C' (Nat.le_trans hz h1) (fun q a b c => (h2 q a (Nat.lt_of_lt_of_le b hz) c).trans (hk q a b c)) (fun o ho => (h3 o ho).trans (hc o ho)) hI hM
/-- Words that are none: their slice lies anywhere. -/
theorem Tr.none_in {w w' : World} {v : Value} {ws : List Nat} (h : Nt.In w v ws) (h0 : ws.length = 0) : Nt.In w' v ws := by
  rcases h with h | h | ⟨h1, _⟩
  · exact .inl h
  · exact .inr (.inl h)
  · omega
theorem Tr.none_raw {w w' : World} {v : Value} {s : ByteArray} (h : By.In w v s) (h0 : s.size = 0) : By.In w' v s := by
  rcases h with h | h | ⟨h1, _⟩
  · exact .inl h
  · exact .inr (.inl h)
  · omega
theorem Tr.On.zero (S : Nat → Prop) (v : Value) : Tr.On S v 0 := fun h => absurd h (by omega)
/-- The next hole: a pair whose first datum is copied and whose second is to be copied. -/
theorem Tr.Hole.next {B0 : Nat} {w0 wr : World} {bA oA OB Lb : Nat} {t : Tr} {hc : Tr.Hd} {a b : Tr} {u3 u4 u6 u7 v9 : Value} {Ca : Array Value}
    (h : Tr.Hole B0 w0 bA oA OB t (.mk hc [a, b])) (hz0 : w0.heap.size ≤ Lb) (hk0 : ∀ q, B0 ≤ q → q < w0.heap.size → q ≠ bA → wr.heap[q]? = w0.heap[q]?) (hc0 : ∀ o, o < oA → wr.cell? ⟨bA, o, none⟩ = w0.cell? ⟨bA, o, none⟩) (hlt : bA < wr.heap.size) (hLlt : Lb < wr.heap.size) (hne : bA ≠ Lb) (hB : B0 ≤ bA) (hBL : B0 ≤ Lb)
    (hH : Tr.Hd.In wr (fun q => B0 ≤ q ∧ q ≠ Lb) hc u3 u4 u6 u7 v9) (hA : Tr.In wr (fun q => B0 ≤ q ∧ q ≠ Lb) a (.agg Ca)) (hMA : Tr.Mem wr Lb 0 Ca)
    (hM : Tr.Mem wr bA oA (Tr.cells hc u3 u4 u6 u7 v9 (.slice (some ⟨Lb, 0, none⟩) 2 2))) : Tr.Hole B0 wr Lb 11 OB t b := by
  intro w'' C' h1 h2 h3 hI hMb
  have hk : Tr.Kept (fun q => B0 ≤ q ∧ q ≠ Lb) wr w'' := ⟨h1, fun q hq hl => h2 q hq.1 hl hq.2⟩
  have hM'' : Tr.Mem w'' bA oA (Tr.cells hc u3 u4 u6 u7 v9 (.slice (some ⟨Lb, 0, none⟩) 2 2)) := hM.kept hk ⟨hB, hne⟩ hlt
  have hMA'' : Tr.Mem w'' Lb 0 Ca := fun j hj => by
    obtain ⟨u, e1, e2⟩ := hMA j hj
    exact ⟨u, e1, (h3 (0 + j) (by omega)).trans e2⟩
  refine h w'' _ (by omega) (fun q q1 q2 q3 => (h2 q q1 (by omega) (by omega)).trans (hk0 q q1 q2 q3)) (fun o ho => (hk.cell ⟨hB, hne⟩ hlt).trans (hc0 o ho)) (?_ : Tr.In w'' (fun q => B0 ≤ q) (.mk hc [a, b]) (.agg (Tr.cells hc u3 u4 u6 u7 v9 (.slice (some ⟨Lb, 0, none⟩) 2 2)))) hM''
  rw [Tr.In_mk]
  refine ⟨u3, u4, u6, u7, v9, _, rfl, (hH.kept hk).mono (fun q hq => hq.1), .inr (.inr ⟨by simp, Lb, 0, 2, by simp, by simp, by decide, Nat.lt_of_lt_of_le hLlt h1, hBL, ?_⟩)⟩
  show Tr.All w'' (fun q => B0 ≤ q) [a, b] Lb 0
  rw [Tr.All_cons, Tr.All_cons]
  exact ⟨⟨Ca, Tr.In.mono (fun q hq => hq.1) a _ (Tr.In.kept hk a _ hA), hMA''⟩, ⟨C', hI, by simpa using hMb⟩, Tr.All_nil⟩
theorem Tr.Blk.mem {w : World} {b off : Nat} {cur C : Array Value} (h : Tr.Blk w b cur) (hm : ∀ j, j < 11 → cur[off + j]? = C[j]?) (hC : C.size = 11) : Tr.Mem w b off C := fun j hj =>
  ⟨C[j]'(by omega), Array.getElem?_eq_getElem _, (h.cell _).trans ((hm j hj).trans (Array.getElem?_eq_getElem _))⟩
theorem Tr.cases11 {P : Nat → Prop} (h0 : P 0) (h1 : P 1) (h2 : P 2) (h3 : P 3) (h4 : P 4) (h5 : P 5) (h6 : P 6) (h7 : P 7) (h8 : P 8) (h9 : P 9) (h10 : P 10) : ∀ j, j < 11 → P j := by
  intro j hj
  rcases (show j = 0 ∨ j = 1 ∨ j = 2 ∨ j = 3 ∨ j = 4 ∨ j = 5 ∨ j = 6 ∨ j = 7 ∨ j = 8 ∨ j = 9 ∨ j = 10 by omega) with rfl | rfl | rfl | rfl | rfl | rfl | rfl | rfl | rfl | rfl | rfl <;> assumption
theorem Tr.mem_set9 {cur : Array Value} {off : Nat} {h : Tr.Hd} {u3 u4 u6 u7 u9 u10 : Value} (hm : ∀ j, j < 11 → cur[off + j]? = (Tr.cells h u3 u4 u6 u7 u9 u10)[j]?) (hs : off + 11 ≤ cur.size) (v : Value) : ∀ j, j < 11 → (cur.set! (off + 9) v)[off + j]? = (Tr.cells h u3 u4 u6 u7 v u10)[j]? := by
  intro j hj
  rw [Tr.set_get _ _ _ _ (by omega)]
  by_cases e : j = 9
  · subst e; rw [if_pos rfl]; rfl
  · rw [if_neg (by omega), hm j hj]
    rcases (show j = 0 ∨ j = 1 ∨ j = 2 ∨ j = 3 ∨ j = 4 ∨ j = 5 ∨ j = 6 ∨ j = 7 ∨ j = 8 ∨ j = 10 by omega) with rfl | rfl | rfl | rfl | rfl | rfl | rfl | rfl | rfl | rfl <;> rfl
theorem Tr.mem_set10 {cur : Array Value} {off : Nat} {h : Tr.Hd} {u3 u4 u6 u7 u9 u10 : Value} (hm : ∀ j, j < 11 → cur[off + j]? = (Tr.cells h u3 u4 u6 u7 u9 u10)[j]?) (hs : off + 11 ≤ cur.size) (v : Value) : ∀ j, j < 11 → (cur.set! (off + 10) v)[off + j]? = (Tr.cells h u3 u4 u6 u7 u9 v)[j]? := by
  intro j hj
  rw [Tr.set_get _ _ _ _ (by omega)]
  by_cases e : j = 10
  · subst e; rw [if_pos rfl]; rfl
  · rw [if_neg (by omega), hm j hj]
    rcases (show j = 0 ∨ j = 1 ∨ j = 2 ∨ j = 3 ∨ j = 4 ∨ j = 5 ∨ j = 6 ∨ j = 7 ∨ j = 8 ∨ j = 9 by omega) with rfl | rfl | rfl | rfl | rfl | rfl | rfl | rfl | rfl | rfl <;> rfl
/-- The number's six cells, stored anew. -/
theorem Tr.mem_set6 {cur cur' : Array Value} {off : Nat} {h : Tr.Hd} {u3 u4 u6 u7 u9 u10 v3 v4 v6 v7 : Value} (hm : ∀ j, j < 11 → cur[off + j]? = (Tr.cells h u3 u4 u6 u7 u9 u10)[j]?) (h6 : ∀ j, j < 6 → cur'[off + 2 + j]? = (#[.bool h.s1, v3, v4, .bool h.s2, v6, v7] : Array Value)[j]?) (ho : ∀ o, (o < off + 2 ∨ off + 2 + 6 ≤ o) → cur'[o]? = cur[o]?) : ∀ j, j < 11 → cur'[off + j]? = (Tr.cells h v3 v4 v6 v7 u9 u10)[j]? := by
  refine Tr.cases11 ?_ ?_ ?_ ?_ ?_ ?_ ?_ ?_ ?_ ?_ ?_
  · exact (ho _ (by omega)).trans (hm 0 (by decide))
  · exact (ho _ (by omega)).trans (hm 1 (by decide))
  · exact h6 0 (by decide)
  · exact h6 1 (by decide)
  · exact h6 2 (by decide)
  · exact h6 3 (by decide)
  · exact h6 4 (by decide)
  · exact h6 5 (by decide)
  · exact (ho _ (by omega)).trans (hm 8 (by decide))
  · exact (ho _ (by omega)).trans (hm 9 (by decide))
  · exact (ho _ (by omega)).trans (hm 10 (by decide))
theorem Tr.Hole.setAt {B0 : Nat} {wr wr' : World} {bA oA OB : Nat} {t cu : Tr} {cur cur' : Array Value} (h : Tr.Hole B0 wr bA oA OB t cu) (hz : wr.heap.size ≤ wr'.heap.size) (hk : ∀ q, q ≠ bA → q < wr.heap.size → B0 ≤ q → wr'.heap[q]? = wr.heap[q]?) (h1 : Tr.Blk wr bA cur) (h2 : Tr.Blk wr' bA cur') (ho : ∀ o, o < oA → cur'[o]? = cur[o]?) : Tr.Hole B0 wr' bA oA OB t cu :=
  h.kept hz (fun q a b c => hk q c b a) (fun o hlt => by rw [h2.cell, h1.cell, ho o hlt])
theorem Tr.num_none {h : Tr.Hd} {n : Nat} (hs : h.shape n = true) (hk : h.k ≠ 3) : h.t1.length = 0 ∧ h.b1.length = 0 ∧ h.t2.length = 0 ∧ h.b2.length = 0 := by
  unfold Tr.Hd.shape at hs
  simp only [Bool.and_eq_true] at hs
  have h1 := hs.1.1.1.1
  unfold Tr.Hd.num at h1
  rw [if_neg hk] at h1
  unfold Rt.noRat at h1
  simp only [Bool.and_eq_true, decide_eq_true_eq] at h1
  exact ⟨h1.1.1.2, h1.1.2, h1.2.1.2, h1.2.2⟩
theorem Tr.num_sound {h : Tr.Hd} {n : Nat} (hs : h.shape n = true) (hk : h.k = 3) : Rt.sound h.s1 h.t1 h.b1 = true ∧ Rt.sound h.s2 h.t2 h.b2 = true := by
  unfold Tr.Hd.shape at hs
  simp only [Bool.and_eq_true] at hs
  have h1 := hs.1.1.1.1
  unfold Tr.Hd.num at h1
  rw [if_pos hk] at h1
  simpa using h1
theorem Rt.FrN.open {B B' : Nat} {s tv bv s2 tv2 bv2 : Value} (h : Rt.FrN B (.agg #[s, tv, bv, s2, tv2, bv2])) (hB : B' ≤ B) : Nt.Fr B' tv ∧ Nt.Fr B' bv ∧ Nt.Fr B' tv2 ∧ Nt.Fr B' bv2 := by
  obtain ⟨x0, x1, x2, x3, x4, x5, e, h1, h2, h3, h4⟩ := h
  simp only [Value.agg.injEq] at e
  have e1 : tv = x1 := by have := congrArg (fun a : Array Value => a[1]?) e; simpa using this
  have e2 : bv = x2 := by have := congrArg (fun a : Array Value => a[2]?) e; simpa using this
  have e4 : tv2 = x4 := by have := congrArg (fun a : Array Value => a[4]?) e; simpa using this
  have e5 : bv2 = x5 := by have := congrArg (fun a : Array Value => a[5]?) e; simpa using this
  subst e1 e2 e4 e5
  exact ⟨h1.mono hB, h2.mono hB, h3.mono hB, h4.mono hB⟩
def Tr.zeroV : Value := .agg #[.int .i64 0, .int .i64 0, .bool false, .slice none 0 0, .slice none 0 0, .bool false, .slice none 0 0, .slice none 0 0, .string ⟨#[]⟩, .slice none 0 0, .slice none 0 0]
theorem Tr.infoD : (Tryd.prog.info? 32).map (fun i => (i.zero, i.size, i.bytes)) = some (some Tr.zeroV, 11, 192) := by kernel_rfl
/-- A row of n data is made. -/
theorem Tr.make (n : Nat) (w : World) (hn : n ≤ 1000000) : ∃ cur : Array Value, cur.size = n * 11 ∧ (Instr.makeSlice 30 (.int .i64 (n : Int)) (.int .i64 (n : Int))).run Tryd.prog w = .ok (.slice (some ⟨w.heap.size, 0, none⟩) n n) (w.alloc (.cells cur 32)) := by
  obtain ⟨i0, hi, hz0, hz1, hz2⟩ := info_parts Tr.infoD
  have := run_makeSlice (P := Tryd.prog) w 30 32 i0 Tr.zeroV Tryd.underlying30 hi hz0 .i64 .i64 n n (by omega) (by omega) (by rw [hz1]; omega) (by rw [hz2]; omega) (by omega)
  refine ⟨_, ?_, by rw [this]; rfl⟩
  simp [madeCells, hz1]
theorem Tr.len_le_size : ∀ (l : List Tr), l.length ≤ Tr.sizeL l
  | [] => Nat.zero_le _
  | t :: ts => by
    have := Tr.len_le_size ts
    have := Tr.size_pos t
    rw [Tr.sizeL_cons, List.length_cons]; omega
mutual
theorem Tr.snd_left : ∀ (t : Tr) (d : Nat) (left : Int), (Tr.snd t d left).1 = true → (Tr.snd t d left).2 = left - Tr.size t
  | .mk h l, d, left, hs => by
    by_cases hb : left - 1 < 0 ∨ 200 < d ∨ h.shape l.length = false
    · rw [Tr.snd_bad hb] at hs; cases hs
    · have hsh : h.shape l.length = true := by
        cases e : h.shape l.length with
        | true => rfl
        | false => exact absurd (Or.inr (Or.inr e)) hb
      rw [Tr.size_mk]
      by_cases hk : h.k = 8
      · have hl := Tr.Hd.shape_pair hsh hk
        match l, hl with
        | [a, b], _ =>
          rw [Tr.snd_pair hb hk] at hs ⊢
          split at hs
          · rename_i h1
            rw [if_pos h1, Tr.snd_left b _ _ hs, Tr.snd_left a _ _ h1, Tr.sizeL_cons, Tr.sizeL_cons, Tr.sizeL_nil]
            omega
          · cases hs
      · rw [Tr.snd_list hb hk] at hs ⊢
        rw [Tr.sndL_left l _ _ hs]
        omega
theorem Tr.sndL_left : ∀ (l : List Tr) (d : Nat) (left : Int), (Tr.sndL l d left).1 = true → (Tr.sndL l d left).2 = left - Tr.sizeL l
  | [], d, left, _ => by rw [Tr.sndL_nil, Tr.sizeL_nil]; simp
  | t :: ts, d, left, hs => by
    rw [Tr.sndL_cons] at hs ⊢
    split at hs
    · rename_i h1
      rw [if_pos h1, Tr.sndL_left ts _ _ hs, Tr.snd_left t _ _ h1, Tr.sizeL_cons]
      omega
    · cases hs
end
/-- A sound datum has so many nodes at most. -/
theorem Tr.sound_size {t : Tr} (h : Tr.sound t = true) : Tr.size t ≤ 20000 := by
  have h1 := Tr.snd_left t 1 20000 h
  have h2 := (Tr.snd_le t 1 20000 (by decide)).2 h
  omega
end Go.Proofs.YtaepjlghdjcdnaaDoor
