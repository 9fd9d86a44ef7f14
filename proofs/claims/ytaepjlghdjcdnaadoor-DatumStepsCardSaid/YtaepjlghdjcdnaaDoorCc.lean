/-
  exact.Sound of any number.
  exact.Sound of any number, check.
  datum.Sound of a leaf (the empty list, a truth value, a text, a symbol) whose text is short and plain.
  datum.Sound and datum.Copy of a leaf.
  A store of eleven cells into a box.
  datum.shape of any node.
  An append to a row that the call owns: the row stays where it is, or lies in new memory.
  What a datum lies in is below the heap's end.
  A row of data that the call owns, and an append to it.
-/
import Derived.Test.YtaepjlghdjcdnaaDoorProg
import Derived.WalkKit
import Derived.WalkSpells
import Derived.WalkLawsBesides
import Derived.Handy
import Derived.BigCall
import Derived.Lib.Hide
import Derived.Outline
import Derived.Test.YtaepjlghdjcdnaaDoorShelf
import Derived.Deep.DeepCutAuto
import Derived.Below
import Derived.Test.YtaepjlghdjcdnaaDoorBe
import Derived.Test.YtaepjlghdjcdnaaDoorBb
import Derived.Test.YtaepjlghdjcdnaaDoorCa
import Derived.Test.YtaepjlghdjcdnaaDoorBa
namespace Go.Proofs.YtaepjlghdjcdnaaDoor
open Go.RowKit
set_option linter.unusedVariables false
set_option linter.unusedSimpArgs false

set_option maxHeartbeats 4000000 in
set_option maxRecDepth 1000000 in
theorem Nt.Sound_same (ws : List Nat) (v : Value) (w : World) (h : Nt.In w v ws) (hw : Nt.Wd ws) (hl : ws.length ≤ 4611686018427387904) : Calls Tryd.prog 79 #[v] w fun e w' => e = .returned (.bool (Nt.sound ws)) ∧ w = w' := by
  have KT := fun w h => Nt.Trim_same ws v w h hw hl
  obtain ⟨ad, cap, rfl⟩ := h.slice
  have H := Lib.hid h
  clear h
  have hs : Nt.sound ws = (decide (ws.length ≤ 512) && decide ((Nt.dig (Nt.val ws)).length = ws.length)) := rfl
  rw [hs]
  generalize (Nt.dig (Nt.val ws)).length = n at *
  clear hs hw hl
  by_cases h1 : ws.length ≤ 512
  · have h1I : (ws.length : Int) ≤ 512 := by omega
    rw [decide_eq_true h1]
    go_enter Tryd.func79, Tryd.ntmps79
    go_wp2_with fail
    refine (KT _ H.out).mono ?_
    rintro x w1 ⟨rfl, hw1⟩
    subst hw1
    by_cases h2 : n = ws.length
    · subst h2
      go_wp2_with fail
      go_ret
      exact ⟨by simp, rfl⟩
    · have h2I : ((n : Int) == (ws.length : Int)) = false := by simp; omega
      go_wp2_with fail
      go_ret
      exact ⟨by simp [h2], rfl⟩
  · have h1I : ¬ (ws.length : Int) ≤ 512 := by omega
    rw [decide_eq_false h1]
    go_enter Tryd.func79, Tryd.ntmps79
    go_wp2_with fail
    go_ret
    exact ⟨by simp, rfl⟩

/-- A fraction as it may come: sign and words. -/
def Rt.G (w : World) (v : Value) (s : Bool) (t b : List Nat) : Prop := ∃ tv bv, v = .agg #[.bool s, tv, bv] ∧ Nt.In w tv t ∧ Nt.In w bv b
structure Rt.GOk (t b : List Nat) : Prop where
  w1 : Nt.Wd t
  w2 : Nt.Wd b
  l1 : t.length ≤ 4611686018427387904
  l2 : b.length ≤ 4611686018427387904
/-- A number's words, looked at: is it 1? -/
theorem Rt.isOne {w : World} {v : Value} {g : Nat} (h : Nt.N w v g) (h0 : 0 < g) : ∃ S : Bool, S = decide (g = 1) ∧ ((∃ ad cap, v = .slice ad (Nt.dig g).length cap ∧ (((Nt.dig g).length : Int) == 1) = false ∧ S = false) ∨ ∃ b off cap, v = .slice (some ⟨b, off, none⟩) 1 cap ∧ w.cell? ⟨b, off, none⟩ = some (.int .u32 g) ∧ ((g : Int) == 1) = S) := by
  refine ⟨_, rfl, ?_⟩
  by_cases hl : (Nt.dig g).length = 1
  · right
    obtain ⟨ad, cap, rfl⟩ := Nt.In.slice h
    obtain ⟨b, off, rfl, _, _, _, hc⟩ := Nt.In.at h (by omega)
    have hc0 := hc 0 (by omega)
    have hg : (Nt.dig g).getD 0 0 = g := by
      have e := Nt.val_dig g
      match hd : Nt.dig g, hl with
      | [x], _ => rw [hd] at e; simpa [Nt.val] using e
    rw [hg] at hc0
    refine ⟨b, off, cap, by rw [hl], hc0, ?_⟩
    by_cases h1 : g = 1
    · subst h1; rfl
    · simp [h1]; omega
  · left
    obtain ⟨ad, cap, rfl⟩ := Nt.In.slice h
    refine ⟨ad, cap, rfl, by simp; omega, ?_⟩
    apply decide_eq_false
    intro e
    subst e
    exact hl (by rw [Nt.dig_small (by decide) (by decide)]; rfl)
set_option maxHeartbeats 4000000 in
set_option maxRecDepth 1000000 in
theorem Rt.ratSound_any (s : Bool) (t b : List Nat) (v : Value) (w : World) (h : Rt.G w v s t b) (hok : Rt.GOk t b) : Calls Tryd.prog 70 #[v] w fun e w' => e = .returned (.bool (Rt.sound s t b)) ∧ Below w.heap.size w w' := by
  obtain ⟨tv, bv, rfl, h1, h2⟩ := h
  have K1 := fun w h => Nt.Sound_same t tv w h hok.w1 hok.l1
  have K2 := fun w h => Nt.Sound_same b bv w h hok.w2 hok.l2
  obtain ⟨a1, c1, rfl⟩ := h1.slice
  obtain ⟨a2, c2, rfl⟩ := h2.slice
  have hal : ∀ o, Below w.heap.size w (w.alloc o) := fun o => (Below.refl _ _).alloc (Nat.le_refl _) _
  have H1 : Hid (∀ o, Nt.In (w.alloc o) (.slice a1 t.length c1) t) := Lib.hid (fun o => h1.below (hal o) (Nat.le_refl _))
  have H2 : Hid (∀ o, Nt.In (w.alloc o) (.slice a2 b.length c2) b) := Lib.hid (fun o => h2.below (hal o) (Nat.le_refl _))
  have HAL := Lib.hid hal
  have HOK := Lib.hid hok
  have hdef : Rt.sound s t b = (Nt.sound t && Nt.sound b && decide (b.length ≠ 0) && !(decide (t.length = 0) && s) && decide (Nat.gcd (Nt.val t) (Nt.val b) = 1)) := rfl
  rw [hdef]
  clear hdef hal h1 h2 hok
  obtain ⟨S1, hS1⟩ : ∃ S, Nt.sound t = S := ⟨_, rfl⟩
  obtain ⟨S2, hS2⟩ : ∃ S, Nt.sound b = S := ⟨_, rfl⟩
  rw [hS1] at K1 ⊢
  rw [hS2] at K2 ⊢
  have HS1 := Lib.hid hS1
  have HS2 := Lib.hid hS2
  clear hS1 hS2
  have hmain : ∃ g vt vb : Nat, decide (Nat.gcd (Nt.val t) (Nt.val b) = 1) = decide (g = 1) ∧ (S1 = true → S2 = true → b.length ≠ 0 → (∀ o, Nt.N (w.alloc o) (.slice a1 t.length c1) vt ∧ Nt.N (w.alloc o) (.slice a2 b.length c2) vb) ∧ 0 < g ∧ (∀ v v2 w, Nt.N w v vt → Nt.N w v2 vb → Calls Tryd.prog 80 #[v, v2] w fun e w' => ∃ v', e = .returned v' ∧ Nt.N w' v' g ∧ Below w.heap.size w w')) := by
    refine ⟨Nat.gcd (Nt.val t) (Nt.val b), Nt.val t, Nt.val b, rfl, ?_⟩
    intro e1 e2 hb0
    obtain ⟨et, elt⟩ := Nt.sound_eq HOK.out.w1 (HS1.out.trans e1)
    obtain ⟨eb, elb⟩ := Nt.sound_eq HOK.out.w2 (HS2.out.trans e2)
    refine ⟨fun o => ?_, ?_, fun v v2 w h h2 => Nt.Divisor_any (Nt.val t) (Nt.val b) v v2 w h h2 ⟨by rw [← eb]; omega, by rw [← et]; omega⟩⟩
    · unfold Nt.N
      rw [← et, ← eb]
      exact ⟨H1.out o, H2.out o⟩
    · refine Nat.gcd_pos_of_pos_right _ ?_
      rcases Nat.eq_zero_or_pos (Nt.val b) with h0 | h0
      · rw [h0, Nt.dig_zero] at eb
        rw [eb] at hb0
        exact absurd rfl hb0
      · exact h0
  obtain ⟨g, vt, vb, hgd, hmain⟩ := hmain
  rw [hgd]
  have HM := Lib.hid hmain
  clear hmain HS1 HS2 HOK hgd
  obtain ⟨G1, hG1⟩ : ∃ G : Bool, decide (g = 1) = G := ⟨_, rfl⟩
  rw [hG1]
  have HG1 := Lib.hid hG1
  clear hG1
  generalize t.length = l1 at *
  generalize b.length = l2 at *
  rcases S1 with _ | _
  · clear HM
    go_enter Tryd.func70, Tryd.ntmps70
    go_wp2_with fail
    refine (K1 _ (H1.out _)).mono ?_
    rintro x w1 ⟨rfl, hw1⟩
    subst hw1
    go_wp2_with fail
    go_ret
    exact ⟨by simp, HAL.out _⟩
  rcases S2 with _ | _
  · clear HM
    go_enter Tryd.func70, Tryd.ntmps70
    go_wp2_with fail
    refine (K1 _ (H1.out _)).mono ?_
    rintro x w1 ⟨rfl, hw1⟩
    subst hw1
    go_wp2_with fail
    refine (K2 _ (H2.out _)).mono ?_
    rintro x w1 ⟨rfl, hw1⟩
    subst hw1
    go_wp2_with fail
    go_ret
    exact ⟨by simp, HAL.out _⟩
  by_cases hb0 : l2 = 0
  · subst hb0
    clear HM
    go_enter Tryd.func70, Tryd.ntmps70
    go_wp2_with fail
    refine (K1 _ (H1.out _)).mono ?_
    rintro x w1 ⟨rfl, hw1⟩
    subst hw1
    go_wp2_with fail
    refine (K2 _ (H2.out _)).mono ?_
    rintro x w1 ⟨rfl, hw1⟩
    subst hw1
    go_wp2_with fail
    go_ret
    exact ⟨by simp, HAL.out _⟩
  obtain ⟨hm1, hm2, hm3⟩ := HM.out rfl rfl hb0
  have HN := Lib.hid hm1
  have HG0 := Lib.hid hm2
  have HL2 := Lib.hid hb0
  have hl2I : ((l2 : Int) == 0) = false := by simp; exact hb0
  have hl2J : ¬ (l2 : Int) = 0 := by omega
  clear HM hm1 hm2 hb0
  have FIN : Hid (∀ (w1 : World) (tv : Value), Nt.N w1 tv g → (∃ ad cap, tv = .slice ad (Nt.dig g).length cap)) := Lib.hid (fun w1 tv h => Nt.In.slice h)
  by_cases ht0 : l1 = 0
  · subst ht0
    rcases s with _ | _
    · go_enter Tryd.func70, Tryd.ntmps70
      go_wp2_with fail
      refine (K1 _ (H1.out _)).mono ?_
      rintro x w1 ⟨rfl, hw1⟩
      subst hw1
      go_wp2_with fail
      refine (K2 _ (H2.out _)).mono ?_
      rintro x w1 ⟨rfl, hw1⟩
      subst hw1
      go_wp2_with fail
      refine (hm3 _ _ _ (HN.out _).1 (HN.out _).2).mono ?_
      rintro x w1 ⟨vg, rfl, hg, hbg⟩
      have HBG := Lib.hid ((HAL.out _).trans (hbg.mono (HAL.out _).size))
      obtain ⟨S, hS, hK⟩ := Rt.isOne hg HG0.out
      rw [HG1.out] at hS
      subst hS
      clear hg hbg FIN
      rcases hK with ⟨ad, cap, rfl, hf, hSf⟩ | ⟨b', off', cap', rfl, hc, hgS⟩
      · generalize (Nt.dig g).length = l3 at *
        subst hSf
        go_wp2_with fail
        go_ret
        exact ⟨by simp, HBG.out⟩
      · go_wp2_with fail
        go_ret
        exact ⟨by simp [HL2.out], HBG.out⟩
    · go_enter Tryd.func70, Tryd.ntmps70
      go_wp2_with fail
      refine (K1 _ (H1.out _)).mono ?_
      rintro x w1 ⟨rfl, hw1⟩
      subst hw1
      go_wp2_with fail
      refine (K2 _ (H2.out _)).mono ?_
      rintro x w1 ⟨rfl, hw1⟩
      subst hw1
      go_wp2_with fail
      go_ret
      exact ⟨by simp, HAL.out _⟩
  · have ht0I : ((l1 : Int) == 0) = false := by simp; exact ht0
    have ht0J : ¬ (l1 : Int) = 0 := by omega
    have HL1 := Lib.hid ht0
    clear ht0
    go_enter Tryd.func70, Tryd.ntmps70
    go_wp2_with fail
    refine (K1 _ (H1.out _)).mono ?_
    rintro x w1 ⟨rfl, hw1⟩
    subst hw1
    go_wp2_with fail
    refine (K2 _ (H2.out _)).mono ?_
    rintro x w1 ⟨rfl, hw1⟩
    subst hw1
    go_wp2_with fail
    refine (hm3 _ _ _ (HN.out _).1 (HN.out _).2).mono ?_
    rintro x w1 ⟨vg, rfl, hg, hbg⟩
    have HBG := Lib.hid ((HAL.out _).trans (hbg.mono (HAL.out _).size))
    obtain ⟨S, hS, hK⟩ := Rt.isOne hg HG0.out
    rw [HG1.out] at hS
    subst hS
    clear hg hbg FIN
    rcases hK with ⟨ad, cap, rfl, hf, hSf⟩ | ⟨b', off', cap', rfl, hc, hgS⟩
    · generalize (Nt.dig g).length = l3 at *
      subst hSf
      go_wp2_with fail
      go_ret
      exact ⟨by simp, HBG.out⟩
    · go_wp2_with fail
      go_ret
      exact ⟨by simp [HL2.out, HL1.out], HBG.out⟩
end Go.Proofs.YtaepjlghdjcdnaaDoor
namespace Go.Proofs.YtaepjlghdjcdnaaDoor
open Go.RowKit
set_option linter.unusedVariables false
set_option linter.unusedSimpArgs false

/-- A number as it may come. -/
structure Rt.GN (w : World) (v : Value) (s : Bool) (t b : List Nat) (s2 : Bool) (t2 b2 : List Nat) : Prop where
  form : ∃ v3 v4 v6 v7, v = .agg #[.bool s, v3, v4, .bool s2, v6, v7] ∧ Nt.In w v3 t ∧ Nt.In w v4 b ∧ Nt.In w v6 t2 ∧ Nt.In w v7 b2
  ok1 : Rt.GOk t b
  ok2 : Rt.GOk t2 b2
theorem Rt.GN.below {w w' : World} {v : Value} {s s2 : Bool} {t b t2 b2 : List Nat} {B : Nat} (h : Rt.GN w v s t b s2 t2 b2) (hb : Below B w w') (hB : w.heap.size ≤ B) : Rt.GN w' v s t b s2 t2 b2 := by
  obtain ⟨⟨v3, v4, v6, v7, e, h1, h2, h3, h4⟩, o1, o2⟩ := h
  exact ⟨⟨v3, v4, v6, v7, e, h1.below hb hB, h2.below hb hB, h3.below hb hB, h4.below hb hB⟩, o1, o2⟩
def Rt.soundN (s : Bool) (t b : List Nat) (s2 : Bool) (t2 b2 : List Nat) : Bool := Rt.sound s t b && Rt.sound s2 t2 b2
set_option maxHeartbeats 4000000 in
set_option maxRecDepth 1000000 in
theorem Rt.Sound_any (s : Bool) (t b : List Nat) (s2 : Bool) (t2 b2 : List Nat) (v : Value) (w : World) (h : Rt.GN w v s t b s2 t2 b2) : Calls Tryd.prog 55 #[v] w fun e w' => e = .returned (.bool (Rt.soundN s t b s2 t2 b2)) ∧ Below w.heap.size w w' := by
  obtain ⟨⟨v3, v4, v6, v7, rfl, h1, h2, h3, h4⟩, o1, o2⟩ := h
  have K1 := fun w h => Rt.ratSound_any s t b (.agg #[.bool s, v3, v4]) w h o1
  have K2 := fun w h => Rt.ratSound_any s2 t2 b2 (.agg #[.bool s2, v6, v7]) w h o2
  obtain ⟨a1, c1, rfl⟩ := h1.slice
  obtain ⟨a2, c2, rfl⟩ := h2.slice
  obtain ⟨a3, c3, rfl⟩ := h3.slice
  obtain ⟨a4, c4, rfl⟩ := h4.slice
  obtain ⟨W, hW⟩ : ∃ W, w.alloc (.cells #[.bool s, .slice a1 t.length c1, .slice a2 b.length c2, .bool s2, .slice a3 t2.length c3, .slice a4 b2.length c4] 28) = W := ⟨_, rfl⟩
  have q0 : W.heap[w.heap.size]? = some (.cells #[.bool s, .slice a1 t.length c1, .slice a2 b.length c2, .bool s2, .slice a3 t2.length c3, .slice a4 b2.length c4] 28 (0, 0)) := by rw [← hW]; exact heap_alloc_new w _
  have hb0 : Below w.heap.size w W := by rw [← hW]; exact (Below.refl _ _).alloc (Nat.le_refl _) _
  have HI := Lib.hid (fun (w' : World) (hb : Below W.heap.size W w') => And.intro (show Rt.G w' (.agg #[.bool s, .slice a1 t.length c1, .slice a2 b.length c2]) s t b from ⟨_, _, rfl, (h1.below hb0 (Nat.le_refl _)).below hb (Nat.le_refl _), (h2.below hb0 (Nat.le_refl _)).below hb (Nat.le_refl _)⟩) (show Rt.G w' (.agg #[.bool s2, .slice a3 t2.length c3, .slice a4 b2.length c4]) s2 t2 b2 from ⟨_, _, rfl, (h3.below hb0 (Nat.le_refl _)).below hb (Nat.le_refl _), (h4.below hb0 (Nat.le_refl _)).below hb (Nat.le_refl _)⟩))
  have hzw : w.heap.size < W.heap.size := (Array.getElem?_eq_some_iff.1 q0).1
  have HK := Lib.hid (fun (w' : World) (hb : Below W.heap.size W w') => Rt.cells6 ((hb.block w.heap.size hzw).trans q0))
  have HB := Lib.hid (fun (w' : World) (hb : Below W.heap.size W w') => hb0.trans (hb.mono (by omega : w.heap.size ≤ W.heap.size)))
  obtain ⟨d0, d1, d2, d3, d4, d5⟩ := HK.out _ (Below.refl _ _)
  clear h1 h2 h3 h4 o1 o2 q0 hb0 hzw
  unfold Rt.soundN
  generalize Rt.sound s t b = S1 at *
  generalize Rt.sound s2 t2 b2 = S2 at *
  generalize t.length = l1 at *
  generalize b.length = l2 at *
  generalize t2.length = l3 at *
  generalize b2.length = l4 at *
  rcases S1 with _ | _
  · go_enter Tryd.func55, Tryd.ntmps55
    go_wp2_with fail
    refine (K1 _ (HI.out _ (Below.refl _ _)).1).mono ?_
    rintro x w1 ⟨rfl, hb1⟩
    have HB1 := Lib.hid (HB.out _ hb1)
    clear hb1 hW
    go_wp2_with fail
    go_ret
    exact ⟨by simp, HB1.out⟩
  · go_enter Tryd.func55, Tryd.ntmps55
    go_wp2_with fail
    refine (K1 _ (HI.out _ (Below.refl _ _)).1).mono ?_
    rintro x w1 ⟨rfl, hb1⟩
    have HBB := Lib.hid hb1
    clear d0 d1 d2 d3 d4 d5
    obtain ⟨d0, d1, d2, d3, d4, d5⟩ := HK.out _ hb1
    clear hb1 hW
    go_wp2_with fail
    refine (K2 _ (HI.out _ HBB.out).2).mono ?_
    rintro x w2 ⟨rfl, hb2⟩
    have HB2 := Lib.hid (HB.out _ (HBB.out.trans (hb2.mono HBB.out.size)))
    clear hb2
    go_wp2_with fail
    go_ret
    exact ⟨by simp, HB2.out⟩
end Go.Proofs.YtaepjlghdjcdnaaDoor
namespace Go.Proofs.YtaepjlghdjcdnaaDoor
open Go.RowKit
set_option linter.unusedVariables false

theorem Dt.cell_of {w : World} {b : Nat} {C : Array Value} {t : TypeId} (h : w.heap[b]? = some (.cells C t (0, 0))) (k : Nat) : w.cell? ⟨b, k, none⟩ = C[k]? := by
  simp [World.cell?, h]
theorem Dt.setCells {w : World} {b : Nat} {C : Array Value} {t : TypeId} (h : w.heap[b]? = some (.cells C t (0, 0))) (k : Nat) (u : Value) : (w.setCell ⟨b, k, none⟩ u).heap[b]? = some (.cells (C.set! k u) t (0, 0)) := by
  obtain ⟨hlt, hk⟩ := Array.getElem?_eq_some_iff.1 h
  show (w.heap.modify b _)[b]? = _
  rw [Array.getElem?_eq_getElem (by rw [Array.size_modify]; exact hlt), Array.getElem_modify_self, hk]
  rfl
theorem Dt.frozen_of {w : World} {b : Nat} {C : Array Value} {t : TypeId} (h : w.heap[b]? = some (.cells C t (0, 0))) (k : Nat) : w.frozen? ⟨b, k, none⟩ = false := by
  simp [World.frozen?, h]
theorem Dt.cells11 {w : World} {b : Nat} {v0 v1 v2 v3 v4 v5 v6 v7 v8 v9 v10 : Value} {t : TypeId} (h : w.heap[b]? = some (.cells #[v0, v1, v2, v3, v4, v5, v6, v7, v8, v9, v10] t (0, 0))) :
    w.cell? ⟨b, 0, none⟩ = some v0 ∧ w.cell? ⟨b, 1, none⟩ = some v1 ∧ w.cell? ⟨b, 2, none⟩ = some v2 ∧ w.cell? ⟨b, 3, none⟩ = some v3 ∧ w.cell? ⟨b, 4, none⟩ = some v4 ∧ w.cell? ⟨b, 5, none⟩ = some v5 ∧ w.cell? ⟨b, 6, none⟩ = some v6 ∧ w.cell? ⟨b, 7, none⟩ = some v7 ∧ w.cell? ⟨b, 8, none⟩ = some v8 ∧ w.cell? ⟨b, 9, none⟩ = some v9 ∧ w.cell? ⟨b, 10, none⟩ = some v10 :=
  ⟨Dt.cell_of h 0, Dt.cell_of h 1, Dt.cell_of h 2, Dt.cell_of h 3, Dt.cell_of h 4, Dt.cell_of h 5, Dt.cell_of h 6, Dt.cell_of h 7, Dt.cell_of h 8, Dt.cell_of h 9, Dt.cell_of h 10⟩

theorem Dt.ext1 (a : UInt8) (t : List UInt8) : (⟨(a :: t).toArray⟩ : ByteArray).extract 1 (t.length + 1) = ⟨t.toArray⟩ := by
  apply ByteArray.ext
  rw [ByteArray.data_extract]
  simp
/-- The cells of a leaf: its kind, its text, its (empty) list. -/
def Dt.cells (k : Int) (s : ByteArray) (lst : Value) : Array Value := #[.int .i64 k, .int .i64 0, .bool false, .slice none 0 0, .slice none 0 0, .bool false, .slice none 0 0, .slice none 0 0, .string s, .slice none 0 0, lst]
def Dt.leaf (k : Int) (s : ByteArray) (lst : Value) : Value := .agg (Dt.cells k s lst)

set_option maxHeartbeats 4000000 in
set_option maxRecDepth 1000000 in
theorem Dt.valid_short (l : List UInt8) (hl : l.length ≤ 8) (ha : ∀ x ∈ l, x.toNat < 128) (w : World) :
    Calls Tryd.prog 66 #[.string ⟨l.toArray⟩] w fun e w' => e = .returned (.bool true) ∧ Below w.heap.size w w' := by
  go_enter Tryd.func66, Tryd.ntmps66
  go_wp2_with fail
  go_loopw [0] (fun i wr => ∃ m : List UInt8, i = .string ⟨m.toArray⟩ ∧ m.length ≤ 8 ∧ (∀ x ∈ m, x.toNat < 128) ∧ wr = w) (fun i _ => match i with | .string s => s.size | _ => 0)
  case atStart => exact ⟨l, rfl, hl, ha, rfl⟩
  case round =>
    obtain ⟨m, rfl, hm, hx, rfl⟩ := hrel
    cases m with
    | nil =>
      go_wp2_with fail
      go_ret
      exact ⟨rfl, Below.refl _ _⟩
    | cons a t =>
      have ha1 := hx a (List.mem_cons_self)
      have hlen : ((t.length : Int) + 1) > 0 := by omega
      have hlen2 : ¬ ((t.length : Int) > 8) := by simp at hm; omega
      have ha2 : ((⟨(a :: t).toArray⟩ : ByteArray)[0]'(show 0 < (a :: t).toArray.size by simp)).toNat < 128 := ha1
      go_wp2_with fail
      rw [Dt.ext1]
      refine ⟨⟨t, rfl, by simp at hm; omega, fun x h => hx x (List.mem_cons_of_mem _ h), trivial⟩, ?_⟩
      show t.toArray.size < (a :: t).toArray.size
      simp

set_option maxHeartbeats 4000000 in
set_option maxRecDepth 1000000 in
theorem Dt.noRat_none (w : World) : Calls Tryd.prog 65 #[.agg #[.bool false, .slice none 0 0, .slice none 0 0]] w fun e w' => e = .returned (.bool true) ∧ Below w.heap.size w w' := by
  go_enter Tryd.func65, Tryd.ntmps65
  go_wp2
  go_ret
  exact ⟨rfl, (Below.refl _ _).alloc (Nat.le_refl _) _⟩

set_option maxHeartbeats 4000000 in
set_option maxRecDepth 1000000 in
theorem Dt.shape_leaf (k : Int) (s : ByteArray) (lst : Value) (hk : k = 1 ∧ s = ⟨#[]⟩ ∨ k = 2 ∧ s = ⟨#[]⟩ ∨ k = 5 ∨ k = 6) (hl : ∃ ad cap, lst = .slice ad 0 cap)
    (hV : ∀ w : World, Calls Tryd.prog 66 #[.string s] w fun e w' => e = .returned (.bool true) ∧ Below w.heap.size w w') (w : World) :
    Calls Tryd.prog 47 #[Dt.leaf k s lst] w fun e w' => e = .returned (.bool true) ∧ Below w.heap.size w w' := by
  have HV := Lib.hid hV; clear hV
  obtain ⟨ad, cap, rfl⟩ := hl
  have HN := Lib.hid (fun w => Dt.noRat_none w)
  rcases hk with ⟨rfl, rfl⟩ | ⟨rfl, rfl⟩ | rfl | rfl
  all_goals
    unfold Dt.leaf Dt.cells
    go_enter Tryd.func47, Tryd.ntmps47
    go_wp2_with fail
    refine (HN.out _).mono ?_
    rintro x w1 ⟨rfl, hb1⟩
    have q1 := (hb1.block w.heap.size (by simp)).trans (heap_alloc_new w _)
    have HB1 := Lib.hid (((Below.refl w.heap.size w).alloc (Nat.le_refl _) _).trans (hb1.mono (by simp)))
    obtain ⟨c0, c1, c2, c3, c4, c5, c6, c7, c8, c9, c10⟩ := Dt.cells11 q1
    have Q1 := Lib.hid q1
    have hs1 := HB1.out.size
    have hsz1 : w.heap.size < w1.heap.size := (Array.getElem?_eq_some_iff.1 q1).1
    clear hb1 q1
    go_wp2_with fail
    refine (HN.out _).mono ?_
    rintro x w2 ⟨rfl, hb2⟩
    clear c0 c1 c2 c3 c4 c5 c6 c7 c8 c9 c10
    have q2 := (hb2.block w.heap.size hsz1).trans Q1.out
    have HB2 := Lib.hid (HB1.out.trans (hb2.mono hs1))
    obtain ⟨c0, c1, c2, c3, c4, c5, c6, c7, c8, c9, c10⟩ := Dt.cells11 q2
    have Q2 := Lib.hid q2
    have hs2 := HB2.out.size
    have hsz2 : w.heap.size < w2.heap.size := (Array.getElem?_eq_some_iff.1 q2).1
    clear hb2 q2
    go_wp2_with fail
    refine (HV.out _).mono ?_
    rintro x w3 ⟨rfl, hb3⟩
    clear c0 c1 c2 c3 c4 c5 c6 c7 c8 c9 c10
    have q3 := (hb3.block w.heap.size hsz2).trans Q2.out
    have HB3 := Lib.hid (HB2.out.trans (hb3.mono hs2))
    obtain ⟨c0, c1, c2, c3, c4, c5, c6, c7, c8, c9, c10⟩ := Dt.cells11 q3
    clear hb3 q3
    go_wp2
    go_ret
    exact ⟨rfl, HB3.out⟩
end Go.Proofs.YtaepjlghdjcdnaaDoor
namespace Go.Proofs.YtaepjlghdjcdnaaDoor
open Go.RowKit
set_option linter.unusedVariables false

theorem Dt.set_new (w : World) (p : Addr) (u : Value) (o : Obj) : ((w.setCell p u).alloc o).heap[w.heap.size]? = some o := by
  have := heap_alloc_new (w.setCell p u) o
  rwa [show (w.setCell p u).heap.size = w.heap.size by simp] at this
def Dt.valid (s : ByteArray) : Prop := ∀ w : World, Calls Tryd.prog 66 #[.string s] w fun e w' => e = .returned (.bool true) ∧ Below w.heap.size w w'
def Dt.kindOk (k : Int) (s : ByteArray) : Prop := k = 1 ∧ s = ⟨#[]⟩ ∨ k = 2 ∧ s = ⟨#[]⟩ ∨ k = 5 ∨ k = 6

set_option maxHeartbeats 4000000 in
set_option maxRecDepth 1000000 in
theorem Dt.sound_leaf (k : Int) (s : ByteArray) (lst : Value) (hk : Dt.kindOk k s) (hl : ∃ ad cap, lst = .slice ad 0 cap) (hV : Dt.valid s)
    (d : Int) (hd : d ≤ 200) (hd0 : 0 ≤ d) (n : Int) (hn : 1 ≤ n) (hn2 : n ≤ 20000) (p : Nat) (w : World) (hp : w.heap[p]? = some (.cells #[.int .i64 n] 3 (0, 0))) :
    Calls Tryd.prog 30 #[Dt.leaf k s lst, .int .i64 d, .pointer (some ⟨p, 0, none⟩)] w fun e w' => e = .returned (.bool true) ∧ w'.heap[p]? = some (.cells #[.int .i64 (n - 1)] 3 (0, 0)) ∧ Below p w w' := by
  have KS := Lib.hid (fun w => Dt.shape_leaf k s lst hk hl hV w)
  have hlt : p < w.heap.size := (Array.getElem?_eq_some_iff.1 hp).1
  have hk8 : (k == 8) = false := by
    rcases hk with ⟨rfl, _⟩ | ⟨rfl, _⟩ | rfl | rfl <;> rfl
  have hk8b : ¬ (k = 8) := by
    rcases hk with ⟨rfl, _⟩ | ⟨rfl, _⟩ | rfl | rfl <;> decide
  obtain ⟨ad, cap, rfl⟩ := hl
  have p0 := Dt.cell_of hp 0
  have z0 := Dt.frozen_of hp 0
  have q0 := Dt.setCells hp 0 (.int .i64 (n - 1))
  have p1 : (w.setCell ⟨p, 0, none⟩ (.int .i64 (n - 1))).cell? ⟨p, 0, none⟩ = some (.int .i64 (n - 1)) := Dt.cell_of q0 0
  have hsz0 : (w.setCell ⟨p, 0, none⟩ (.int .i64 (n - 1))).heap.size = w.heap.size := by simp
  have HSZ := Lib.hid hsz0
  have Q0 := Lib.hid q0
  have HB0 : Hid (Below p w (w.setCell ⟨p, 0, none⟩ (.int .i64 (n - 1)))) := Lib.hid (by exact (Below.refl p w).setCell (Nat.le_refl p) _)
  have hn3 : ¬ (n - 1 < 0) := by omega
  have hd3 : ¬ (d > 200) := by omega
  clear q0 hp hk hV hsz0
  unfold Dt.leaf Dt.cells at *
  go_enter Tryd.func30, Tryd.ntmps30
  go_wp2_with fail
  go_loopw [] (fun wr => wr = w.alloc (.cells #[.int .i64 k, .int .i64 0, .bool false, .slice none 0 0, .slice none 0 0, .bool false, .slice none 0 0, .slice none 0 0, .string s, .slice none 0 0, .slice ad 0 cap] 32)) (fun _ => 0)
  case atStart => exact rfl
  case round =>
    obtain rfl := hrel
    go_wp2_with fail
    refine (KS.out _).mono ?_
    rintro x w1 ⟨rfl, hb1⟩
    have q1 := (hb1.block w.heap.size (by simp)).trans (Dt.set_new _ _ _ _)
    have qp : w1.heap[p]? = some (.cells #[.int .i64 (n - 1)] 3 (0, 0)) := (hb1.block p (by simp; omega)).trans ((Lib.alloc_old _ _ _ (by rw [HSZ.out]; exact hlt)).trans Q0.out)
    have QP := Lib.hid qp
    have HB1 := Lib.hid ((HB0.out.alloc (by rw [HSZ.out]; omega) _).trans (hb1.mono (by simp; omega)))
    obtain ⟨c0, c1, c2, c3, c4, c5, c6, c7, c8, c9, c10⟩ := Dt.cells11 q1
    clear hb1 q1 qp p0 z0 p1
    go_wp2_with fail
    go_loopw [46] (fun i wr => i = .int .i64 0 ∧ wr = w1) (fun _ _ => 0)
    case atStart => exact ⟨rfl, rfl⟩
    case round =>
      obtain ⟨rfl, rfl⟩ := hrel
      go_wp2_with fail
      go_ret
      exact ⟨rfl, QP.out, HB1.out⟩

set_option maxHeartbeats 4000000 in
set_option maxRecDepth 1000000 in
theorem Dt.Sound_leaf (k : Int) (s : ByteArray) (lst : Value) (hk : Dt.kindOk k s) (hl : ∃ ad cap, lst = .slice ad 0 cap) (hV : Dt.valid s) (w : World) :
    Calls Tryd.prog 14 #[Dt.leaf k s lst] w fun e w' => e = .returned (.bool true) ∧ Below w.heap.size w w' := by
  have KS := fun (w : World) hp => Dt.sound_leaf k s lst hk hl hV 1 (by decide) (by decide) 20000 (by decide) (by decide) (w.heap.size - 1) w hp
  have hnew : ∀ o, ((w.alloc o).alloc (.cells #[.int .i64 20000] 3)).heap[w.heap.size + 1]? = some (.cells #[.int .i64 20000] 3 (0, 0)) := by
    intro o
    have := heap_alloc_new (w.alloc o) (.cells #[.int .i64 20000] 3)
    rwa [show (w.alloc o).heap.size = w.heap.size + 1 by simp] at this
  have hsz : ∀ o, ((w.alloc o).alloc (.cells #[.int .i64 20000] 3)).heap.size - 1 = w.heap.size + 1 := by intro o; simp
  have hb0 : ∀ o o2, Below w.heap.size w ((w.alloc o).alloc o2) := fun o o2 => ((Below.refl _ _).alloc (Nat.le_refl _) _).alloc (by simp) _
  obtain ⟨ad, cap, rfl⟩ := hl
  clear hk hV
  unfold Dt.leaf Dt.cells at *
  go_enter Tryd.func14, Tryd.ntmps14
  go_wp2_with fail
  have K := KS _ (by rw [hsz]; exact hnew (.cells #[.int .i64 k, .int .i64 0, .bool false, .slice none 0 0, .slice none 0 0, .bool false, .slice none 0 0, .slice none 0 0, .string s, .slice none 0 0, .slice ad 0 cap] 32))
  rw [hsz] at K
  refine K.mono ?_
  rintro x w1 ⟨rfl, _, hb1⟩
  have HB := Lib.hid ((hb0 _ _).trans (hb1.mono (by omega)))
  clear hb1 K KS hnew hsz hb0
  go_wp2
  go_ret
  exact ⟨rfl, HB.out⟩
end Go.Proofs.YtaepjlghdjcdnaaDoor
namespace Go.Proofs.YtaepjlghdjcdnaaDoor
open Go.RowKit
set_option linter.unusedVariables false
theorem Dt.below_set {w0 w : World} {B : Nat} (h : Below B w0 w) (b k : Nat) (u : Value) (hb : B ≤ b) : Below B w0 (w.setCell ⟨b, k, none⟩ u) := by
  exact h.setCell hb _
theorem Dt.store11 {w : World} {b : Nat} {v0 v1 v2 v3 v4 v5 v6 v7 v8 v9 v10 : Value} {t : TypeId} (h : w.heap[b]? = some (.cells #[v0, v1, v2, v3, v4, v5, v6, v7, v8, v9, v10] t (0, 0))) (u0 u1 u2 u3 u4 u5 u6 u7 u8 u9 u10 : Value) :
    w.cell? ⟨b, 0, none⟩ = some v0 ∧
    w.frozen? ⟨b, 0, none⟩ = false ∧
    (w.setCell ⟨b, 0, none⟩ u0).cell? ⟨b, 1, none⟩ = some v1 ∧
    (w.setCell ⟨b, 0, none⟩ u0).frozen? ⟨b, 1, none⟩ = false ∧
    ((w.setCell ⟨b, 0, none⟩ u0).setCell ⟨b, 1, none⟩ u1).cell? ⟨b, 2, none⟩ = some v2 ∧
    ((w.setCell ⟨b, 0, none⟩ u0).setCell ⟨b, 1, none⟩ u1).frozen? ⟨b, 2, none⟩ = false ∧
    (((w.setCell ⟨b, 0, none⟩ u0).setCell ⟨b, 1, none⟩ u1).setCell ⟨b, 2, none⟩ u2).cell? ⟨b, 3, none⟩ = some v3 ∧
    (((w.setCell ⟨b, 0, none⟩ u0).setCell ⟨b, 1, none⟩ u1).setCell ⟨b, 2, none⟩ u2).frozen? ⟨b, 3, none⟩ = false ∧
    ((((w.setCell ⟨b, 0, none⟩ u0).setCell ⟨b, 1, none⟩ u1).setCell ⟨b, 2, none⟩ u2).setCell ⟨b, 3, none⟩ u3).cell? ⟨b, 4, none⟩ = some v4 ∧
    ((((w.setCell ⟨b, 0, none⟩ u0).setCell ⟨b, 1, none⟩ u1).setCell ⟨b, 2, none⟩ u2).setCell ⟨b, 3, none⟩ u3).frozen? ⟨b, 4, none⟩ = false ∧
    (((((w.setCell ⟨b, 0, none⟩ u0).setCell ⟨b, 1, none⟩ u1).setCell ⟨b, 2, none⟩ u2).setCell ⟨b, 3, none⟩ u3).setCell ⟨b, 4, none⟩ u4).cell? ⟨b, 5, none⟩ = some v5 ∧
    (((((w.setCell ⟨b, 0, none⟩ u0).setCell ⟨b, 1, none⟩ u1).setCell ⟨b, 2, none⟩ u2).setCell ⟨b, 3, none⟩ u3).setCell ⟨b, 4, none⟩ u4).frozen? ⟨b, 5, none⟩ = false ∧
    ((((((w.setCell ⟨b, 0, none⟩ u0).setCell ⟨b, 1, none⟩ u1).setCell ⟨b, 2, none⟩ u2).setCell ⟨b, 3, none⟩ u3).setCell ⟨b, 4, none⟩ u4).setCell ⟨b, 5, none⟩ u5).cell? ⟨b, 6, none⟩ = some v6 ∧
    ((((((w.setCell ⟨b, 0, none⟩ u0).setCell ⟨b, 1, none⟩ u1).setCell ⟨b, 2, none⟩ u2).setCell ⟨b, 3, none⟩ u3).setCell ⟨b, 4, none⟩ u4).setCell ⟨b, 5, none⟩ u5).frozen? ⟨b, 6, none⟩ = false ∧
    (((((((w.setCell ⟨b, 0, none⟩ u0).setCell ⟨b, 1, none⟩ u1).setCell ⟨b, 2, none⟩ u2).setCell ⟨b, 3, none⟩ u3).setCell ⟨b, 4, none⟩ u4).setCell ⟨b, 5, none⟩ u5).setCell ⟨b, 6, none⟩ u6).cell? ⟨b, 7, none⟩ = some v7 ∧
    (((((((w.setCell ⟨b, 0, none⟩ u0).setCell ⟨b, 1, none⟩ u1).setCell ⟨b, 2, none⟩ u2).setCell ⟨b, 3, none⟩ u3).setCell ⟨b, 4, none⟩ u4).setCell ⟨b, 5, none⟩ u5).setCell ⟨b, 6, none⟩ u6).frozen? ⟨b, 7, none⟩ = false ∧
    ((((((((w.setCell ⟨b, 0, none⟩ u0).setCell ⟨b, 1, none⟩ u1).setCell ⟨b, 2, none⟩ u2).setCell ⟨b, 3, none⟩ u3).setCell ⟨b, 4, none⟩ u4).setCell ⟨b, 5, none⟩ u5).setCell ⟨b, 6, none⟩ u6).setCell ⟨b, 7, none⟩ u7).cell? ⟨b, 8, none⟩ = some v8 ∧
    ((((((((w.setCell ⟨b, 0, none⟩ u0).setCell ⟨b, 1, none⟩ u1).setCell ⟨b, 2, none⟩ u2).setCell ⟨b, 3, none⟩ u3).setCell ⟨b, 4, none⟩ u4).setCell ⟨b, 5, none⟩ u5).setCell ⟨b, 6, none⟩ u6).setCell ⟨b, 7, none⟩ u7).frozen? ⟨b, 8, none⟩ = false ∧
    (((((((((w.setCell ⟨b, 0, none⟩ u0).setCell ⟨b, 1, none⟩ u1).setCell ⟨b, 2, none⟩ u2).setCell ⟨b, 3, none⟩ u3).setCell ⟨b, 4, none⟩ u4).setCell ⟨b, 5, none⟩ u5).setCell ⟨b, 6, none⟩ u6).setCell ⟨b, 7, none⟩ u7).setCell ⟨b, 8, none⟩ u8).cell? ⟨b, 9, none⟩ = some v9 ∧
    (((((((((w.setCell ⟨b, 0, none⟩ u0).setCell ⟨b, 1, none⟩ u1).setCell ⟨b, 2, none⟩ u2).setCell ⟨b, 3, none⟩ u3).setCell ⟨b, 4, none⟩ u4).setCell ⟨b, 5, none⟩ u5).setCell ⟨b, 6, none⟩ u6).setCell ⟨b, 7, none⟩ u7).setCell ⟨b, 8, none⟩ u8).frozen? ⟨b, 9, none⟩ = false ∧
    ((((((((((w.setCell ⟨b, 0, none⟩ u0).setCell ⟨b, 1, none⟩ u1).setCell ⟨b, 2, none⟩ u2).setCell ⟨b, 3, none⟩ u3).setCell ⟨b, 4, none⟩ u4).setCell ⟨b, 5, none⟩ u5).setCell ⟨b, 6, none⟩ u6).setCell ⟨b, 7, none⟩ u7).setCell ⟨b, 8, none⟩ u8).setCell ⟨b, 9, none⟩ u9).cell? ⟨b, 10, none⟩ = some v10 ∧
    ((((((((((w.setCell ⟨b, 0, none⟩ u0).setCell ⟨b, 1, none⟩ u1).setCell ⟨b, 2, none⟩ u2).setCell ⟨b, 3, none⟩ u3).setCell ⟨b, 4, none⟩ u4).setCell ⟨b, 5, none⟩ u5).setCell ⟨b, 6, none⟩ u6).setCell ⟨b, 7, none⟩ u7).setCell ⟨b, 8, none⟩ u8).setCell ⟨b, 9, none⟩ u9).frozen? ⟨b, 10, none⟩ = false ∧
    (((((((((((w.setCell ⟨b, 0, none⟩ u0).setCell ⟨b, 1, none⟩ u1).setCell ⟨b, 2, none⟩ u2).setCell ⟨b, 3, none⟩ u3).setCell ⟨b, 4, none⟩ u4).setCell ⟨b, 5, none⟩ u5).setCell ⟨b, 6, none⟩ u6).setCell ⟨b, 7, none⟩ u7).setCell ⟨b, 8, none⟩ u8).setCell ⟨b, 9, none⟩ u9).setCell ⟨b, 10, none⟩ u10).heap[b]? = some (.cells #[u0, u1, u2, u3, u4, u5, u6, u7, u8, u9, u10] t (0, 0)) := by
  have h0 := h
  have h1 : (w.setCell ⟨b, 0, none⟩ u0).heap[b]? = some (.cells #[u0, v1, v2, v3, v4, v5, v6, v7, v8, v9, v10] t (0, 0)) := Dt.setCells h0 0 u0
  have h2 : ((w.setCell ⟨b, 0, none⟩ u0).setCell ⟨b, 1, none⟩ u1).heap[b]? = some (.cells #[u0, u1, v2, v3, v4, v5, v6, v7, v8, v9, v10] t (0, 0)) := Dt.setCells h1 1 u1
  have h3 : (((w.setCell ⟨b, 0, none⟩ u0).setCell ⟨b, 1, none⟩ u1).setCell ⟨b, 2, none⟩ u2).heap[b]? = some (.cells #[u0, u1, u2, v3, v4, v5, v6, v7, v8, v9, v10] t (0, 0)) := Dt.setCells h2 2 u2
  have h4 : ((((w.setCell ⟨b, 0, none⟩ u0).setCell ⟨b, 1, none⟩ u1).setCell ⟨b, 2, none⟩ u2).setCell ⟨b, 3, none⟩ u3).heap[b]? = some (.cells #[u0, u1, u2, u3, v4, v5, v6, v7, v8, v9, v10] t (0, 0)) := Dt.setCells h3 3 u3
  have h5 : (((((w.setCell ⟨b, 0, none⟩ u0).setCell ⟨b, 1, none⟩ u1).setCell ⟨b, 2, none⟩ u2).setCell ⟨b, 3, none⟩ u3).setCell ⟨b, 4, none⟩ u4).heap[b]? = some (.cells #[u0, u1, u2, u3, u4, v5, v6, v7, v8, v9, v10] t (0, 0)) := Dt.setCells h4 4 u4
  have h6 : ((((((w.setCell ⟨b, 0, none⟩ u0).setCell ⟨b, 1, none⟩ u1).setCell ⟨b, 2, none⟩ u2).setCell ⟨b, 3, none⟩ u3).setCell ⟨b, 4, none⟩ u4).setCell ⟨b, 5, none⟩ u5).heap[b]? = some (.cells #[u0, u1, u2, u3, u4, u5, v6, v7, v8, v9, v10] t (0, 0)) := Dt.setCells h5 5 u5
  have h7 : (((((((w.setCell ⟨b, 0, none⟩ u0).setCell ⟨b, 1, none⟩ u1).setCell ⟨b, 2, none⟩ u2).setCell ⟨b, 3, none⟩ u3).setCell ⟨b, 4, none⟩ u4).setCell ⟨b, 5, none⟩ u5).setCell ⟨b, 6, none⟩ u6).heap[b]? = some (.cells #[u0, u1, u2, u3, u4, u5, u6, v7, v8, v9, v10] t (0, 0)) := Dt.setCells h6 6 u6
  have h8 : ((((((((w.setCell ⟨b, 0, none⟩ u0).setCell ⟨b, 1, none⟩ u1).setCell ⟨b, 2, none⟩ u2).setCell ⟨b, 3, none⟩ u3).setCell ⟨b, 4, none⟩ u4).setCell ⟨b, 5, none⟩ u5).setCell ⟨b, 6, none⟩ u6).setCell ⟨b, 7, none⟩ u7).heap[b]? = some (.cells #[u0, u1, u2, u3, u4, u5, u6, u7, v8, v9, v10] t (0, 0)) := Dt.setCells h7 7 u7
  have h9 : (((((((((w.setCell ⟨b, 0, none⟩ u0).setCell ⟨b, 1, none⟩ u1).setCell ⟨b, 2, none⟩ u2).setCell ⟨b, 3, none⟩ u3).setCell ⟨b, 4, none⟩ u4).setCell ⟨b, 5, none⟩ u5).setCell ⟨b, 6, none⟩ u6).setCell ⟨b, 7, none⟩ u7).setCell ⟨b, 8, none⟩ u8).heap[b]? = some (.cells #[u0, u1, u2, u3, u4, u5, u6, u7, u8, v9, v10] t (0, 0)) := Dt.setCells h8 8 u8
  have h10 : ((((((((((w.setCell ⟨b, 0, none⟩ u0).setCell ⟨b, 1, none⟩ u1).setCell ⟨b, 2, none⟩ u2).setCell ⟨b, 3, none⟩ u3).setCell ⟨b, 4, none⟩ u4).setCell ⟨b, 5, none⟩ u5).setCell ⟨b, 6, none⟩ u6).setCell ⟨b, 7, none⟩ u7).setCell ⟨b, 8, none⟩ u8).setCell ⟨b, 9, none⟩ u9).heap[b]? = some (.cells #[u0, u1, u2, u3, u4, u5, u6, u7, u8, u9, v10] t (0, 0)) := Dt.setCells h9 9 u9
  have h11 : (((((((((((w.setCell ⟨b, 0, none⟩ u0).setCell ⟨b, 1, none⟩ u1).setCell ⟨b, 2, none⟩ u2).setCell ⟨b, 3, none⟩ u3).setCell ⟨b, 4, none⟩ u4).setCell ⟨b, 5, none⟩ u5).setCell ⟨b, 6, none⟩ u6).setCell ⟨b, 7, none⟩ u7).setCell ⟨b, 8, none⟩ u8).setCell ⟨b, 9, none⟩ u9).setCell ⟨b, 10, none⟩ u10).heap[b]? = some (.cells #[u0, u1, u2, u3, u4, u5, u6, u7, u8, u9, u10] t (0, 0)) := Dt.setCells h10 10 u10
  exact ⟨Dt.cell_of h0 0, Dt.frozen_of h0 0, Dt.cell_of h1 1, Dt.frozen_of h1 1, Dt.cell_of h2 2, Dt.frozen_of h2 2, Dt.cell_of h3 3, Dt.frozen_of h3 3, Dt.cell_of h4 4, Dt.frozen_of h4 4, Dt.cell_of h5 5, Dt.frozen_of h5 5, Dt.cell_of h6 6, Dt.frozen_of h6 6, Dt.cell_of h7 7, Dt.frozen_of h7 7, Dt.cell_of h8 8, Dt.frozen_of h8 8, Dt.cell_of h9 9, Dt.frozen_of h9 9, Dt.cell_of h10 10, Dt.frozen_of h10 10, h11⟩
theorem Dt.below_store11 {w0 w : World} {B b : Nat} (h : Below B w0 w) (hb : B ≤ b) (u0 u1 u2 u3 u4 u5 u6 u7 u8 u9 u10 : Value) : Below B w0 (((((((((((w.setCell ⟨b, 0, none⟩ u0).setCell ⟨b, 1, none⟩ u1).setCell ⟨b, 2, none⟩ u2).setCell ⟨b, 3, none⟩ u3).setCell ⟨b, 4, none⟩ u4).setCell ⟨b, 5, none⟩ u5).setCell ⟨b, 6, none⟩ u6).setCell ⟨b, 7, none⟩ u7).setCell ⟨b, 8, none⟩ u8).setCell ⟨b, 9, none⟩ u9).setCell ⟨b, 10, none⟩ u10) := by
  have h0 := h
  have h1 := Dt.below_set h0 b 0 u0 hb
  have h2 := Dt.below_set h1 b 1 u1 hb
  have h3 := Dt.below_set h2 b 2 u2 hb
  have h4 := Dt.below_set h3 b 3 u3 hb
  have h5 := Dt.below_set h4 b 4 u4 hb
  have h6 := Dt.below_set h5 b 5 u5 hb
  have h7 := Dt.below_set h6 b 6 u6 hb
  have h8 := Dt.below_set h7 b 7 u7 hb
  have h9 := Dt.below_set h8 b 8 u8 hb
  have h10 := Dt.below_set h9 b 9 u9 hb
  have h11 := Dt.below_set h10 b 10 u10 hb
  exact h11
theorem Dt.put11 {w : World} {b : Nat} {v0 v1 v2 v3 v4 v5 v6 v7 v8 v9 v10 : Value} {t : TypeId} (h : w.heap[b]? = some (.cells #[v0, v1, v2, v3, v4, v5, v6, v7, v8, v9, v10] t (0, 0))) (u0 u1 u2 u3 u4 u5 u6 u7 u8 u9 u10 : Value) :
    ∃ W1 W2 W3 W4 W5 W6 W7 W8 W9 W10 W11 : World,
    (w.cell? ⟨b, 0, none⟩ = some v0 ∧ w.frozen? ⟨b, 0, none⟩ = false ∧ w.setCell ⟨b, 0, none⟩ u0 = W1 ∧ W1.heap.size = w.heap.size) ∧
    (W1.cell? ⟨b, 1, none⟩ = some v1 ∧ W1.frozen? ⟨b, 1, none⟩ = false ∧ W1.setCell ⟨b, 1, none⟩ u1 = W2 ∧ W2.heap.size = w.heap.size) ∧
    (W2.cell? ⟨b, 2, none⟩ = some v2 ∧ W2.frozen? ⟨b, 2, none⟩ = false ∧ W2.setCell ⟨b, 2, none⟩ u2 = W3 ∧ W3.heap.size = w.heap.size) ∧
    (W3.cell? ⟨b, 3, none⟩ = some v3 ∧ W3.frozen? ⟨b, 3, none⟩ = false ∧ W3.setCell ⟨b, 3, none⟩ u3 = W4 ∧ W4.heap.size = w.heap.size) ∧
    (W4.cell? ⟨b, 4, none⟩ = some v4 ∧ W4.frozen? ⟨b, 4, none⟩ = false ∧ W4.setCell ⟨b, 4, none⟩ u4 = W5 ∧ W5.heap.size = w.heap.size) ∧
    (W5.cell? ⟨b, 5, none⟩ = some v5 ∧ W5.frozen? ⟨b, 5, none⟩ = false ∧ W5.setCell ⟨b, 5, none⟩ u5 = W6 ∧ W6.heap.size = w.heap.size) ∧
    (W6.cell? ⟨b, 6, none⟩ = some v6 ∧ W6.frozen? ⟨b, 6, none⟩ = false ∧ W6.setCell ⟨b, 6, none⟩ u6 = W7 ∧ W7.heap.size = w.heap.size) ∧
    (W7.cell? ⟨b, 7, none⟩ = some v7 ∧ W7.frozen? ⟨b, 7, none⟩ = false ∧ W7.setCell ⟨b, 7, none⟩ u7 = W8 ∧ W8.heap.size = w.heap.size) ∧
    (W8.cell? ⟨b, 8, none⟩ = some v8 ∧ W8.frozen? ⟨b, 8, none⟩ = false ∧ W8.setCell ⟨b, 8, none⟩ u8 = W9 ∧ W9.heap.size = w.heap.size) ∧
    (W9.cell? ⟨b, 9, none⟩ = some v9 ∧ W9.frozen? ⟨b, 9, none⟩ = false ∧ W9.setCell ⟨b, 9, none⟩ u9 = W10 ∧ W10.heap.size = w.heap.size) ∧
    (W10.cell? ⟨b, 10, none⟩ = some v10 ∧ W10.frozen? ⟨b, 10, none⟩ = false ∧ W10.setCell ⟨b, 10, none⟩ u10 = W11 ∧ W11.heap.size = w.heap.size) ∧
    W11.heap[b]? = some (.cells #[u0, u1, u2, u3, u4, u5, u6, u7, u8, u9, u10] t (0, 0)) ∧
    W11.heap.size = w.heap.size ∧
    (∀ q, q ≠ b → W11.heap[q]? = w.heap[q]?) ∧
    (∀ (B : Nat) (w0 : World), Below B w0 w → B ≤ b → Below B w0 W11) := by
  obtain ⟨f0, z0, f1, z1, f2, z2, f3, z3, f4, z4, f5, z5, f6, z6, f7, z7, f8, z8, f9, z9, f10, z10, g⟩ := Dt.store11 h u0 u1 u2 u3 u4 u5 u6 u7 u8 u9 u10
  refine ⟨_, _, _, _, _, _, _, _, _, _, _, ⟨f0, z0, rfl, by simp⟩, ⟨f1, z1, rfl, by simp⟩, ⟨f2, z2, rfl, by simp⟩, ⟨f3, z3, rfl, by simp⟩, ⟨f4, z4, rfl, by simp⟩, ⟨f5, z5, rfl, by simp⟩, ⟨f6, z6, rfl, by simp⟩, ⟨f7, z7, rfl, by simp⟩, ⟨f8, z8, rfl, by simp⟩, ⟨f9, z9, rfl, by simp⟩, ⟨f10, z10, rfl, by simp⟩, g, by simp, ?_, fun B w0 h0 hb => Dt.below_store11 h0 hb u0 u1 u2 u3 u4 u5 u6 u7 u8 u9 u10⟩
  intro q hq
  rw [Below.heap_setCell _ ⟨b, 10, none⟩ _ q hq]
  rw [Below.heap_setCell _ ⟨b, 9, none⟩ _ q hq]
  rw [Below.heap_setCell _ ⟨b, 8, none⟩ _ q hq]
  rw [Below.heap_setCell _ ⟨b, 7, none⟩ _ q hq]
  rw [Below.heap_setCell _ ⟨b, 6, none⟩ _ q hq]
  rw [Below.heap_setCell _ ⟨b, 5, none⟩ _ q hq]
  rw [Below.heap_setCell _ ⟨b, 4, none⟩ _ q hq]
  rw [Below.heap_setCell _ ⟨b, 3, none⟩ _ q hq]
  rw [Below.heap_setCell _ ⟨b, 2, none⟩ _ q hq]
  rw [Below.heap_setCell _ ⟨b, 1, none⟩ _ q hq]
  rw [Below.heap_setCell _ ⟨b, 0, none⟩ _ q hq]
end Go.Proofs.YtaepjlghdjcdnaaDoor
namespace Go.Proofs.YtaepjlghdjcdnaaDoor
open Go.RowKit
set_option linter.unusedVariables false
set_option linter.unusedSimpArgs false

set_option maxHeartbeats 4000000 in
set_option maxRecDepth 1000000 in
theorem Tr.noRat_any (s : Bool) (a1 a2 : Option Addr) (l1 c1 l2 c2 : Nat) (w : World) : Calls Tryd.prog 65 #[.agg #[.bool s, .slice a1 l1 c1, .slice a2 l2 c2]] w fun e w' => e = .returned (.bool (!s && decide (l1 = 0) && decide (l2 = 0))) ∧ Below w.heap.size w w' := by
  have hal : ∀ o, Below w.heap.size w (w.alloc o) := fun o => (Below.refl _ _).alloc (Nat.le_refl _) _
  have HAL := Lib.hid hal
  clear hal
  cases s with
  | true =>
    go_enter Tryd.func65, Tryd.ntmps65
    go_wp2_with fail
    go_ret
    exact ⟨by simp, HAL.out _⟩
  | false =>
    by_cases h1 : l1 = 0
    · subst h1
      by_cases h2 : l2 = 0
      · subst h2
        go_enter Tryd.func65, Tryd.ntmps65
        go_wp2_with fail
        go_ret
        exact ⟨by simp, HAL.out _⟩
      · have h2I : ((l2 : Int) == 0) = false := by simp; exact h2
        have H2 := Lib.hid h2
        clear h2
        go_enter Tryd.func65, Tryd.ntmps65
        go_wp2_with fail
        go_ret
        exact ⟨by simp [H2.out], HAL.out _⟩
    · have h1I : ((l1 : Int) == 0) = false := by simp; exact h1
      have H1 := Lib.hid h1
      clear h1
      go_enter Tryd.func65, Tryd.ntmps65
      go_wp2_with fail
      go_ret
      exact ⟨by simp [H1.out], HAL.out _⟩
end Go.Proofs.YtaepjlghdjcdnaaDoor
namespace Go.Proofs.YtaepjlghdjcdnaaDoor
open Go.RowKit
set_option linter.unusedVariables false
set_option linter.unusedSimpArgs false

section
variable {P : Program} (w : World)
/-- Where the row lies behind the append. -/
def Ls.Fresh (w : World) (v v' : Value) : Prop := ∀ q, v'.ownBlock = some q → v.ownBlock = some q ∨ w.heap.size ≤ q
theorem Ls.run_append (base : Nat) (t ty e : TypeId) (i : TypeInfo) (z : Value) (size bytes : Nat) (ht : P.underlying t = some (.slice e)) (hi : P.info? e = some i) (hz : i.zero = some z)
    (hsize : i.size = size) (hby : i.bytes = bytes) (hzs : z.cells.size = size) (hsz : 0 < size)
    (v : Value) (n : Nat) (xs : List Value) (hown : w.ownsRow base e size v n xs)
    (a : Addr) (m c : Nat) (news : List Value) (hl : news.length = m * size) (hnews : ∀ j u, news[j]? = some u → w.cell? (a.add j) = some u) (h1 : ∀ u ∈ news, u.oneCell' = true)
    (h63 : n + m ≤ maxLen) (hbytes : (n + m) * bytes ≤ 140737488355328) (hbase : base ≤ w.heap.size) :
    ∃ v' w', (Builtin.append_ #[t, t] ty #[v, .slice (some a) m c]).run P w = .ok v' w' ∧ w'.ownsRow base e size v' (n + m) (xs ++ news) ∧ w.grownBy w' v.ownBlock ∧ Ls.Fresh w v v' := by
  obtain ⟨v', w', hr, ho, hg, hiff⟩ := run_append_own (P := P) w base t ty e i z size bytes ht hi hz hsize hby hzs hsz v n xs hown a m c news hl hnews h1 h63 hbytes hbase
  refine ⟨v', w', hr, ho, hg, ?_⟩
  have hlen := hown.1
  rcases hown.2 with ⟨rfl, rfl⟩ | ⟨g, cap, cur, rfl, hbg, hgc, hnc, hcm, hcs, htake⟩
  · have hx : xs = [] := List.eq_nil_of_length_eq_zero (by simpa using hlen)
    subst hx
    obtain ⟨v2, w2, hr2, ho2, _, _⟩ := run_append_own (P := P) w w.heap.size t ty e i z size bytes ht hi hz hsize hby hzs hsz _ 0 [] (World.ownsRow_nil w w.heap.size e size) a m c news hl hnews h1 h63 hbytes (Nat.le_refl _)
    rw [hr] at hr2
    cases hr2
    intro q hq
    exact .inr (ho2.lt q hq).1
  · subst hsize
    subst hby
    by_cases hroom : n + m ≤ cap
    · have hfit : n * i.size + news.length ≤ cur.size := by rw [hl, hcs, ← Nat.add_mul]; exact Nat.mul_le_mul_right _ hroom
      have hr2 := run_append_room (P := P) w t ty e i ht hi g n cap cur hgc a m c news hl hnews h1 hroom hfit
      rw [hr] at hr2
      cases hr2
      intro q hq
      exact .inl hq
    · have holds : ∀ j u, xs[j]? = some u → w.cell? ((⟨g, 0, none⟩ : Addr).add j) = some u := by
        exact World.ownsRow.cells (w := w) (base := base) (e := e) (size := i.size) (v := .slice (some ⟨g, 0, none⟩) n cap) (n := n) (xs := xs) ⟨hlen, .inr ⟨g, cap, cur, rfl, hbg, hgc, hnc, hcm, hcs, htake⟩⟩ rfl
      have hr2 := run_append_grow (P := P) w t ty e i z ht hi hz ⟨g, 0, none⟩ n cap xs hlen holds a m c news hl hnews (by omega) (by simp only [maxLen] at h63; omega) (growslice_fits (by omega) hbytes)
      rw [hr] at hr2
      cases hr2
      intro q hq
      simp only [Value.ownBlock, Option.some.injEq] at hq
      exact .inr (by omega)
/-- Nothing is appended. -/
theorem Ls.run_none (base : Nat) (t ty e : TypeId) (i : TypeInfo) (size : Nat) (ht : P.underlying t = some (.slice e)) (hi : P.info? e = some i)
    (v : Value) (n : Nat) (xs : List Value) (hown : w.ownsRow base e size v n xs) :
    (Builtin.append_ #[t, t] ty #[v, .slice none 0 0]).run P w = .ok v w := by
  rcases hown.2 with ⟨rfl, rfl⟩ | ⟨g, cap, cur, rfl, hbg, hgc, hnc, hcm, hcs, htake⟩
  · simp [Builtin.append_, run_underlying ht, sizeOf, typeInfo, hi, Builtin.lenOf, Builtin.firstCells, loadCells, loadCellsFrom]
  · simp [Builtin.append_, run_underlying ht, sizeOf, typeInfo, hi, Builtin.lenOf, Builtin.firstCells, loadCells, loadCellsFrom, hnc, storeCells]
/-- What an append may be of: nothing at all, or so many elements in memory. -/
def Ls.Src (w : World) (size : Nat) (x : Value) (m : Nat) (news : List Value) : Prop :=
  (x = .slice none 0 0 ∧ m = 0 ∧ news = []) ∨ ∃ ad c, x = .slice (some ad) m c ∧ news.length = m * size ∧ ∀ j u, news[j]? = some u → w.cell? (ad.add j) = some u
theorem Ls.run_src (base : Nat) (t ty e : TypeId) (i : TypeInfo) (z : Value) (size bytes : Nat) (ht : P.underlying t = some (.slice e)) (hi : P.info? e = some i) (hz : i.zero = some z)
    (hsize : i.size = size) (hby : i.bytes = bytes) (hzs : z.cells.size = size) (hsz : 0 < size)
    (v : Value) (n : Nat) (xs : List Value) (hown : w.ownsRow base e size v n xs)
    (x : Value) (m : Nat) (news : List Value) (hx : Ls.Src w size x m news) (h1 : ∀ u ∈ news, u.oneCell' = true)
    (h63 : n + m ≤ maxLen) (hbytes : (n + m) * bytes ≤ 140737488355328) (hbase : base ≤ w.heap.size) :
    ∃ v' w', (Builtin.append_ #[t, t] ty #[v, x]).run P w = .ok v' w' ∧ w'.ownsRow base e size v' (n + m) (xs ++ news) ∧ w.grownBy w' v.ownBlock ∧ Ls.Fresh w v v' := by
  rcases hx with ⟨rfl, rfl, rfl⟩ | ⟨ad, c, rfl, hl, hn⟩
  · refine ⟨v, w, Ls.run_none w base t ty e i size ht hi v n xs hown, ?_, ⟨rfl, rfl, rfl, Nat.le_refl _, fun _ _ _ => rfl⟩, fun q hq => .inl hq⟩
    rw [Nat.add_zero, List.append_nil]
    exact hown
  · exact Ls.run_append w base t ty e i z size bytes ht hi hz hsize hby hzs hsz v n xs hown ad m c news hl hn h1 h63 hbytes hbase
theorem Ls.wp_append {o : Oper} {a : Act} {K : Act → World → Prop} {Q : Exit → Act → World → Prop} (s x : Operand) (t : TypeId)
    (ho : o.op = .call { callee := .builtin .append, args := #[s, x], argTypes := #[t, t] })
    (base : Nat) (e : TypeId) (i : TypeInfo) (z : Value) (size bytes : Nat) (ht : P.underlying t = some (.slice e)) (hi : P.info? e = some i) (hz : i.zero = some z)
    (hsize : i.size = size) (hby : i.bytes = bytes) (hzs : z.cells.size = size) (hsz : 0 < size)
    (v : Value) (n : Nat) (xs : List Value) (hs : a.eval s = v) (hown : w.ownsRow base e size v n xs)
    (xv : Value) (m : Nat) (news : List Value) (hxv : a.eval x = xv) (hx : Ls.Src w size xv m news) (h1 : ∀ u ∈ news, u.oneCell' = true)
    (h63 : n + m ≤ maxLen) (hbytes : (n + m) * bytes ≤ 140737488355328) (hbase : base ≤ w.heap.size)
    (h : ∀ v' w', w'.ownsRow base e size v' (n + m) (xs ++ news) → w.grownBy w' v.ownBlock → Ls.Fresh w v v' → K (a.put o.dst v') w') : o.wp P a w K Q := by
  obtain ⟨v', w', hr, h2, h3, h4⟩ := Ls.run_src (P := P) w base t o.type e i z size bytes ht hi hz hsize hby hzs hsz v n xs hown xv m news hx h1 h63 hbytes hbase
  unfold Oper.wp execOp
  simp only [ho, resolve, invoke, builtin, Sem.run_bind, Sem.run_pure, Result.andThen_ok, List.map_toArray, List.map_cons, List.map_nil, hs, hxv, hr]
  exact h v' w' h2 h3 h4
theorem Ls.wpList_append {ops : Array Oper} {rest : List Oper} {o : Oper} {a : Act} {Q : Exit → Act → World → Prop} (hgd : o.guard = none) (s x : Operand) (t : TypeId)
    (ho : o.op = .call { callee := .builtin .append, args := #[s, x], argTypes := #[t, t] })
    (base : Nat) (e : TypeId) (i : TypeInfo) (z : Value) (size bytes : Nat) (ht : P.underlying t = some (.slice e)) (hi : P.info? e = some i) (hz : i.zero = some z)
    (hsize : i.size = size) (hby : i.bytes = bytes) (hzs : z.cells.size = size) (hsz : 0 < size)
    (v : Value) (n : Nat) (xs : List Value) (hs : a.eval s = v) (hown : w.ownsRow base e size v n xs)
    (xv : Value) (m : Nat) (news : List Value) (hxv : a.eval x = xv) (hx : Ls.Src w size xv m news) (h1 : ∀ u ∈ news, u.oneCell' = true)
    (h63 : n + m ≤ maxLen) (hbytes : (n + m) * bytes ≤ 140737488355328) (hbase : base ≤ w.heap.size)
    (h : ∀ v' w', w'.ownsRow base e size v' (n + m) (xs ++ news) → w.grownBy w' v.ownBlock → Ls.Fresh w v v' → wpList P ops Q rest (a.put o.dst v') w') : wpList P ops Q (o :: rest) a w :=
  wpList_plain hgd fun _ hK => Ls.wp_append w s x t ho base e i z size bytes ht hi hz hsize hby hzs hsz v n xs hs hown xv m news hxv hx h1 h63 hbytes hbase fun v' w' h2 h3 h4 => hK _ _ (h v' w' h2 h3 h4)
/-- The same at a step of a region. -/
theorem Ls.step_append {ops : Array Oper} {o : Oper} {a : Act} {Q : Exit → Act → World → Prop} {K : Act → World → Prop} {E : Prop} (hgd : o.guard = none) (s x : Operand) (t : TypeId)
    (ho : o.op = .call { callee := .builtin .append, args := #[s, x], argTypes := #[t, t] })
    (base : Nat) (e : TypeId) (i : TypeInfo) (z : Value) (size bytes : Nat) (ht : P.underlying t = some (.slice e)) (hi : P.info? e = some i) (hz : i.zero = some z)
    (hsize : i.size = size) (hby : i.bytes = bytes) (hzs : z.cells.size = size) (hsz : 0 < size)
    (v : Value) (n : Nat) (xs : List Value) (hs : a.eval s = v) (hown : w.ownsRow base e size v n xs)
    (xv : Value) (m : Nat) (news : List Value) (hxv : a.eval x = xv) (hx : Ls.Src w size xv m news) (h1 : ∀ u ∈ news, u.oneCell' = true)
    (h63 : n + m ≤ maxLen) (hbytes : (n + m) * bytes ≤ 140737488355328) (hbase : base ≤ w.heap.size)
    (h : ∀ v' w', w'.ownsRow base e size v' (n + m) (xs ++ news) → w.grownBy w' v.ownBlock → Ls.Fresh w v v' → K (a.put o.dst v') w') :
    if Region.wanted o (yielded ops a.tmps) = true then Oper.wp P o a w K Q else E := by
  have hw : Region.wanted o (yielded ops a.tmps) = true := by simp [Region.wanted, hgd]
  rw [if_pos hw]
  exact Ls.wp_append w s x t ho base e i z size bytes ht hi hz hsize hby hzs hsz v n xs hs hown xv m news hxv hx h1 h63 hbytes hbase h
end
end Go.Proofs.YtaepjlghdjcdnaaDoor
namespace Go.Proofs.YtaepjlghdjcdnaaDoor
open Go.RowKit
set_option linter.unusedVariables false

theorem Tr.On.top {w : World} {S : Nat → Prop} {v : Value} {ws : List Nat} (i : Nt.In w v ws) (o : Tr.On S v ws.length) : Tr.On (fun q => S q ∧ q < w.heap.size) v ws.length := by
  rcases i with ⟨_, e⟩ | ⟨_, _, _, e⟩ | ⟨h0, b, off, cap, hv, _, hl, _⟩
  · rw [e]; exact fun h => absurd h (Nat.lt_irrefl 0)
  · rw [e]; exact fun h => absurd h (Nat.lt_irrefl 0)
  · intro _ b' off' l' c' e
    rw [hv] at e
    cases e
    exact ⟨o h0 _ _ _ _ hv, hl⟩
theorem Tr.On.topB {w : World} {S : Nat → Prop} {v : Value} {s : ByteArray} (i : By.In w v s) (o : Tr.On S v s.size) : Tr.On (fun q => S q ∧ q < w.heap.size) v s.size := by
  rcases i with ⟨_, e⟩ | ⟨_, _, _, e⟩ | ⟨h0, b, off, cap, hv, _, hl, _⟩
  · rw [e]; exact fun h => absurd h (Nat.lt_irrefl 0)
  · rw [e]; exact fun h => absurd h (Nat.lt_irrefl 0)
  · intro _ b' off' l' c' e
    rw [hv] at e
    cases e
    exact ⟨o h0 _ _ _ _ hv, hl⟩
/-- What a head lies in is below the heap's end. -/
theorem Tr.Hd.In.top {w : World} {S : Nat → Prop} {h : Tr.Hd} {v3 v4 v6 v7 v9 : Value} (i : Tr.Hd.In w S h v3 v4 v6 v7 v9) : Tr.Hd.In w (fun q => S q ∧ q < w.heap.size) h v3 v4 v6 v7 v9 :=
  ⟨i.ok, i.i3, i.i4, i.i6, i.i7, i.i9, Tr.On.top i.i3 i.o3, Tr.On.top i.i4 i.o4, Tr.On.top i.i6 i.o6, Tr.On.top i.i7 i.o7, Tr.On.topB i.i9 i.o9⟩

mutual
theorem Tr.In.top {w : World} {S : Nat → Prop} : ∀ (t : Tr) (v : Value), Tr.In w S t v → Tr.In w (fun q => S q ∧ q < w.heap.size) t v
  | .mk h l, v, hI => by
    rw [Tr.In_mk] at hI ⊢
    obtain ⟨v3, v4, v6, v7, v9, v10, e, hH, hL⟩ := hI
    refine ⟨v3, v4, v6, v7, v9, v10, e, hH.top, ?_⟩
    rcases hL with h0 | h0 | ⟨h0, b, off, cap, hv, h1, h2, h3, h4, h5⟩
    · exact .inl h0
    · exact .inr (.inl h0)
    · exact .inr (.inr ⟨h0, b, off, cap, hv, h1, h2, h3, ⟨h4, h3⟩, Tr.All.top l b off h5⟩)
theorem Tr.All.top {w : World} {S : Nat → Prop} : ∀ (l : List Tr) (b off : Nat), Tr.All w S l b off → Tr.All w (fun q => S q ∧ q < w.heap.size) l b off
  | [], _, _, _ => Tr.All_nil
  | t :: ts, b, off, h => by
    rw [Tr.All_cons] at h ⊢
    obtain ⟨⟨C, hI, hM⟩, hr⟩ := h
    exact ⟨⟨C, Tr.In.top t _ hI, hM⟩, Tr.All.top ts b (off + 11) hr⟩
end
end Go.Proofs.YtaepjlghdjcdnaaDoor
namespace Go.Proofs.YtaepjlghdjcdnaaDoor
open Go.RowKit
set_option linter.unusedVariables false

/-- The row of the data l, its cells xs; no datum lies in the row's own block. -/
def Tr.Row (B : Nat) (w : World) (v : Value) (l : List Tr) (xs : List Value) : Prop :=
  w.ownsRow B 32 11 v l.length xs ∧ ∀ k t, l[k]? = some t → ∃ C : Array Value, Tr.In w (fun q => B ≤ q ∧ v.ownBlock ≠ some q) t (.agg C) ∧ ∀ j, j < 11 → xs[11 * k + j]? = C[j]?
theorem Tr.Row.nil (B : Nat) (w : World) : Tr.Row B w (.slice none 0 0) [] [] := ⟨World.ownsRow_nil w B _ _, fun k t h => by simp at h⟩
theorem Tr.In.size11 {w : World} {S : Nat → Prop} {t : Tr} {C : Array Value} (h : Tr.In w S t (.agg C)) : C.size = 11 := by
  obtain ⟨_, _, _, _, _, _, _, _, e⟩ := Tr.In.form h
  rw [e]; rfl
theorem Tr.Row.push {B : Nat} {w w1 w2 : World} {v v' : Value} {l : List Tr} {xs : List Value} {t : Tr} {C : Array Value} (h : Tr.Row B w v l xs) (hb : Below w.heap.size w w1) (hB : B ≤ w.heap.size)
    (hI : Tr.In w1 (fun q => w.heap.size ≤ q) t (.agg C)) (ho : w2.ownsRow B 32 11 v' (l.length + 1) (xs ++ C.toList)) (hg : w1.grownBy w2 v.ownBlock) (hf : Ls.Fresh w1 v v') : Tr.Row B w2 v' (l ++ [t]) (xs ++ C.toList) := by
  refine ⟨by rw [List.length_append]; exact ho, fun k u hk => ?_⟩
  have hz := hb.size
  have hlt := h.1.lt
  rcases Nat.lt_or_ge k l.length with h1 | h1
  · rw [List.getElem?_append_left h1] at hk
    obtain ⟨C', hI', hx⟩ := h.2 k u hk
    have h5 := Tr.In.kept (S := fun q => (B ≤ q ∧ v.ownBlock ≠ some q) ∧ q < w.heap.size) (w' := w2) ⟨Nat.le_trans hz hg.size, fun q hq hl => (hg.block q (Nat.lt_of_lt_of_le hl hz) (fun e => hq.1.2 e.symm)).trans (hb.block q hl)⟩ _ _ (Tr.In.top _ _ hI')
    have h6 : ∀ q, ((B ≤ q ∧ v.ownBlock ≠ some q) ∧ q < w.heap.size) → (B ≤ q ∧ v'.ownBlock ≠ some q) := by
      intro q hq
      refine ⟨hq.1.1, fun he => ?_⟩
      rcases hf q he with h2 | h2
      · exact hq.1.2 h2
      · have := hq.2
        omega
    refine ⟨C', Tr.In.mono h6 _ _ h5, fun j hj => ?_⟩
    rw [List.getElem?_append_left (by rw [h.1.1]; omega)]
    exact hx j hj
  · have hkl : k = l.length := by
      have := (List.getElem?_eq_some_iff.1 hk).1
      simp at this
      omega
    subst hkl
    rw [List.getElem?_append_right (Nat.le_refl _), Nat.sub_self] at hk
    simp only [List.getElem?_cons_zero, Option.some.injEq] at hk
    subst hk
    have h5 := Tr.In.kept (S := fun q => w.heap.size ≤ q ∧ q < w1.heap.size) (w' := w2) ⟨hg.size, fun q hq hl => hg.block q hl (fun e => by have := (hlt q e.symm).2; have := hq.1; omega)⟩ _ _ (Tr.In.top _ _ hI)
    have h6 : ∀ q, (w.heap.size ≤ q ∧ q < w1.heap.size) → (B ≤ q ∧ v'.ownBlock ≠ some q) := by
      intro q hq
      refine ⟨Nat.le_trans hB hq.1, fun he => ?_⟩
      rcases hf q he with h2 | h2
      · have := (hlt q h2).2
        have := hq.1
        omega
      · have := hq.2
        omega
    refine ⟨C, Tr.In.mono h6 _ _ h5, fun j hj => ?_⟩
    rw [List.getElem?_append_right (by rw [h.1.1]; omega), show 11 * l.length + j - xs.length = j by rw [h.1.1]; omega, Array.getElem?_toList]
/-- The row, read as a list. -/
theorem Tr.Row.lin {B : Nat} {w : World} {v : Value} {l : List Tr} {xs : List Value} (h : Tr.Row B w v l xs) : Tr.LIn w (fun q => B ≤ q) l v := by
  obtain ⟨ho, hall⟩ := h
  have hcell := @World.ownsRow.cells w B _ 11 v l.length xs ho
  rcases ho.2 with ⟨rfl, h0⟩ | ⟨g, cap, cur, rfl, hbg, hgc, hnc, hcm, hcs, htake⟩
  · exact .inl ⟨rfl, h0⟩
  · rcases Nat.eq_zero_or_pos l.length with h0 | h0
    · exact .inr (.inl ⟨_, _, by rw [h0], h0⟩)
    · refine .inr (.inr ⟨h0, g, 0, cap, rfl, hnc, by simp only [maxLen] at hcm; omega, (Array.getElem?_eq_some_iff.1 hgc).1, hbg, Tr.All.of l g 0 (fun k t hk => ?_)⟩)
      obtain ⟨C, hI, hx⟩ := hall k t hk
      refine ⟨C, Tr.In.mono (fun q hq => hq.1) _ _ hI, fun j hj => ?_⟩
      have hs := hI.size11
      have hu : C[j]? = some C[j] := Array.getElem?_eq_getElem (by omega)
      refine ⟨C[j], hu, ?_⟩
      have := hcell (g := g) rfl (11 * k + j) C[j] ((hx j hj).trans hu)
      have hadd : (⟨g, 0, none⟩ : Addr).add (11 * k + j) = ⟨g, 11 * k + j, none⟩ := by unfold Addr.add; split <;> simp_all
      rw [hadd] at this
      rw [Nat.zero_add]
      exact this
end Go.Proofs.YtaepjlghdjcdnaaDoor
