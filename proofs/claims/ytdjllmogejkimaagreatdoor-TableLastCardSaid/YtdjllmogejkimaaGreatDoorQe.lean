/-
  datum.shape of any node. datum.shape of any node: the walk. Worlds that are alike but for one block.
-/
import Derived.Deep.DeepCutAuto
import Derived.Deep.LoopGhost
import Derived.Test.YtdjllmogejkimaaGreatDoorQa
import Derived.Test.YtdjllmogejkimaaGreatDoorQd
import Derived.Test.YtdjllmogejkimaaGreatDoorShelfQ
set_option linter.unusedVariables false
set_option linter.unusedSimpArgs false
namespace Go.Proofs.YtdjllmogejkimaaGreatDoor
open Go.RowKit

set_option maxHeartbeats 4000000 in
set_option maxRecDepth 1000000 in
theorem Tr.noRat_any (s : Bool) (a1 a2 : Option Addr) (l1 c1 l2 c2 : Nat) (w : World) : Calls Tryz.prog 113 #[.agg #[.bool s, .slice a1 l1 c1, .slice a2 l2 c2]] w fun e w' => e = .returned (.bool (!s && decide (l1 = 0) && decide (l2 = 0))) ∧ Below w.heap.size w w' := by
  have hal : ∀ o, Below w.heap.size w (w.alloc o) := fun o => (Below.refl _ _).alloc (Nat.le_refl _) _
  have HAL := Lib.hid hal
  clear hal
  cases s with
  | true =>
    go_enter Tryz.func113, Tryz.ntmps113
    go_wp2_with fail
    go_ret
    exact ⟨by simp, HAL.out _⟩
  | false =>
    by_cases h1 : l1 = 0
    · subst h1
      by_cases h2 : l2 = 0
      · subst h2
        go_enter Tryz.func113, Tryz.ntmps113
        go_wp2_with fail
        go_ret
        exact ⟨by simp, HAL.out _⟩
      · have h2I : ((l2 : Int) == 0) = false := by simp; exact h2
        have H2 := Lib.hid h2
        clear h2
        go_enter Tryz.func113, Tryz.ntmps113
        go_wp2_with fail
        go_ret
        exact ⟨by simp [H2.out], HAL.out _⟩
    · have h1I : ((l1 : Int) == 0) = false := by simp; exact h1
      have H1 := Lib.hid h1
      clear h1
      go_enter Tryz.func113, Tryz.ntmps113
      go_wp2_with fail
      go_ret
      exact ⟨by simp [H1.out], HAL.out _⟩

/-- The tables of unicode/utf8 stand. -/
def Tr.Tabs (w : World) : Prop := Lib.Utf8Tabs (Tryz.laysValid196_ren.g 3) (Tryz.laysValid196_ren.g 4) w
theorem Tr.Tabs.below {w w' : World} (h : Tr.Tabs w) (hb : Below w.heap.size w w') : Tr.Tabs w' := Utf8Tabs_below h hb
theorem Tr.str_size {x : ByteArray} (h : x.toList = []) : x.size = 0 := by
  rw [ByteArray.toList_eq] at h
  have e : x.data.toList.length = x.size := by simp
  rw [h] at e
  exact e.symm
theorem Tr.str_nil {x : ByteArray} (h : x.size = 0) : x = ⟨#[]⟩ := by
  apply ByteArray.ext
  exact Array.eq_empty_of_size_eq_zero h
theorem Tr.str_ne {x : ByteArray} (h : x.size ≠ 0) : (x.toList = []) = False ∧ x.toList.isEmpty = false := by
  have hn : ¬ x.toList = [] := fun e => h (Tr.str_size e)
  exact ⟨by simp [hn], by simpa using hn⟩
set_option maxHeartbeats 8000000 in
set_option maxRecDepth 1000000 in
theorem Tr.shape_any (h : Tr.Hd) (n : Nat) (v3 v4 v6 v7 v9 : Value) (a10 : Option Addr) (c10 : Nat) (S : Nat → Prop) (w : World) (hI : Tr.Hd.In w S h v3 v4 v6 v7 v9) (hT : Tr.Tabs w) :
    Calls Tryz.prog 79 #[.agg (Tr.cells h v3 v4 v6 v7 v9 (.slice a10 n c10))] w fun e w' => e = .returned (.bool (h.shape n)) ∧ Below w.heap.size w w' := by
  have KS := fun w hh => Rt.Sound_any h.s1 h.t1 h.b1 h.s2 h.t2 h.b2 (.agg #[.bool h.s1, v3, v4, .bool h.s2, v6, v7]) w hh
  have hform : ∀ w', Below w.heap.size w w' → Rt.GN w' (.agg #[.bool h.s1, v3, v4, .bool h.s2, v6, v7]) h.s1 h.t1 h.b1 h.s2 h.t2 h.b2 := fun w' hb =>
    Rt.GN.below (w := w) (B := w.heap.size) ⟨⟨v3, v4, v6, v7, rfl, hI.i3, hI.i4, hI.i6, hI.i7⟩, ⟨hI.ok.w1, hI.ok.w2, hI.ok.l1, hI.ok.l2⟩, ⟨hI.ok.w3, hI.ok.w4, hI.ok.l3, hI.ok.l4⟩⟩ hb (Nat.le_refl _)
  have KV := fun w hh => Tryz.utf8_ValidString h.x w (by have := hI.ok.x1; unfold maxLen at this; omega) hh
  obtain ⟨a3, c3, rfl⟩ := hI.i3.slice
  obtain ⟨a4, c4, rfl⟩ := hI.i4.slice
  obtain ⟨a6, c6, rfl⟩ := hI.i6.slice
  obtain ⟨a7, c7, rfl⟩ := hI.i7.slice
  obtain ⟨a9, c9, rfl⟩ := hI.i9.slice
  have hk0 := hI.ok.k0
  have hk1 := hI.ok.k1
  have hn0 := hI.ok.n0
  have hn1 := hI.ok.n1
  have hdef : h.shape n = (h.num && (Tr.isText h.k || decide (h.x.size = 0)) && Lib.validD h.x.data.toList && (decide (h.k = 7) || decide (h.raw.size = 0)) && Tr.own h.k h.n n) := rfl
  have hnum : h.num = if h.k = 3 then Rt.soundN h.s1 h.t1 h.b1 h.s2 h.t2 h.b2 else (!h.s1 && decide (h.t1.length = 0) && decide (h.b1.length = 0)) && (!h.s2 && decide (h.t2.length = 0) && decide (h.b2.length = 0)) := rfl
  have htab : ∀ w', Below w.heap.size w w' → Tr.Tabs w' := fun w' hb => hT.below hb
  rw [hdef]
  unfold Tr.cells
  obtain ⟨k, kn, s1, t1, b1, s2, t2, b2, x, raw⟩ := h
  simp only at *
  generalize Tr.Hd.num ⟨k, kn, s1, t1, b1, s2, t2, b2, x, raw⟩ = num at *
  generalize Rt.soundN s1 t1 b1 s2 t2 b2 = SN at *
  clear hI hT hdef
  generalize t1.length = l1 at *
  generalize b1.length = l2 at *
  generalize t2.length = l3 at *
  generalize b2.length = l4 at *
  obtain ⟨W, hW⟩ : ∃ W, w.alloc (.cells #[.int .i64 k, .int .i64 kn, .bool s1, .slice a3 l1 c3, .slice a4 l2 c4, .bool s2, .slice a6 l3 c6, .slice a7 l4 c7, .string x, .slice a9 raw.size c9, .slice a10 n c10] 37) = W := ⟨_, rfl⟩
  have q0 : W.heap[w.heap.size]? = some (.cells #[.int .i64 k, .int .i64 kn, .bool s1, .slice a3 l1 c3, .slice a4 l2 c4, .bool s2, .slice a6 l3 c6, .slice a7 l4 c7, .string x, .slice a9 raw.size c9, .slice a10 n c10] 37 (0, 0)) := by rw [← hW]; exact heap_alloc_new w _
  have hb0 : Below w.heap.size w W := by rw [← hW]; exact (Below.refl _ _).alloc (Nat.le_refl _) _
  have hzw : w.heap.size < W.heap.size := (Array.getElem?_eq_some_iff.1 q0).1
  have HK := Lib.hid (fun (w' : World) (hb : Below W.heap.size W w') => Dt.cells11 ((hb.block w.heap.size hzw).trans q0))
  have HB := Lib.hid (fun (w' : World) (hb : Below W.heap.size W w') => hb0.trans (hb.mono (by omega : w.heap.size ≤ W.heap.size)))
  have HF := Lib.hid hform
  have HTB := Lib.hid htab
  have HNUM := Lib.hid hnum
  obtain ⟨d0, d1, d2, d3, d4, d5, d6, d7, d8, d9, d10⟩ := HK.out _ (Below.refl _ _)
  clear q0 hb0 hzw hform htab hnum
  go_enter Tryz.func79, Tryz.ntmps79
  go_upto_region 1 with (fail)
  go_cut [3] (fun v wx => v = .bool num ∧ Below W.heap.size W wx)
  case first =>
    by_cases hk3 : k = 3
    · subst hk3
      have HN : Hid (num = SN) := Lib.hid (by have := HNUM.out; rwa [if_pos rfl] at this)
      obtain rfl := HN.out
      go_wp2_with fail
      refine (KS _ (HF.out _ (HB.out _ (Below.refl _ _)))).mono ?_
      rintro y w1 ⟨rfl, hb1⟩
      have HB1 := Lib.hid hb1
      clear d0 d1 d2 d3 d4 d5 d6 d7 d8 d9 d10
      obtain ⟨d0, d1, d2, d3, d4, d5, d6, d7, d8, d9, d10⟩ := HK.out _ hb1
      clear hb1 hW
      cases num with
      | true =>
        go_wp2_with fail
        go_meet
        exact ⟨rfl, HB1.out⟩
      | false =>
        go_wp2_with fail
        go_meet
        exact ⟨rfl, HB1.out⟩
    · have hk3I : (k == 3) = false := by simp; exact hk3
      have hk3J : (k != 3) = true := by simp; exact hk3
      obtain ⟨N1, hN1⟩ : ∃ N, (!s1 && decide (l1 = 0) && decide (l2 = 0)) = N := ⟨_, rfl⟩
      obtain ⟨N2, hN2⟩ : ∃ N, (!s2 && decide (l3 = 0) && decide (l4 = 0)) = N := ⟨_, rfl⟩
      have KN1 := fun w => Tr.noRat_any s1 a3 a4 l1 c3 l2 c4 w
      have KN2 := fun w => Tr.noRat_any s2 a6 a7 l3 c6 l4 c7 w
      have HN : Hid (num = (N1 && N2)) := Lib.hid (by have := HNUM.out; rw [if_neg hk3, hN1, hN2] at this; exact this)
      rw [hN1] at KN1
      rw [hN2] at KN2
      clear hN1 hN2 hk3
      obtain rfl := HN.out
      go_wp2_with fail
      refine (KN1 _).mono ?_
      rintro y w1 ⟨rfl, hb1⟩
      have HB1 := Lib.hid hb1
      clear d0 d1 d2 d3 d4 d5 d6 d7 d8 d9 d10
      obtain ⟨d0, d1, d2, d3, d4, d5, d6, d7, d8, d9, d10⟩ := HK.out _ hb1
      clear hb1 hW
      cases N1 with
      | false =>
        go_wp2_with fail
        go_meet
        exact ⟨rfl, HB1.out⟩
      | true =>
        go_wp2_with fail
        refine (KN2 _).mono ?_
        rintro y w2 ⟨rfl, hb2⟩
        have HB2 := Lib.hid (HB1.out.trans (hb2.mono HB1.out.size))
        clear hb2
        cases N2 with
        | false =>
          go_wp2_with fail
          go_meet
          exact ⟨rfl, HB2.out⟩
        | true =>
          go_wp2_with fail
          go_meet
          exact ⟨rfl, HB2.out⟩
  case rest =>
    obtain ⟨rfl, hbc⟩ := hcut
    clear d0 d1 d2 d3 d4 d5 d6 d7 d8 d9 d10
    obtain ⟨d0, d1, d2, d3, d4, d5, d6, d7, d8, d9, d10⟩ := HK.out _ hbc
    have HBC := Lib.hid hbc
    clear hbc hW KS HF HNUM
    go_upto_region 2 with (fail)
    go_cut [4] (fun v wx => v = .bool (Tr.isText k) ∧ wx = wc)
    case first =>
      by_cases h5 : k = 5
      · subst h5
        go_wp2_with fail
        go_meet
        exact ⟨rfl, rfl⟩
      · have h5I : (k == 5) = false := by simp; exact h5
        by_cases h6 : k = 6
        · subst h6
          clear h5
          go_wp2_with fail
          go_meet
          exact ⟨rfl, rfl⟩
        · have h6I : (k == 6) = false := by simp; exact h6
          by_cases h11 : k = 11
          · subst h11
            clear h5 h6
            go_wp2_with fail
            go_meet
            exact ⟨rfl, rfl⟩
          · have h11I : (k == 11) = false := by simp; exact h11
            have HT : Hid (Tr.isText k = false) := Lib.hid (by simp [Tr.isText, h5, h6, h11])
            clear h5 h6 h11
            go_wp2_with fail
            go_meet
            exact ⟨by rw [HT.out], rfl⟩
    case rest =>
      obtain ⟨rfl, rfl⟩ := hcut
      obtain ⟨T, hTe⟩ : ∃ T, Tr.isText k = T := ⟨_, rfl⟩
      rw [hTe]
      have HTX := Lib.hid hTe
      clear hTe
      go_upto_region 3 with (fail)
      go_cut [70] (fun v wx => v = .bool (!(num && (T || decide (x.size = 0)) && Lib.validD x.data.toList && (decide (k = 7) || decide (raw.size = 0)))) ∧ Below W.heap.size W wx)
      case first =>
        cases num with
        | false =>
          go_wp2_with fail
          go_meet
          exact ⟨by simp, HBC.out⟩
        | true =>
          have hxe : T = false → x.size ≠ 0 → (x.toList = []) = False ∧ x.toList.isEmpty = false := fun _ hx => Tr.str_ne hx
          by_cases hTx : T = false ∧ x.size ≠ 0
          · obtain ⟨rfl, hx⟩ := hTx
            obtain ⟨hx1, hx2⟩ := Tr.str_ne hx
            have HX := Lib.hid hx
            clear hx hxe
            go_wp2_with fail
            go_meet
            exact ⟨by simp [HX.out], HBC.out⟩
          · have hTd : (T || decide (x.size = 0)) = true := by
              cases T with
              | true => rfl
              | false =>
                simp only [true_and, Classical.not_not] at hTx
                simp [hTx]
            have HTD := Lib.hid hTd
            have hxf : T = true ∨ (T = false ∧ x.size = 0) := by
              cases T with
              | true => exact .inl rfl
              | false => exact .inr ⟨rfl, by simpa using hTd⟩
            clear hTd hTx hxe
            have hV := KV wc (HTB.out _ (HB.out _ HBC.out))
            obtain ⟨V, hVe⟩ : ∃ V, Lib.validD x.data.toList = V := ⟨_, rfl⟩
            rw [hVe] at hV
            have HVE := Lib.hid hVe
            clear hVe KV
            generalize raw.size = rl at *
            have HX0 : Hid (x.size = 0 → x = ⟨#[]⟩) := Lib.hid Tr.str_nil
            rcases hxf with rfl | ⟨rfl, hx⟩
            · go_wp2_with fail
              refine hV.mono ?_
              rintro y w3 ⟨rfl, hb3⟩
              have HB3 := Lib.hid (HBC.out.trans (hb3.mono HBC.out.size))
              clear d0 d1 d2 d3 d4 d5 d6 d7 d8 d9 d10
              obtain ⟨d0, d1, d2, d3, d4, d5, d6, d7, d8, d9, d10⟩ := HK.out _ HB3.out
              clear hb3
              cases V with
              | false =>
                go_wp2_with fail
                go_meet
                exact ⟨by rw [HVE.out]; simp, HB3.out⟩
              | true =>
                by_cases h7 : k = 7
                · subst h7
                  go_wp2_with fail
                  go_meet
                  exact ⟨by rw [HVE.out, HTD.out]; simp, HB3.out⟩
                · have h7I : (k != 7) = true := by simp; exact h7
                  by_cases hr0 : rl = 0
                  · subst hr0
                    have H7 := Lib.hid h7
                    clear h7
                    go_wp2_with fail
                    go_meet
                    exact ⟨by rw [HVE.out, HTD.out]; simp, HB3.out⟩
                  · have hrI : (0 : Int) < (rl : Int) := by omega
                    have H7 := Lib.hid (And.intro h7 hr0)
                    clear h7 hr0
                    go_wp2_with fail
                    go_meet
                    exact ⟨by rw [HVE.out, HTD.out]; simp [H7.out.1, H7.out.2]; exact Nat.pos_of_ne_zero H7.out.2, HB3.out⟩
            · obtain rfl := HX0.out hx
              clear hx
              go_wp2_with fail
              refine hV.mono ?_
              rintro y w3 ⟨rfl, hb3⟩
              have HB3 := Lib.hid (HBC.out.trans (hb3.mono HBC.out.size))
              clear d0 d1 d2 d3 d4 d5 d6 d7 d8 d9 d10
              obtain ⟨d0, d1, d2, d3, d4, d5, d6, d7, d8, d9, d10⟩ := HK.out _ HB3.out
              clear hb3
              cases V with
              | false =>
                go_wp2_with fail
                go_meet
                exact ⟨by rw [HVE.out]; simp, HB3.out⟩
              | true =>
                by_cases h7 : k = 7
                · subst h7
                  go_wp2_with fail
                  go_meet
                  exact ⟨by rw [HVE.out, HTD.out]; simp, HB3.out⟩
                · have h7I : (k != 7) = true := by simp; exact h7
                  by_cases hr0 : rl = 0
                  · subst hr0
                    have H7 := Lib.hid h7
                    clear h7
                    go_wp2_with fail
                    go_meet
                    exact ⟨by rw [HVE.out, HTD.out]; simp, HB3.out⟩
                  · have hrI : (0 : Int) < (rl : Int) := by omega
                    have H7 := Lib.hid (And.intro h7 hr0)
                    clear h7 hr0
                    go_wp2_with fail
                    go_meet
                    exact ⟨by rw [HVE.out, HTD.out]; simp [H7.out.1, H7.out.2]; exact Nat.pos_of_ne_zero H7.out.2, HB3.out⟩
      case rest =>
        obtain ⟨rfl, hbd⟩ := hcut
        obtain ⟨P, hP⟩ : ∃ P, (num && (T || decide (x.size = 0)) && Lib.validD x.data.toList && (decide (k = 7) || decide (raw.size = 0))) = P := ⟨_, rfl⟩
        have HP := Lib.hid hP
        have HBD := Lib.hid (HB.out _ hbd)
        clear d0 d1 d2 d3 d4 d5 d6 d7 d8 d9 d10
        obtain ⟨d0, d1, d2, d3, d4, d5, d6, d7, d8, d9, d10⟩ := HK.out _ hbd
        obtain ⟨rl, hrl⟩ : ∃ r, raw.size = r := ⟨_, rfl⟩
        rw [hrl] at d9
        have hcv : (!(num && (T || decide (x.size = 0)) && Lib.validD x.data.toList && (decide (k = 7) || decide (raw.size = 0)))) = !P := by rw [hP]
        rw [hcv]
        clear hP hbd KV HTB HBC hrl hcv
        cases P with
        | false =>
          go_wp2_with fail
          go_ret
          exact ⟨by rw [HTX.out, HP.out]; simp, HBD.out⟩
        | true =>
          by_cases h8 : k = 8
          · subst h8
            by_cases hz : kn = 0
            · subst hz
              by_cases hl : n = 2
              · subst hl
                go_wp2_with fail
                go_ret
                exact ⟨by rw [HTX.out, HP.out]; simp [Tr.own], HBD.out⟩
              · have hlI : ((n : Int) == 2) = false := by simp; omega
                have HL := Lib.hid hl
                clear hl
                go_wp2_with fail
                go_ret
                exact ⟨by rw [HTX.out, HP.out]; simp [Tr.own, HL.out], HBD.out⟩
            · have hzI : (kn == 0) = false := by simp; exact hz
              have HZ := Lib.hid hz
              clear hz
              go_wp2_with fail
              go_ret
              exact ⟨by rw [HTX.out, HP.out]; simp [Tr.own, HZ.out], HBD.out⟩
          · have h8I : (k == 8) = false := by simp; exact h8
            by_cases h9 : k = 9
            · subst h9
              clear h8
              by_cases hz : kn = 0
              · subst hz
                go_wp2_with fail
                go_ret
                exact ⟨by rw [HTX.out, HP.out]; simp [Tr.own], HBD.out⟩
              · have hzI : (kn == 0) = false := by simp; exact hz
                have HZ := Lib.hid hz
                clear hz
                go_wp2_with fail
                go_ret
                exact ⟨by rw [HTX.out, HP.out]; simp [Tr.own, HZ.out], HBD.out⟩
            · have h9I : (k == 9) = false := by simp; exact h9
              by_cases h2 : k = 2
              · subst h2
                clear h8 h9
                by_cases hz : kn = 0 ∨ kn = 1
                · have hzd : (kn / 2 == 0) = true := by rcases hz with rfl | rfl <;> rfl
                  have hze : kn / 2 = 0 := by rcases hz with rfl | rfl <;> rfl
                  have HZ := Lib.hid hz
                  clear hz
                  by_cases hl : n = 0
                  · subst hl
                    go_wp2_with fail
                    go_ret
                    exact ⟨by rw [HTX.out, HP.out]; rcases HZ.out with h | h <;> simp [Tr.own, h], HBD.out⟩
                  · have hlI : ((n : Int) == 0) = false := by simp; omega
                    have HL := Lib.hid hl
                    clear hl
                    go_wp2_with fail
                    go_ret
                    exact ⟨by rw [HTX.out, HP.out]; simp [Tr.own, HL.out], HBD.out⟩
                · have hzd : (kn / 2 == 0) = false := by simp; omega
                  have hze : ¬ kn / 2 = 0 := by omega
                  have HZ := Lib.hid hz
                  clear hz
                  go_wp2_with fail
                  go_ret
                  exact ⟨by rw [HTX.out, HP.out]; have := HZ.out; simp [Tr.own]; omega, HBD.out⟩
              · have h2I : (k == 2) = false := by simp; exact h2
                by_cases h4 : k = 4
                · subst h4
                  clear h8 h9 h2
                  have KC := fun w => Tr.IsChar_any kn w
                  obtain ⟨C, hC⟩ : ∃ C, Tr.isChar kn = C := ⟨_, rfl⟩
                  rw [hC] at KC
                  have HC := Lib.hid hC
                  clear hC
                  cases C with
                  | false =>
                    go_wp2_with fail
                    refine (KC _).mono ?_
                    rintro y w5 ⟨rfl, hw5⟩
                    subst hw5
                    go_wp2_with fail
                    go_ret
                    exact ⟨by rw [HTX.out, HP.out]; simp [Tr.own, HC.out], HBD.out⟩
                  | true =>
                    by_cases hl : n = 0
                    · subst hl
                      go_wp2_with fail
                      refine (KC _).mono ?_
                      rintro y w5 ⟨rfl, hw5⟩
                      subst hw5
                      go_wp2_with fail
                      go_ret
                      exact ⟨by rw [HTX.out, HP.out]; simp [Tr.own, HC.out], HBD.out⟩
                    · have hlI : ((n : Int) == 0) = false := by simp; omega
                      have HL := Lib.hid hl
                      clear hl
                      go_wp2_with fail
                      refine (KC _).mono ?_
                      rintro y w5 ⟨rfl, hw5⟩
                      subst hw5
                      go_wp2_with fail
                      go_ret
                      exact ⟨by rw [HTX.out, HP.out]; simp [Tr.own, HL.out], HBD.out⟩
                · have h4I : (k == 4) = false := by simp; exact h4
                  have HKN := Lib.hid (And.intro h8 (And.intro h9 (And.intro h2 h4)))
                  clear h8 h9 h2 h4
                  by_cases hk1' : 1 ≤ k
                  · by_cases hk11 : k ≤ 11
                    · by_cases hz : kn = 0
                      · subst hz
                        by_cases hl : n = 0
                        · subst hl
                          go_wp2_with fail
                          go_ret
                          exact ⟨by rw [HTX.out, HP.out]; simp [Tr.own, HKN.out.1, HKN.out.2.1, HKN.out.2.2.1, HKN.out.2.2.2, hk1', hk11], HBD.out⟩
                        · have hlI : ((n : Int) == 0) = false := by simp; omega
                          have HL := Lib.hid hl
                          clear hl
                          go_wp2_with fail
                          go_ret
                          exact ⟨by rw [HTX.out, HP.out]; simp [Tr.own, HKN.out.1, HKN.out.2.1, HKN.out.2.2.1, HKN.out.2.2.2, HL.out], HBD.out⟩
                      · have hzI : (kn == 0) = false := by simp; exact hz
                        have HZ := Lib.hid hz
                        clear hz
                        go_wp2_with fail
                        go_ret
                        exact ⟨by rw [HTX.out, HP.out]; simp [Tr.own, HKN.out.1, HKN.out.2.1, HKN.out.2.2.1, HKN.out.2.2.2, HZ.out], HBD.out⟩
                    · go_wp2_with fail
                      go_ret
                      exact ⟨by simp [Tr.own, HKN.out.1, HKN.out.2.1, HKN.out.2.2.1, HKN.out.2.2.2]; intros; omega, HBD.out⟩
                  · go_wp2_with fail
                    go_ret
                    exact ⟨by simp [Tr.own, HKN.out.1, HKN.out.2.1, HKN.out.2.2.1, HKN.out.2.2.2]; intros; omega, HBD.out⟩

/-- All old blocks but L are as they were. -/
structure Tr.But (L : Nat) (w w' : World) : Prop where
  os : w'.os = w.os
  tape : w'.tape = w.tape
  output : w'.output = w.output
  size : w.heap.size ≤ w'.heap.size
  block : ∀ q, q ≠ L → q < w.heap.size → w'.heap[q]? = w.heap[q]?
theorem Tr.But.refl (L : Nat) (w : World) : Tr.But L w w := ⟨rfl, rfl, rfl, Nat.le_refl _, fun _ _ _ => rfl⟩
theorem Tr.But.trans {L : Nat} {a b c : World} (h : Tr.But L a b) (k : Tr.But L b c) : Tr.But L a c :=
  ⟨k.os.trans h.os, k.tape.trans h.tape, k.output.trans h.output, Nat.le_trans h.size k.size, fun q h1 h2 => (k.block q h1 (Nat.lt_of_lt_of_le h2 h.size)).trans (h.block q h1 h2)⟩
theorem Tr.But.of_below {L B : Nat} {w w' : World} (h : Below B w w') (hB : w.heap.size ≤ B) : Tr.But L w w' :=
  ⟨h.os, h.tape, h.output, h.size, fun q _ h2 => h.block q (Nat.lt_of_lt_of_le h2 hB)⟩
theorem Tr.But.below {L B : Nat} {w w' : World} (h : Tr.But L w w') (hL : B ≤ L) (hB : B ≤ w.heap.size) : Below B w w' :=
  ⟨h.os, h.tape, h.output, h.size, fun q hq => h.block q (by omega) (by omega)⟩
theorem Tr.But.alloc {L : Nat} {a w : World} (h : Tr.But L a w) (o : Obj) : Tr.But L a (w.alloc o) := h.trans (Tr.But.of_below ((Below.refl w.heap.size w).alloc (Nat.le_refl _) o) (Nat.le_refl _))
theorem Tr.But.setCell {L : Nat} {a w : World} (h : Tr.But L a w) (p : Addr) (hp : p.block = L ∨ a.heap.size ≤ p.block) (u : Value) : Tr.But L a (w.setCell p u) :=
  ⟨h.os, h.tape, h.output, by have := h.size; simp [World.setCell]; exact this, fun q h1 h2 => (Below.heap_setCell _ _ _ _ (by rcases hp with e | e <;> omega)).trans (h.block q h1 h2)⟩
/-- A number, stored. -/
theorem Tr.storeInt {w : World} {L : Nat} {n : Int} {t : TypeId} (h : w.heap[L]? = some (.cells #[.int .i64 n] t (0, 0))) (m : Int) :
    ∃ W, w.setCell ⟨L, 0, none⟩ (.int .i64 m) = W ∧ w.cell? ⟨L, 0, none⟩ = some (.int .i64 n) ∧ w.frozen? ⟨L, 0, none⟩ = false ∧ W.cell? ⟨L, 0, none⟩ = some (.int .i64 m) ∧ W.heap[L]? = some (.cells #[.int .i64 m] t (0, 0)) ∧ Tr.But L w W ∧ W.heap.size = w.heap.size ∧ (∀ q, q ≠ L → W.heap[q]? = w.heap[q]?) := by
  have h1 := Dt.setCells h 0 (.int .i64 m)
  exact ⟨_, rfl, Dt.cell_of h 0, Dt.frozen_of h 0, Dt.cell_of h1 0, h1, (Tr.But.refl L w).setCell _ (.inl rfl) _, by simp, fun q hq => Below.heap_setCell _ _ _ _ hq⟩
/-- The cells of a datum, its slices opened. -/
theorem Tr.In.form2 {w : World} {S : Nat → Prop} {t : Tr} {C : Array Value} (h : Tr.In w S t (.agg C)) : ∃ (hd : Tr.Hd) (l : List Tr) (a3 a4 a6 a7 a9 a10 : Option Addr) (n3 n4 n6 n7 n9 n10 c3 c4 c6 c7 c9 c10 : Nat),
    C = Tr.cells hd (.slice a3 n3 c3) (.slice a4 n4 c4) (.slice a6 n6 c6) (.slice a7 n7 c7) (.slice a9 n9 c9) (.slice a10 n10 c10) ∧ t = .mk hd l ∧ Tr.Hd.In w S hd (.slice a3 n3 c3) (.slice a4 n4 c4) (.slice a6 n6 c6) (.slice a7 n7 c7) (.slice a9 n9 c9) ∧ Tr.LIn w S l (.slice a10 n10 c10) := by
  obtain ⟨hd, l⟩ := t
  rw [Tr.In_mk] at h
  obtain ⟨v3, v4, v6, v7, v9, v10, e, h1, h2⟩ := h
  obtain ⟨a3, c3, rfl⟩ := h1.i3.slice
  obtain ⟨a4, c4, rfl⟩ := h1.i4.slice
  obtain ⟨a6, c6, rfl⟩ := h1.i6.slice
  obtain ⟨a7, c7, rfl⟩ := h1.i7.slice
  obtain ⟨a9, c9, rfl⟩ := h1.i9.slice
  obtain ⟨a10, c10, rfl, _⟩ := h2.slice
  exact ⟨hd, l, a3, a4, a6, a7, a9, a10, _, _, _, _, _, _, c3, c4, c6, c7, c9, c10, by injection e, rfl, h1, h2⟩

/-- What sound says of a datum, met d deep. -/
def Tr.SoundSays (t : Tr) : Prop := ∀ (S : Nat → Prop) (C : Array Value) (w0 w : World) (L d : Nat) (left : Int), Tr.In w0 S t (.agg C) → Tr.Tabs w0 → Below w0.heap.size w0 w → w0.heap.size ≤ L →
  w.heap[L]? = some (.cells #[.int .i64 left] 3 (0, 0)) → 0 ≤ left → left ≤ 20000 → d ≤ 201 →
  Calls Tryz.prog 42 #[.agg C, .int .i64 d, .pointer (some ⟨L, 0, none⟩)] w fun e w' => e = .returned (.bool (Tr.snd t d left).1) ∧ w'.heap[L]? = some (.cells #[.int .i64 (Tr.snd t d left).2] 3 (0, 0)) ∧ Tr.But L w w'
/-- A child, in the walk's own form. -/
theorem Tr.SoundSays.at {t : Tr} (H : Tr.SoundSays t) {S : Nat → Prop} {C : Array Value} {w0 w : World} {L d : Nat} {left : Int} (hI : Tr.In w0 S t (.agg C)) (hT : Tr.Tabs w0) (hb : Below w0.heap.size w0 w) (hL : w0.heap.size ≤ L)
    (hp : w.heap[L]? = some (.cells #[.int .i64 left] 3 (0, 0))) (h0 : 0 ≤ left) (h1 : left ≤ 20000) (hd : d ≤ 200) :
    Calls Tryz.prog 42 #[.agg C, .int .i64 ((d : Int) + 1), .pointer (some ⟨L, 0, none⟩)] w fun e w' => e = .returned (.bool (Tr.snd t (d + 1) left).1) ∧ w'.heap[L]? = some (.cells #[.int .i64 (Tr.snd t (d + 1) left).2] 3 (0, 0)) ∧ Tr.But L w w' := by
  have := H S C w0 w L (d + 1) left hI hT hb hL hp h0 h1 (by omega)
  rwa [show ((d + 1 : Nat) : Int) = (d : Int) + 1 by omega] at this

set_option maxHeartbeats 8000000 in
set_option maxRecDepth 1000000 in
theorem Tr.sound_step (t : Tr) (IH : ∀ u, Tr.size u < Tr.size t → Tr.SoundSays u) : Tr.SoundSays t := by
  intro S C w0 w L d left hI hT hb hL hp hl0 hl1 hd
  obtain ⟨h0, li0⟩ := t
  rw [Tr.In_mk] at hI
  obtain ⟨v3, v4, v6, v7, v9, v10, hC, hH, hS⟩ := hI
  obtain rfl : C = Tr.cells h0 v3 v4 v6 v7 v9 v10 := by injection hC
  clear hC
  have hLw : L < w.heap.size := (Array.getElem?_eq_some_iff.1 hp).1
  obtain ⟨W, hW⟩ : ∃ W, w.alloc (.cells (Tr.cells h0 v3 v4 v6 v7 v9 v10) 37) = W := ⟨_, rfl⟩
  have q0 : W.heap[w.heap.size]? = some (.cells (Tr.cells h0 v3 v4 v6 v7 v9 v10) 37 (0, 0)) := by rw [← hW]; exact heap_alloc_new w _
  have qL : W.heap[L]? = some (.cells #[.int .i64 left] 3 (0, 0)) := by rw [← hW]; exact (Lib.alloc_old _ _ _ hLw).trans hp
  have hbt0 : Tr.But L w W := by rw [← hW]; exact (Tr.But.refl L w).alloc _
  have hzW : w.heap.size < W.heap.size := (Array.getElem?_eq_some_iff.1 q0).1
  have HIH := Lib.hid IH
  have HT := Lib.hid hT
  have HB := Lib.hid hb
  have HGEO := Lib.hid (And.intro hL (And.intro hLw (And.intro hb.size (And.intro hd hzW))))
  have HST : Hid (∃ (h : Tr.Hd) (l : List Tr) (v3 v4 v6 v7 v9 v10 : Value) (lf : Int), Tr.Hd.In w0 S h v3 v4 v6 v7 v9 ∧ Tr.LIn w0 S l v10 ∧ (Tr.size (.mk h l) = Tr.size (.mk h0 li0) ∧ Tr.size (.mk h0 li0) ≤ Tr.size (.mk h0 li0)) ∧ W.heap[w.heap.size]? = some (.cells (Tr.cells h v3 v4 v6 v7 v9 v10) 37 (0, 0)) ∧ W.heap[L]? = some (.cells #[.int .i64 lf] 3 (0, 0)) ∧ 0 ≤ lf ∧ lf ≤ 20000 ∧ Tr.snd (.mk h l) d lf = Tr.snd (.mk h0 li0) d left ∧ Tr.But L w W) :=
    Lib.hid ⟨h0, li0, v3, v4, v6, v7, v9, v10, left, hH, hS, ⟨rfl, Nat.le_refl _⟩, q0, qL, hl0, hl1, rfl, hbt0⟩
  have hdI : (d : Int) ≤ 201 := by omega
  unfold Tr.cells at hW ⊢
  clear IH hT hb hL hp hl0 hl1 hLw q0 qL hbt0 hH hS hzW hd
  go_enter Tryz.func42, Tryz.ntmps42
  go_wp2_with fail
  go_loopg [] (Tr.size (.mk h0 li0)) (fun g wr => ∃ (h : Tr.Hd) (l : List Tr) (v3 v4 v6 v7 v9 v10 : Value) (lf : Int), Tr.Hd.In w0 S h v3 v4 v6 v7 v9 ∧ Tr.LIn w0 S l v10 ∧ (Tr.size (.mk h l) = g ∧ g ≤ Tr.size (.mk h0 li0)) ∧ wr.heap[w.heap.size]? = some (.cells (Tr.cells h v3 v4 v6 v7 v9 v10) 37 (0, 0)) ∧ wr.heap[L]? = some (.cells #[.int .i64 lf] 3 (0, 0)) ∧ 0 ≤ lf ∧ lf ≤ 20000 ∧ Tr.snd (.mk h l) d lf = Tr.snd (.mk h0 li0) d left ∧ Tr.But L w wr)
  case atStart =>
    exact HST.out
  case round =>
    obtain ⟨h, l, u3, u4, u6, u7, u9, u10, lf, hH, hS, hg, hbox, hleft, hf0, hf1, hsnd, hbut⟩ := hrel
    obtain ⟨wo, hwo⟩ : ∃ z, z = wr := ⟨_, rfl⟩
    subst hwo
    clear HST hW
    obtain ⟨a10, c10, rfl, hcap10, _⟩ := hS.slice
    obtain ⟨W1, hW1, p0, z0, p1, hL1, hbut1, hsz1, hoth1⟩ := Tr.storeInt hleft (lf - 1)
    have hbox1 : W1.heap[w.heap.size]? = some (.cells (Tr.cells h u3 u4 u6 u7 u9 (.slice a10 l.length c10)) 37 (0, 0)) := (hoth1 _ (by have := HGEO.out; omega)).trans hbox
    have hbB1 : Below w0.heap.size w0 W1 := HB.out.trans ((hbut.trans (hbut1)).below HGEO.out.1 HGEO.out.2.2.1)
    have KSH := Tr.shape_any h l.length u3 u4 u6 u7 u9 a10 c10 S W1 (hH.kept (Tr.Kept.all hbB1 (Nat.le_refl _))) (HT.out.below hbB1)
    have hbut01 := hbut.trans hbut1
    have HH := Lib.hid hH
    have HS := Lib.hid hS
    have HG := Lib.hid hg
    have HSND := Lib.hid hsnd
    have HBUT := Lib.hid hbut01
    have HL1 := Lib.hid hL1
    have HBOX := Lib.hid hbox1
    have HBB := Lib.hid hbB1
    unfold Tr.cells at KSH
    obtain ⟨d0, d1, d2, d3, d4, d5, d6, d7, d8, d9, d10⟩ := Dt.cells11 (show W1.heap[w.heap.size]? = some (.cells #[.int .i64 h.k, .int .i64 h.n, .bool h.s1, u3, u4, .bool h.s2, u6, u7, .string h.x, u9, .slice a10 l.length c10] 37 (0, 0)) from hbox1)
    clear hH hS hg hbox hleft hsnd hbut hbut1 hL1 hoth1 hbox1 hbB1 hbut01 hsz1
    by_cases hneg : lf - 1 < 0
    · have HF : Hid (Tr.snd (.mk h l) d lf = (false, lf - 1)) := Lib.hid (Tr.snd_bad (.inl hneg))
      go_wp2_with fail
      go_ret
      exact ⟨by rw [← HSND.out, HF.out]; rfl, by rw [← HSND.out, HF.out]; exact HL1.out, HBUT.out⟩
    by_cases hdeep : 200 < d
    · have HF : Hid (Tr.snd (.mk h l) d lf = (false, lf - 1)) := Lib.hid (Tr.snd_bad (.inr (.inl hdeep)))
      have hdeepI : (200 : Int) < (d : Int) := by omega
      go_wp2_with fail
      go_ret
      exact ⟨by rw [← HSND.out, HF.out]; rfl, by rw [← HSND.out, HF.out]; exact HL1.out, HBUT.out⟩
    have hdeepI : ¬ (200 : Int) < (d : Int) := by omega
    obtain ⟨SH, hSH⟩ : ∃ b, h.shape l.length = b := ⟨_, rfl⟩
    rw [hSH] at KSH
    have HSH := Lib.hid hSH
    clear hSH
    go_wp2_with fail
    refine KSH.mono ?_
    rintro y w2 ⟨rfl, hb2⟩
    have hbut2 := HBUT.out.trans (Tr.But.of_below hb2 (Nat.le_refl _))
    have hL2 : w2.heap[L]? = some (.cells #[.int .i64 (lf - 1)] 3 (0, 0)) := (hb2.block L ((Array.getElem?_eq_some_iff.1 HL1.out).1)).trans HL1.out
    have hbox2 : w2.heap[w.heap.size]? = some (.cells (Tr.cells h u3 u4 u6 u7 u9 (.slice a10 l.length c10)) 37 (0, 0)) := (hb2.block w.heap.size ((Array.getElem?_eq_some_iff.1 HBOX.out).1)).trans HBOX.out
    have hbB2 : Below w0.heap.size w0 w2 := HBB.out.trans (hb2.mono HBB.out.size)
    have HL2 := Lib.hid hL2
    have HBUT2 := Lib.hid hbut2
    have HBOX2 := Lib.hid hbox2
    have HBB2 := Lib.hid hbB2
    clear d0 d1 d2 d3 d4 d5 d6 d7 d8 d9 d10
    obtain ⟨d0, d1, d2, d3, d4, d5, d6, d7, d8, d9, d10⟩ := Dt.cells11 (show w2.heap[w.heap.size]? = some (.cells #[.int .i64 h.k, .int .i64 h.n, .bool h.s1, u3, u4, .bool h.s2, u6, u7, .string h.x, u9, .slice a10 l.length c10] 37 (0, 0)) from hbox2)
    clear hb2 hbut2 hL2 hbox2 hbB2 p0 z0 p1 KSH
    cases SH with
    | false =>
      have HF : Hid (Tr.snd (.mk h l) d lf = (false, lf - 1)) := Lib.hid (Tr.snd_bad (.inr (.inr HSH.out)))
      go_wp2_with fail
      go_ret
      exact ⟨by rw [← HSND.out, HF.out]; rfl, by rw [← HSND.out, HF.out]; exact HL2.out, HBUT2.out⟩
    | true =>
      have HNB : Hid (¬ (lf - 1 < 0 ∨ 200 < d ∨ h.shape l.length = false)) := Lib.hid (by
        rintro (h1 | h1 | h1)
        · omega
        · omega
        · rw [HSH.out] at h1; cases h1)
      by_cases hk8 : h.k = 8
      · have hlen := Tr.Hd.shape_pair HSH.out hk8
        obtain ⟨a, b, rfl⟩ : ∃ a b, l = [a, b] := by
          match l, hlen with
          | [a, b], _ => exact ⟨a, b, rfl⟩
        have HF : Hid (Tr.snd (.mk h [a, b]) d lf = if (Tr.snd a (d + 1) (lf - 1)).1 = true then Tr.snd b d (Tr.snd a (d + 1) (lf - 1)).2 else (false, (Tr.snd a (d + 1) (lf - 1)).2)) := Lib.hid (Tr.snd_pair HNB.out hk8)
        obtain ⟨bL, oL, rfl, _, _, _, hbLlt, hSb, hall⟩ := Tr.Sl.at HS.out (by simp)
        obtain ⟨Ca, hIa, hMa⟩ := Tr.All.at _ _ _ hall 0 a rfl
        obtain ⟨Cb, hIb, hMb⟩ := Tr.All.at _ _ _ hall 1 b rfl
        have hMa : Tr.Mem w0 bL oL Ca := hMa
        have hMb : Tr.Mem w0 bL (oL + 11) Cb := hMb
        have hsz : Tr.size (.mk h [a, b]) = 1 + (Tr.size a + (Tr.size b + 0)) := by rw [Tr.size_mk, Tr.sizeL_cons, Tr.sizeL_cons, Tr.sizeL_nil]
        have KA := (HIH.out a (by have := HG.out; omega)).at (w := w2) (d := d) (left := lf - 1) hIa HT.out HBB2.out HGEO.out.1 HL2.out (by omega) (by omega) (by omega)
        have hMa2 := hMa.kept (Tr.Kept.all HBB2.out (Nat.le_refl _)) hSb hbLlt
        have hle := Tr.snd_le a (d + 1) (lf - 1) (by omega)
        obtain ⟨ha, la, ta3, ta4, ta6, ta7, ta9, ta10, eCa⟩ := Tr.In.form hIa
        obtain ⟨hb, lb, ab3, ab4, ab6, ab7, ab9, ab10, nb3, nb4, nb6, nb7, nb9, nb10, cb3, cb4, cb6, cb7, cb9, cb10, eCb, ebt, hbH, hbL⟩ := Tr.In.form2 hIb
        have HBH := Lib.hid (And.intro ebt (And.intro hbH hbL))
        subst eCa
        subst eCb
        unfold Tr.cells at KA hMa2
        obtain ⟨e0, e1, e2, e3, e4, e5, e6, e7, e8, e9, e10⟩ := Tr.Mem.cells hMa2
        have HSZ := Lib.hid hsz
        have HIB := Lib.hid hIb
        have HMB := Lib.hid hMb
        have HBL := Lib.hid (And.intro hbLlt hSb)
        have HLE := Lib.hid hle
        have hlI : (([a, b] : List Tr).length : Int) = 2 := rfl
        clear ebt hbH hbL hsz hIa hIb hMa hMb hMa2 hle hall hlen hbLlt hSb
        go_wp2_with fail
        refine KA.mono ?_
        rintro y w3 ⟨rfl, hL3, hbt3⟩
        have hbut3 := HBUT2.out.trans hbt3
        have hbB3 : Below w0.heap.size w0 w3 := HBB2.out.trans (hbt3.below HGEO.out.1 HBB2.out.size)
        have hbox3 : w3.heap[w.heap.size]? = some (.cells (Tr.cells h u3 u4 u6 u7 u9 (.slice (some ⟨bL, oL, none⟩) [a, b].length c10)) 37 (0, 0)) := (hbt3.block w.heap.size (by have := HGEO.out; omega) ((Array.getElem?_eq_some_iff.1 HBOX2.out).1)).trans HBOX2.out
        clear d0 d1 d2 d3 d4 d5 d6 d7 d8 d9 d10 e0 e1 e2 e3 e4 e5 e6 e7 e8 e9 e10
        have hMb3 := HMB.out.kept (Tr.Kept.all hbB3 (Nat.le_refl _)) HBL.out.2 HBL.out.1
        have hput := Dt.put11 (show w3.heap[w.heap.size]? = some (.cells #[.int .i64 h.k, .int .i64 h.n, .bool h.s1, u3, u4, .bool h.s2, u6, u7, .string h.x, u9, .slice (some ⟨bL, oL, none⟩) [a, b].length c10] 37 (0, 0)) from hbox3) (.int .i64 hb.k) (.int .i64 hb.n) (.bool hb.s1) (.slice ab3 nb3 cb3) (.slice ab4 nb4 cb4) (.bool hb.s2) (.slice ab6 nb6 cb6) (.slice ab7 nb7 cb7) (.string hb.x) (.slice ab9 nb9 cb9) (.slice ab10 nb10 cb10)
        have HPUT := Lib.hid hput
        obtain ⟨d0, d1, d2, d3, d4, d5, d6, d7, d8, d9, d10⟩ := Dt.cells11 (show w3.heap[w.heap.size]? = some (.cells #[.int .i64 h.k, .int .i64 h.n, .bool h.s1, u3, u4, .bool h.s2, u6, u7, .string h.x, u9, .slice (some ⟨bL, oL, none⟩) [a, b].length c10] 37 (0, 0)) from hbox3)
        unfold Tr.cells at hMb3
        obtain ⟨e0, e1, e2, e3, e4, e5, e6, e7, e8, e9, e10⟩ := Tr.Mem.cells hMb3
        have HL3 := Lib.hid hL3
        have HBUT3 := Lib.hid hbut3
        have HBB3 := Lib.hid hbB3
        clear hL3 hbut3 hbB3 hbt3 hbox3 hMb3 hput KA
        obtain ⟨ra, hra⟩ : ∃ r, (Tr.snd a (d + 1) (lf - 1)).1 = r := ⟨_, rfl⟩
        have HRA := Lib.hid hra
        rw [hra]
        clear hra
        cases ra with
        | false =>
          have HF2 : Hid (Tr.snd (.mk h [a, b]) d lf = (false, (Tr.snd a (d + 1) (lf - 1)).2)) := Lib.hid (by rw [HF.out, HRA.out]; rfl)
          go_wp2_with fail
          go_ret
          exact ⟨by rw [← HSND.out, HF2.out]; rfl, by rw [← HSND.out, HF2.out]; exact HL3.out, HBUT3.out⟩
        | true =>
          have HF2 : Hid (Tr.snd (.mk h [a, b]) d lf = Tr.snd b d (Tr.snd a (d + 1) (lf - 1)).2) := Lib.hid (by rw [HF.out, if_pos HRA.out])
          obtain ⟨X1, X2, X3, X4, X5, X6, X7, X8, X9, X10, X11, ⟨f0, y0, s0, _⟩, ⟨f1, y1, s1, _⟩, ⟨f2, y2, s2, _⟩, ⟨f3, y3, s3, _⟩, ⟨f4, y4, s4, _⟩, ⟨f5, y5, s5, _⟩, ⟨f6, y6, s6, _⟩, ⟨f7, y7, s7, _⟩, ⟨f8, y8, s8, _⟩, ⟨f9, y9, s9, _⟩, ⟨f10, y10, s10, _⟩, hX, hXz, hXo, hXb⟩ := HPUT.out
          have HX := Lib.hid (And.intro hX (And.intro hXz hXo))
          have HLX : Hid (X11.heap[L]? = some (.cells #[.int .i64 (Tr.snd a (d + 1) (lf - 1)).2] 3 (0, 0))) := Lib.hid ((hXo L (by have := HGEO.out; omega)).trans HL3.out)
          have HBX : Hid (Tr.But L w X11) := Lib.hid ⟨(hXb 0 w3 (Below.refl _ _) (Nat.zero_le _)).os.trans HBUT3.out.os, (hXb 0 w3 (Below.refl _ _) (Nat.zero_le _)).tape.trans HBUT3.out.tape, (hXb 0 w3 (Below.refl _ _) (Nat.zero_le _)).output.trans HBUT3.out.output, by rw [hXz]; exact HBUT3.out.size, fun q h1 h2 => (hXo q (by omega)).trans (HBUT3.out.block q h1 h2)⟩
          clear hX hXz hXo hXb
          have hle2 := HLE.out.2 HRA.out
          have HLE2 := Lib.hid hle2
          clear hle2
          go_wp2_with fail
          go_roundg (Tr.size b)
          case measure => have := HSZ.out; have := HG.out; have := Tr.size_pos a; omega
          case rel =>
            have e := HBH.out.1
            exact ⟨hb, lb, _, _, _, _, _, _, (Tr.snd a (d + 1) (lf - 1)).2, HBH.out.2.1, HBH.out.2.2, ⟨by rw [← e], by have := HSZ.out; have := HG.out; omega⟩, HX.out.1, HLX.out, HLE2.out, by have := HLE.out.1; omega, by rw [← e, ← HF2.out, HSND.out], HBX.out⟩
      · have hk8I : (h.k != 8) = true := by simp; exact hk8
        have HF : Hid (Tr.snd (.mk h l) d lf = Tr.sndL l (d + 1) (lf - 1)) := Lib.hid (Tr.snd_list HNB.out hk8)
        have hlf1 : 0 ≤ lf - 1 := by omega
        clear hk8
        go_wp2_with fail
        go_loopg [46] l.length (fun g iv wr => ∃ (k : Nat) (lf2 : Int), k + g = l.length ∧ iv = .int .i64 k ∧ wr.heap[L]? = some (.cells #[.int .i64 lf2] 3 (0, 0)) ∧ 0 ≤ lf2 ∧ lf2 ≤ 20000 ∧ Tr.sndL (l.drop k) (d + 1) lf2 = Tr.sndL l (d + 1) (lf - 1) ∧ Tr.But L w wr ∧ Below w0.heap.size w0 wr)
        case atStart => exact ⟨0, lf - 1, by omega, rfl, HL2.out, hlf1, by omega, by rw [List.drop_zero], HBUT2.out, HBB2.out⟩
        case round =>
          obtain ⟨k, lf2, hkg, rfl, hL3, hl20, hl21, hsl, hbt3, hbb3⟩ := hrel
          obtain ⟨w3, hw3⟩ : ∃ z, z = wr := ⟨_, rfl⟩
          subst hw3
          have HSL := Lib.hid hsl
          have HBT3 := Lib.hid hbt3
          have HBB3 := Lib.hid hbb3
          have HL3 := Lib.hid hL3
          clear hsl hbt3 hbb3 hL3 d0 d1 d2 d3 d4 d5 d6 d7 d8 d9 d10 HL2 HBUT2 HBOX2 HBB2
          by_cases hlt : k < l.length
          · obtain ⟨bL, oL, rfl, _, _, _, hbLlt, hSb, hall⟩ := Tr.Sl.at HS.out (by omega)
            obtain ⟨tk, htk⟩ : ∃ t, l[k]? = some t := ⟨_, List.getElem?_eq_getElem hlt⟩
            have hdrop : l.drop k = tk :: l.drop (k + 1) := by
              rw [List.drop_eq_getElem_cons hlt]
              rw [List.getElem?_eq_getElem hlt] at htk
              injection htk with e
              rw [e]
            obtain ⟨Ck, hIk, hMk⟩ := Tr.All.at _ _ _ hall k tk htk
            rw [Nat.mul_comm 11 k] at hMk
            have hsz : Tr.size tk < Tr.size (.mk h l) := Tr.size_lt (t := .mk h l) (k := k) htk
            have KT := fun w' hb hp => (HIH.out tk (by have := HG.out; omega)).at (w := w') (d := d) (left := lf2) hIk HT.out hb HGEO.out.1 hp hl20 hl21 (by omega)
            have hMk3 := hMk.kept (Tr.Kept.all HBB3.out (Nat.le_refl _)) hSb hbLlt
            obtain ⟨hb, lb, ab3, ab4, ab6, ab7, ab9, ab10, nb3, nb4, nb6, nb7, nb9, nb10, cb3, cb4, cb6, cb7, cb9, cb10, eCb, ebt, hbH, hbL⟩ := Tr.In.form2 hIk
            subst eCb
            unfold Tr.cells at KT hMk3
            obtain ⟨e0, e1, e2, e3, e4, e5, e6, e7, e8, e9, e10⟩ := Tr.Mem.cells hMk3
            have HDR := Lib.hid hdrop
            have hle := Tr.snd_le tk (d + 1) lf2 (by omega)
            have HLE := Lib.hid hle
            have HKT := Lib.hid KT
            clear hIk hMk hMk3 hall hsz hdrop htk ebt hbH hbL hbLlt hSb hle KT
            have HALC : Hid (∀ o, Below w0.heap.size w0 (w3.alloc o) ∧ (w3.alloc o).heap[L]? = some (.cells #[.int .i64 lf2] 3 (0, 0)) ∧ Tr.But L w (w3.alloc o)) := Lib.hid (fun o => ⟨HBB3.out.alloc HBB3.out.size o, (Lib.alloc_old _ _ _ ((Array.getElem?_eq_some_iff.1 HL3.out).1)).trans HL3.out, HBT3.out.alloc o⟩)
            go_wp2_with fail
            refine (HKT.out _ (HALC.out _).1 (HALC.out _).2.1).mono ?_
            rintro y w5 ⟨rfl, hL5, hbt5⟩
            have hbb5 : Below w0.heap.size w0 w5 := (HALC.out _).1.trans (hbt5.below HGEO.out.1 (HALC.out _).1.size)
            have hbut5 := (HALC.out _).2.2.trans hbt5
            have HR5 := Lib.hid (And.intro hL5 (And.intro hbut5 hbb5))
            clear hL5 hbt5 hbb5 hbut5 HALC e0 e1 e2 e3 e4 e5 e6 e7 e8 e9 e10
            obtain ⟨ra, hra⟩ : ∃ r, (Tr.snd tk (d + 1) lf2).1 = r := ⟨_, rfl⟩
            have HRA := Lib.hid hra
            rw [hra]
            clear hra
            cases ra with
            | false =>
              have HF2 : Hid (Tr.snd (.mk h l) d lf = (false, (Tr.snd tk (d + 1) lf2).2)) := Lib.hid (by rw [HF.out, ← HSL.out, HDR.out, Tr.sndL_cons, HRA.out]; rfl)
              go_wp2_with fail
              go_ret
              exact ⟨by rw [← HSND.out, HF2.out]; rfl, by rw [← HSND.out, HF2.out]; exact HR5.out.1, HR5.out.2.1⟩
            | true =>
              have HF2 : Hid (Tr.sndL (l.drop (k + 1)) (d + 1) (Tr.snd tk (d + 1) lf2).2 = Tr.sndL l (d + 1) (lf - 1)) := Lib.hid (by rw [← HSL.out, HDR.out, Tr.sndL_cons, if_pos HRA.out])
              have hle2 := HLE.out.2 HRA.out
              have HLE2 := Lib.hid hle2
              clear hle2
              go_wp2_with fail
              go_roundg (gk - 1)
              case measure => omega
              case rel => exact ⟨k + 1, _, by omega, by first | rfl | go_num | (simp; try omega), HR5.out.1, HLE2.out, by have := HLE.out.1; omega, HF2.out, HR5.out.2.1, HR5.out.2.2⟩
          · obtain rfl : k = l.length := by omega
            have HF2 : Hid (Tr.snd (.mk h l) d lf = (true, lf2)) := Lib.hid (by rw [HF.out, ← HSL.out, List.drop_length, Tr.sndL_nil])
            have hnlt : decide ((l.length : Int) < (l.length : Int)) = false := decide_eq_false (by omega)
            go_wp2_with fail
            go_ret
            exact ⟨by rw [← HSND.out, HF2.out]; rfl, by rw [← HSND.out, HF2.out]; exact HL3.out, HBT3.out⟩
theorem Tr.sound_says (t : Tr) : Tr.SoundSays t := by
  have H : ∀ n t, Tr.size t < n → Tr.SoundSays t := by
    intro n
    induction n with
    | zero => intro t h; omega
    | succ n ih => intro t h; exact Tr.sound_step t (fun u hu => ih u (by omega))
  exact H _ t (Nat.lt_succ_self _)

theorem Tr.In.agg {w : World} {S : Nat → Prop} {t : Tr} {v : Value} (h : Tr.In w S t v) : ∃ C, v = .agg C := by
  obtain ⟨hd, l⟩ := t
  rw [Tr.In_mk] at h
  obtain ⟨v3, v4, v6, v7, v9, v10, e, _⟩ := h
  exact ⟨_, e⟩
set_option maxHeartbeats 4000000 in
set_option maxRecDepth 1000000 in
theorem Tr.Sound_any (t : Tr) (S : Nat → Prop) (v : Value) (w : World) (hI : Tr.In w S t v) (hT : Tr.Tabs w) : Calls Tryz.prog 28 #[v] w fun e w' => e = .returned (.bool (Tr.sound t)) ∧ Below w.heap.size w w' := by
  obtain ⟨C, rfl⟩ := hI.agg
  have K := fun w' L hb hL hp => Tr.sound_says t S C w w' L 1 20000 hI hT hb hL hp (by decide) (by decide) (by decide)
  obtain ⟨hb, lb, a3, a4, a6, a7, a9, a10, n3, n4, n6, n7, n9, n10, c3, c4, c6, c7, c9, c10, eC, _, _, _⟩ := Tr.In.form2 hI
  subst eC
  unfold Tr.cells at K ⊢
  rw [show ((1 : Nat) : Int) = 1 from rfl] at K
  have hdef : Tr.sound t = (Tr.snd t 1 20000).1 := rfl
  rw [← hdef] at K
  have hA : ∀ o1 o2, Below w.heap.size w ((w.alloc o1).alloc o2) := fun o1 o2 => ((Below.refl _ _).alloc (Nat.le_refl _) _).alloc (by simp) _
  have hN : ∀ o, ((w.alloc o).alloc (.cells #[.int .i64 20000] 3)).heap[w.heap.size + 1]? = some (.cells #[.int .i64 20000] 3 (0, 0)) := by
    intro o
    have := heap_alloc_new (w.alloc o) (.cells #[.int .i64 20000] 3)
    rwa [show (w.alloc o).heap.size = w.heap.size + 1 by simp] at this
  have HK := Lib.hid K
  have HA := Lib.hid hA
  have HN := Lib.hid hN
  clear K hA hN hI hT hdef
  generalize Tr.sound t = R at *
  go_enter Tryz.func28, Tryz.ntmps28
  go_wp2_with fail
  refine (HK.out _ _ (HA.out _ _) (Nat.le_succ _) (HN.out _)).mono ?_
  rintro y w1 ⟨rfl, _, hbt⟩
  have HB := Lib.hid ((HA.out _ _).trans (hbt.below (Nat.le_succ _) (HA.out _ _).size))
  clear hbt
  go_wp2_with fail
  go_ret
  exact ⟨rfl, HB.out⟩
/-- A number whose words lie in blocks from B on. -/
def Rt.FrN (B : Nat) (v : Value) : Prop := ∃ s tv bv s2 tv2 bv2, v = .agg #[s, tv, bv, s2, tv2, bv2] ∧ Nt.Fr B tv ∧ Nt.Fr B bv ∧ Nt.Fr B tv2 ∧ Nt.Fr B bv2
theorem Rt.Fr.open {B B' : Nat} {s tv bv : Value} (h : Rt.Fr B (.agg #[s, tv, bv])) (hB : B' ≤ B) : Nt.Fr B' tv ∧ Nt.Fr B' bv := by
  obtain ⟨s', tv', bv', e, h1, h2⟩ := h
  simp only [Value.agg.injEq] at e
  have e1 : tv = tv' := by have := congrArg (fun a : Array Value => a[1]?) e; simpa using this
  have e2 : bv = bv' := by have := congrArg (fun a : Array Value => a[2]?) e; simpa using this
  subst e1 e2
  exact ⟨h1.mono hB, h2.mono hB⟩
set_option maxHeartbeats 8000000 in
set_option maxRecDepth 1000000 in
theorem Rt.own_any (s : Bool) (t b : Nat) (s2 : Bool) (t2 b2 : Nat) (v : Value) (w : World) (h : Rt.Q w v s t b s2 t2 b2) (hl : (Nt.dig t).length ≤ 400000 ∧ (Nt.dig b).length ≤ 400000 ∧ (Nt.dig t2).length ≤ 400000 ∧ (Nt.dig b2).length ≤ 400000) :
    Calls Tryz.prog 90 #[v] w fun e w' => ∃ v', e = .returned v' ∧ Rt.Q w' v' s t b s2 t2 b2 ∧ Rt.FrN w.heap.size v' ∧ Below w.heap.size w w' := by
  have K1 := fun v w h => Rt.own1_any s t b v w h ⟨hl.1, hl.2.1⟩
  have K2 := fun v w h => Rt.own1_any s2 t2 b2 v w h ⟨hl.2.2.1, hl.2.2.2⟩
  clear hl
  obtain ⟨tv1, bv1, tv2, bv2, rfl, hn1, hd1, hn2, hd2⟩ := h
  obtain ⟨a1, c1, rfl⟩ := Nt.In.slice hn1
  obtain ⟨a2, c2, rfl⟩ := Nt.In.slice hd1
  obtain ⟨a3, c3, rfl⟩ := Nt.In.slice hn2
  obtain ⟨a4, c4, rfl⟩ := Nt.In.slice hd2
  generalize (Nt.dig t).length = l1 at *
  generalize (Nt.dig b).length = l2 at *
  generalize (Nt.dig t2).length = l3 at *
  generalize (Nt.dig b2).length = l4 at *
  obtain ⟨W2, hW2, q0, q1, hsz, hb0⟩ := Rt.two w (.cells #[.bool s, .slice a1 l1 c1, .slice a2 l2 c2, .bool s2, .slice a3 l3 c3, .slice a4 l4 c4] 34) (.cells #[.bool false, .slice none 0 0, .slice none 0 0, .bool false, .slice none 0 0, .slice none 0 0] 34)
  have HI := Lib.hid (fun (w' : World) (hb : Below W2.heap.size W2 w') => And.intro (show Rt.R w' (.agg #[.bool s, .slice a1 l1 c1, .slice a2 l2 c2]) s t b from ⟨_, _, rfl, (Nt.N.below hn1 hb0 (Nat.le_refl _)).below hb (Nat.le_refl _), (Nt.N.below hd1 hb0 (Nat.le_refl _)).below hb (Nat.le_refl _)⟩) (show Rt.R w' (.agg #[.bool s2, .slice a3 l3 c3, .slice a4 l4 c4]) s2 t2 b2 from ⟨_, _, rfl, (Nt.N.below hn2 hb0 (Nat.le_refl _)).below hb (Nat.le_refl _), (Nt.N.below hd2 hb0 (Nat.le_refl _)).below hb (Nat.le_refl _)⟩))
  have HK := Lib.hid (fun (w' : World) (hb : Below W2.heap.size W2 w') => Rt.cells6 ((hb.block w.heap.size (by omega)).trans q0))
  have HR := Lib.hid (fun (w' : World) (hb : Below W2.heap.size W2 w') => (hb.block (w.heap.size + 1) (by omega)).trans q1)
  have HKX := Lib.hid (fun (w' w'' : World) (hb : Below W2.heap.size W2 w') (hx : ∀ q, q ≠ w.heap.size + 1 → w''.heap[q]? = w'.heap[q]?) => (Rt.cells6 ((hx w.heap.size (by omega)).trans ((hb.block w.heap.size (by omega)).trans q0))))
  have HB := Lib.hid (fun (w' : World) (hb : Below W2.heap.size W2 w') => hb0.trans (hb.mono (by omega : w.heap.size ≤ W2.heap.size)))
  have hacc : Below W2.heap.size W2 W2.drew := Rt.belowD (Below.refl _ _)
  have hkeep := HK.out _ hacc
  have HZ : Hid (∀ w', Below W2.heap.size W2 w' → w.heap.size ≤ w'.heap.size) := Lib.hid (fun w' hb => by have := hb.size; omega)
  clear q0 q1 hb0 hn1 hd1 hn2 hd2 hsz
  go_enter Tryz.func90, Tryz.ntmps90
  go_wp2_with fail
  clear hW2
  go_region_held3 (fun w' => w'.cell? ⟨w.heap.size, 0, none⟩ = some (.bool s) ∧ w'.cell? ⟨w.heap.size, 1, none⟩ = some (.slice a1 l1 c1) ∧ w'.cell? ⟨w.heap.size, 2, none⟩ = some (.slice a2 l2 c2) ∧ w'.cell? ⟨w.heap.size, 3, none⟩ = some (.bool s2) ∧ w'.cell? ⟨w.heap.size, 4, none⟩ = some (.slice a3 l3 c3) ∧ w'.cell? ⟨w.heap.size, 5, none⟩ = some (.slice a4 l4 c4))
    (first | exact hkeep | exact hkeepX)
    (first
      | (go_at_call_of 127 (Value.agg #[.bool s, .slice a1 l1 c1, .slice a2 l2 c2])
         refine (K1 _ _ (HI.out _ hacc).1).mono ?_
         rintro x w5 ⟨v5, rfl, hv5, hf5, hb5⟩
         obtain ⟨tvx, bvx, rfl, hn5, hd5⟩ := hv5
         have hf5 := Lib.hid (Rt.Fr.open hf5 (HZ.out _ hacc))
         have hacc := Rt.belowT hacc hb5
         have hkeep := HK.out _ hacc)
      | (go_at_call_of 127 (Value.agg #[.bool s2, .slice a3 l3 c3, .slice a4 l4 c4])
         refine (K2 _ _ (HI.out _ hacc).2).mono ?_
         rintro x w6 ⟨v6, rfl, hv6, hf6, hb6⟩
         obtain ⟨tvy, bvy, rfl, hn6, hd6⟩ := hv6
         have hf6 := Lib.hid (Rt.Fr.open hf6 (HZ.out _ hacc))
         have hn := hn5.below hb6 (Nat.le_refl _)
         have hd := hd5.below hb6 (Nat.le_refl _)
         obtain ⟨a5, c5, rfl⟩ := Nt.In.slice hn
         obtain ⟨a6, c6, rfl⟩ := Nt.In.slice hd
         obtain ⟨a7, c7, rfl⟩ := Nt.In.slice hn6
         obtain ⟨a8, c8, rfl⟩ := Nt.In.slice hd6
         have hacc := Rt.belowT hacc hb6
         have hkeep := HK.out _ hacc
         obtain ⟨X1, X2, X3, X4, X5, X6, ⟨f0, z0, s0⟩, ⟨f1, z1, s1'⟩, ⟨f2, z2, s2'⟩, ⟨f3, z3, s3'⟩, ⟨f4, z4, s4'⟩, ⟨f5, z5, s5'⟩, ⟨r0, r1, r2', r3, r4, r5⟩, HX⟩ := Rt.put6 (HR.out _ hacc) (.bool s) (.slice a5 (Nt.dig t).length c5) (.slice a6 (Nt.dig b).length c6) (.bool s2) (.slice a7 (Nt.dig t2).length c7) (.slice a8 (Nt.dig b2).length c8)
         have HOUT : Hid (Rt.Q X6 (.agg #[.bool s, .slice a5 (Nt.dig t).length c5, .slice a6 (Nt.dig b).length c6, .bool s2, .slice a7 (Nt.dig t2).length c7, .slice a8 (Nt.dig b2).length c8]) s t b s2 t2 b2 ∧ Below w.heap.size w X6) := Lib.hid ⟨⟨_, _, _, _, rfl, Nt.In.othr hn (HR.out _ hacc) Rt.noWords6 HX.out.2.2.1 HX.out.2.1, Nt.In.othr hd (HR.out _ hacc) Rt.noWords6 HX.out.2.2.1 HX.out.2.1, Nt.In.othr hn6 (HR.out _ hacc) Rt.noWords6 HX.out.2.2.1 HX.out.2.1, Nt.In.othr hd6 (HR.out _ hacc) Rt.noWords6 HX.out.2.2.1 HX.out.2.1⟩, HX.out.2.2.2 _ _ (HB.out _ hacc) (by omega)⟩
         have hkeepX := HKX.out _ X6 hacc HX.out.2.2.1))
  all_goals
    clear hkeep hkeepX hacc hb5 hb6 hn5 hd5 hn6 hd6 hn hd HX
    generalize (Nt.dig t).length = l5 at *
    generalize (Nt.dig b).length = l6 at *
    generalize (Nt.dig t2).length = l7 at *
    generalize (Nt.dig b2).length = l8 at *
    go_wp2_with fail
    refine bodyPost_ret (v := .agg #[.bool s, .slice a5 l5 c5, .slice a6 l6 c6, .bool s2, .slice a7 l7 c7, .slice a8 l8 c8]) (by simp [results, Tryz.results90, go_sem, r0, r1, r2', r3, r4, r5]) rfl ⟨_, rfl, HOUT.out.1, ⟨_, _, _, _, _, _, rfl, hf5.out.1, hf5.out.2, hf6.out.1, hf6.out.2⟩, HOUT.out.2⟩
end Go.Proofs.YtdjllmogejkimaaGreatDoor
