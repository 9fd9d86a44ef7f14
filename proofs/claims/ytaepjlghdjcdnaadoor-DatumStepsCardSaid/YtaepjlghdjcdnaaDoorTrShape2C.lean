/-
  datum.shape of any node: the walk.
-/
import Derived.Test.YtaepjlghdjcdnaaDoorCc
namespace Go.Proofs.YtaepjlghdjcdnaaDoor
open Go.RowKit
set_option linter.unusedVariables false
set_option linter.unusedSimpArgs false

/-- The tables of unicode/utf8 stand. -/
def Tr.Tabs (w : World) : Prop := Lib.Utf8Tabs (Tryd.laysValid196_ren.g 3) (Tryd.laysValid196_ren.g 4) w
theorem Tr.Tabs.below {w w' : World} (h : Tr.Tabs w) (hb : Below w.heap.size w w') : Tr.Tabs w' := Utf8Tabs_below h hb
theorem Tr.str_size {x : ByteArray} (h : x.toList = []) : x.size = 0 := by
  rw [ByteArray.toList_eq] at h
  have e : x.data.toList.length = x.size := by simp
  rw [h] at e
  exact e.symm
theorem Tr.str_nil {x : ByteArray} (h : x.size = 0) : x = ⟨#[]⟩ := by
  apply ByteArray.ext
  exact Array.eq_empty_of_size_eq_zero h
theorem Tr.str_ne {x : ByteArray} (h : x.size ≠ 0) : (x.toList = []) = False ∧ x.toList.isEmpty = false := by
  have hn : ¬ x.toList = [] := fun e => h (Tr.str_size e)
  exact ⟨by simp [hn], by simpa using hn⟩
set_option maxHeartbeats 8000000 in
set_option maxRecDepth 1000000 in
theorem Tr.shape_any (h : Tr.Hd) (n : Nat) (v3 v4 v6 v7 v9 : Value) (a10 : Option Addr) (c10 : Nat) (S : Nat → Prop) (w : World) (hI : Tr.Hd.In w S h v3 v4 v6 v7 v9) (hT : Tr.Tabs w) :
    Calls Tryd.prog 47 #[.agg (Tr.cells h v3 v4 v6 v7 v9 (.slice a10 n c10))] w fun e w' => e = .returned (.bool (h.shape n)) ∧ Below w.heap.size w w' := by
  have KS := fun w hh => Rt.Sound_any h.s1 h.t1 h.b1 h.s2 h.t2 h.b2 (.agg #[.bool h.s1, v3, v4, .bool h.s2, v6, v7]) w hh
  have hform : ∀ w', Below w.heap.size w w' → Rt.GN w' (.agg #[.bool h.s1, v3, v4, .bool h.s2, v6, v7]) h.s1 h.t1 h.b1 h.s2 h.t2 h.b2 := fun w' hb =>
    Rt.GN.below (w := w) (B := w.heap.size) ⟨⟨v3, v4, v6, v7, rfl, hI.i3, hI.i4, hI.i6, hI.i7⟩, ⟨hI.ok.w1, hI.ok.w2, hI.ok.l1, hI.ok.l2⟩, ⟨hI.ok.w3, hI.ok.w4, hI.ok.l3, hI.ok.l4⟩⟩ hb (Nat.le_refl _)
  have KV := fun w hh => Tryd.utf8_ValidString h.x w (by have := hI.ok.x1; unfold maxLen at this; omega) hh
  obtain ⟨a3, c3, rfl⟩ := hI.i3.slice
  obtain ⟨a4, c4, rfl⟩ := hI.i4.slice
  obtain ⟨a6, c6, rfl⟩ := hI.i6.slice
  obtain ⟨a7, c7, rfl⟩ := hI.i7.slice
  obtain ⟨a9, c9, rfl⟩ := hI.i9.slice
  have hk0 := hI.ok.k0
  have hk1 := hI.ok.k1
  have hn0 := hI.ok.n0
  have hn1 := hI.ok.n1
  have hdef : h.shape n = (h.num && (Tr.isText h.k || decide (h.x.size = 0)) && Lib.validD h.x.data.toList && (decide (h.k = 7) || decide (h.raw.size = 0)) && Tr.own h.k h.n n) := rfl
  have hnum : h.num = if h.k = 3 then Rt.soundN h.s1 h.t1 h.b1 h.s2 h.t2 h.b2 else (!h.s1 && decide (h.t1.length = 0) && decide (h.b1.length = 0)) && (!h.s2 && decide (h.t2.length = 0) && decide (h.b2.length = 0)) := rfl
  have htab : ∀ w', Below w.heap.size w w' → Tr.Tabs w' := fun w' hb => hT.below hb
  rw [hdef]
  unfold Tr.cells
  obtain ⟨k, kn, s1, t1, b1, s2, t2, b2, x, raw⟩ := h
  simp only at *
  generalize Tr.Hd.num ⟨k, kn, s1, t1, b1, s2, t2, b2, x, raw⟩ = num at *
  generalize Rt.soundN s1 t1 b1 s2 t2 b2 = SN at *
  clear hI hT hdef
  generalize t1.length = l1 at *
  generalize b1.length = l2 at *
  generalize t2.length = l3 at *
  generalize b2.length = l4 at *
  obtain ⟨W, hW⟩ : ∃ W, w.alloc (.cells #[.int .i64 k, .int .i64 kn, .bool s1, .slice a3 l1 c3, .slice a4 l2 c4, .bool s2, .slice a6 l3 c6, .slice a7 l4 c7, .string x, .slice a9 raw.size c9, .slice a10 n c10] 32) = W := ⟨_, rfl⟩
  have q0 : W.heap[w.heap.size]? = some (.cells #[.int .i64 k, .int .i64 kn, .bool s1, .slice a3 l1 c3, .slice a4 l2 c4, .bool s2, .slice a6 l3 c6, .slice a7 l4 c7, .string x, .slice a9 raw.size c9, .slice a10 n c10] 32 (0, 0)) := by rw [← hW]; exact heap_alloc_new w _
  have hb0 : Below w.heap.size w W := by rw [← hW]; exact (Below.refl _ _).alloc (Nat.le_refl _) _
  have hzw : w.heap.size < W.heap.size := (Array.getElem?_eq_some_iff.1 q0).1
  have HK := Lib.hid (fun (w' : World) (hb : Below W.heap.size W w') => Dt.cells11 ((hb.block w.heap.size hzw).trans q0))
  have HB := Lib.hid (fun (w' : World) (hb : Below W.heap.size W w') => hb0.trans (hb.mono (by omega : w.heap.size ≤ W.heap.size)))
  have HF := Lib.hid hform
  have HTB := Lib.hid htab
  have HNUM := Lib.hid hnum
  obtain ⟨d0, d1, d2, d3, d4, d5, d6, d7, d8, d9, d10⟩ := HK.out _ (Below.refl _ _)
  clear q0 hb0 hzw hform htab hnum
  go_enter Tryd.func47, Tryd.ntmps47
  go_upto_region 1 with (fail)
  go_cut [3] (fun v wx => v = .bool num ∧ Below W.heap.size W wx)
  case first =>
    by_cases hk3 : k = 3
    · subst hk3
      have HN : Hid (num = SN) := Lib.hid (by have := HNUM.out; rwa [if_pos rfl] at this)
      obtain rfl := HN.out
      go_wp2_with fail
      refine (KS _ (HF.out _ (HB.out _ (Below.refl _ _)))).mono ?_
      rintro y w1 ⟨rfl, hb1⟩
      have HB1 := Lib.hid hb1
      clear d0 d1 d2 d3 d4 d5 d6 d7 d8 d9 d10
      obtain ⟨d0, d1, d2, d3, d4, d5, d6, d7, d8, d9, d10⟩ := HK.out _ hb1
      clear hb1 hW
      cases num with
      | true =>
        go_wp2_with fail
        go_meet
        exact ⟨rfl, HB1.out⟩
      | false =>
        go_wp2_with fail
        go_meet
        exact ⟨rfl, HB1.out⟩
    · have hk3I : (k == 3) = false := by simp; exact hk3
      have hk3J : (k != 3) = true := by simp; exact hk3
      obtain ⟨N1, hN1⟩ : ∃ N, (!s1 && decide (l1 = 0) && decide (l2 = 0)) = N := ⟨_, rfl⟩
      obtain ⟨N2, hN2⟩ : ∃ N, (!s2 && decide (l3 = 0) && decide (l4 = 0)) = N := ⟨_, rfl⟩
      have KN1 := fun w => Tr.noRat_any s1 a3 a4 l1 c3 l2 c4 w
      have KN2 := fun w => Tr.noRat_any s2 a6 a7 l3 c6 l4 c7 w
      have HN : Hid (num = (N1 && N2)) := Lib.hid (by have := HNUM.out; rw [if_neg hk3, hN1, hN2] at this; exact this)
      rw [hN1] at KN1
      rw [hN2] at KN2
      clear hN1 hN2 hk3
      obtain rfl := HN.out
      go_wp2_with fail
      refine (KN1 _).mono ?_
      rintro y w1 ⟨rfl, hb1⟩
      have HB1 := Lib.hid hb1
      clear d0 d1 d2 d3 d4 d5 d6 d7 d8 d9 d10
      obtain ⟨d0, d1, d2, d3, d4, d5, d6, d7, d8, d9, d10⟩ := HK.out _ hb1
      clear hb1 hW
      cases N1 with
      | false =>
        go_wp2_with fail
        go_meet
        exact ⟨rfl, HB1.out⟩
      | true =>
        go_wp2_with fail
        refine (KN2 _).mono ?_
        rintro y w2 ⟨rfl, hb2⟩
        have HB2 := Lib.hid (HB1.out.trans (hb2.mono HB1.out.size))
        clear hb2
        cases N2 with
        | false =>
          go_wp2_with fail
          go_meet
          exact ⟨rfl, HB2.out⟩
        | true =>
          go_wp2_with fail
          go_meet
          exact ⟨rfl, HB2.out⟩
  case rest =>
    obtain ⟨rfl, hbc⟩ := hcut
    clear d0 d1 d2 d3 d4 d5 d6 d7 d8 d9 d10
    obtain ⟨d0, d1, d2, d3, d4, d5, d6, d7, d8, d9, d10⟩ := HK.out _ hbc
    have HBC := Lib.hid hbc
    clear hbc hW KS HF HNUM
    go_upto_region 2 with (fail)
    go_cut [4] (fun v wx => v = .bool (Tr.isText k) ∧ wx = wc)
    case first =>
      by_cases h5 : k = 5
      · subst h5
        go_wp2_with fail
        go_meet
        exact ⟨rfl, rfl⟩
      · have h5I : (k == 5) = false := by simp; exact h5
        by_cases h6 : k = 6
        · subst h6
          clear h5
          go_wp2_with fail
          go_meet
          exact ⟨rfl, rfl⟩
        · have h6I : (k == 6) = false := by simp; exact h6
          by_cases h11 : k = 11
          · subst h11
            clear h5 h6
            go_wp2_with fail
            go_meet
            exact ⟨rfl, rfl⟩
          · have h11I : (k == 11) = false := by simp; exact h11
            have HT : Hid (Tr.isText k = false) := Lib.hid (by simp [Tr.isText, h5, h6, h11])
            clear h5 h6 h11
            go_wp2_with fail
            go_meet
            exact ⟨by rw [HT.out], rfl⟩
    case rest =>
      obtain ⟨rfl, rfl⟩ := hcut
      obtain ⟨T, hTe⟩ : ∃ T, Tr.isText k = T := ⟨_, rfl⟩
      rw [hTe]
      have HTX := Lib.hid hTe
      clear hTe
      go_upto_region 3 with (fail)
      go_cut [70] (fun v wx => v = .bool (!(num && (T || decide (x.size = 0)) && Lib.validD x.data.toList && (decide (k = 7) || decide (raw.size = 0)))) ∧ Below W.heap.size W wx)
      case first =>
        cases num with
        | false =>
          go_wp2_with fail
          go_meet
          exact ⟨by simp, HBC.out⟩
        | true =>
          have hxe : T = false → x.size ≠ 0 → (x.toList = []) = False ∧ x.toList.isEmpty = false := fun _ hx => Tr.str_ne hx
          by_cases hTx : T = false ∧ x.size ≠ 0
          · obtain ⟨rfl, hx⟩ := hTx
            obtain ⟨hx1, hx2⟩ := Tr.str_ne hx
            have HX := Lib.hid hx
            clear hx hxe
            go_wp2_with fail
            go_meet
            exact ⟨by simp [HX.out], HBC.out⟩
          · have hTd : (T || decide (x.size = 0)) = true := by
              cases T with
              | true => rfl
              | false =>
                simp only [true_and, Classical.not_not] at hTx
                simp [hTx]
            have HTD := Lib.hid hTd
            have hxf : T = true ∨ (T = false ∧ x.size = 0) := by
              cases T with
              | true => exact .inl rfl
              | false => exact .inr ⟨rfl, by simpa using hTd⟩
            clear hTd hTx hxe
            have hV := KV wc (HTB.out _ (HB.out _ HBC.out))
            obtain ⟨V, hVe⟩ : ∃ V, Lib.validD x.data.toList = V := ⟨_, rfl⟩
            rw [hVe] at hV
            have HVE := Lib.hid hVe
            clear hVe KV
            generalize raw.size = rl at *
            have HX0 : Hid (x.size = 0 → x = ⟨#[]⟩) := Lib.hid Tr.str_nil
            rcases hxf with rfl | ⟨rfl, hx⟩
            · go_wp2_with fail
              refine hV.mono ?_
              rintro y w3 ⟨rfl, hb3⟩
              have HB3 := Lib.hid (HBC.out.trans (hb3.mono HBC.out.size))
              clear d0 d1 d2 d3 d4 d5 d6 d7 d8 d9 d10
              obtain ⟨d0, d1, d2, d3, d4, d5, d6, d7, d8, d9, d10⟩ := HK.out _ HB3.out
              clear hb3
              cases V with
              | false =>
                go_wp2_with fail
                go_meet
                exact ⟨by rw [HVE.out]; simp, HB3.out⟩
              | true =>
                by_cases h7 : k = 7
                · subst h7
                  go_wp2_with fail
                  go_meet
                  exact ⟨by rw [HVE.out, HTD.out]; simp, HB3.out⟩
                · have h7I : (k != 7) = true := by simp; exact h7
                  by_cases hr0 : rl = 0
                  · subst hr0
                    have H7 := Lib.hid h7
                    clear h7
                    go_wp2_with fail
                    go_meet
                    exact ⟨by rw [HVE.out, HTD.out]; simp, HB3.out⟩
                  · have hrI : (0 : Int) < (rl : Int) := by omega
                    have H7 := Lib.hid (And.intro h7 hr0)
                    clear h7 hr0
                    go_wp2_with fail
                    go_meet
                    exact ⟨by rw [HVE.out, HTD.out]; simp [H7.out.1, H7.out.2]; exact Nat.pos_of_ne_zero H7.out.2, HB3.out⟩
            · obtain rfl := HX0.out hx
              clear hx
              go_wp2_with fail
              refine hV.mono ?_
              rintro y w3 ⟨rfl, hb3⟩
              have HB3 := Lib.hid (HBC.out.trans (hb3.mono HBC.out.size))
              clear d0 d1 d2 d3 d4 d5 d6 d7 d8 d9 d10
              obtain ⟨d0, d1, d2, d3, d4, d5, d6, d7, d8, d9, d10⟩ := HK.out _ HB3.out
              clear hb3
              cases V with
              | false =>
                go_wp2_with fail
                go_meet
                exact ⟨by rw [HVE.out]; simp, HB3.out⟩
              | true =>
                by_cases h7 : k = 7
                · subst h7
                  go_wp2_with fail
                  go_meet
                  exact ⟨by rw [HVE.out, HTD.out]; simp, HB3.out⟩
                · have h7I : (k != 7) = true := by simp; exact h7
                  by_cases hr0 : rl = 0
                  · subst hr0
                    have H7 := Lib.hid h7
                    clear h7
                    go_wp2_with fail
                    go_meet
                    exact ⟨by rw [HVE.out, HTD.out]; simp, HB3.out⟩
                  · have hrI : (0 : Int) < (rl : Int) := by omega
                    have H7 := Lib.hid (And.intro h7 hr0)
                    clear h7 hr0
                    go_wp2_with fail
                    go_meet
                    exact ⟨by rw [HVE.out, HTD.out]; simp [H7.out.1, H7.out.2]; exact Nat.pos_of_ne_zero H7.out.2, HB3.out⟩
      case rest =>
        obtain ⟨rfl, hbd⟩ := hcut
        obtain ⟨P, hP⟩ : ∃ P, (num && (T || decide (x.size = 0)) && Lib.validD x.data.toList && (decide (k = 7) || decide (raw.size = 0))) = P := ⟨_, rfl⟩
        have HP := Lib.hid hP
        have HBD := Lib.hid (HB.out _ hbd)
        clear d0 d1 d2 d3 d4 d5 d6 d7 d8 d9 d10
        obtain ⟨d0, d1, d2, d3, d4, d5, d6, d7, d8, d9, d10⟩ := HK.out _ hbd
        obtain ⟨rl, hrl⟩ : ∃ r, raw.size = r := ⟨_, rfl⟩
        rw [hrl] at d9
        have hcv : (!(num && (T || decide (x.size = 0)) && Lib.validD x.data.toList && (decide (k = 7) || decide (raw.size = 0)))) = !P := by rw [hP]
        rw [hcv]
        clear hP hbd KV HTB HBC hrl hcv
        cases P with
        | false =>
          go_wp2_with fail
          go_ret
          exact ⟨by rw [HTX.out, HP.out]; simp, HBD.out⟩
        | true =>
          by_cases h8 : k = 8
          · subst h8
            by_cases hz : kn = 0
            · subst hz
              by_cases hl : n = 2
              · subst hl
                go_wp2_with fail
                go_ret
                exact ⟨by rw [HTX.out, HP.out]; simp [Tr.own], HBD.out⟩
              · have hlI : ((n : Int) == 2) = false := by simp; omega
                have HL := Lib.hid hl
                clear hl
                go_wp2_with fail
                go_ret
                exact ⟨by rw [HTX.out, HP.out]; simp [Tr.own, HL.out], HBD.out⟩
            · have hzI : (kn == 0) = false := by simp; exact hz
              have HZ := Lib.hid hz
              clear hz
              go_wp2_with fail
              go_ret
              exact ⟨by rw [HTX.out, HP.out]; simp [Tr.own, HZ.out], HBD.out⟩
          · have h8I : (k == 8) = false := by simp; exact h8
            by_cases h9 : k = 9
            · subst h9
              clear h8
              by_cases hz : kn = 0
              · subst hz
                go_wp2_with fail
                go_ret
                exact ⟨by rw [HTX.out, HP.out]; simp [Tr.own], HBD.out⟩
              · have hzI : (kn == 0) = false := by simp; exact hz
                have HZ := Lib.hid hz
                clear hz
                go_wp2_with fail
                go_ret
                exact ⟨by rw [HTX.out, HP.out]; simp [Tr.own, HZ.out], HBD.out⟩
            · have h9I : (k == 9) = false := by simp; exact h9
              by_cases h2 : k = 2
              · subst h2
                clear h8 h9
                by_cases hz : kn = 0 ∨ kn = 1
                · have hzd : (kn / 2 == 0) = true := by rcases hz with rfl | rfl <;> rfl
                  have hze : kn / 2 = 0 := by rcases hz with rfl | rfl <;> rfl
                  have HZ := Lib.hid hz
                  clear hz
                  by_cases hl : n = 0
                  · subst hl
                    go_wp2_with fail
                    go_ret
                    exact ⟨by rw [HTX.out, HP.out]; rcases HZ.out with h | h <;> simp [Tr.own, h], HBD.out⟩
                  · have hlI : ((n : Int) == 0) = false := by simp; omega
                    have HL := Lib.hid hl
                    clear hl
                    go_wp2_with fail
                    go_ret
                    exact ⟨by rw [HTX.out, HP.out]; simp [Tr.own, HL.out], HBD.out⟩
                · have hzd : (kn / 2 == 0) = false := by simp; omega
                  have hze : ¬ kn / 2 = 0 := by omega
                  have HZ := Lib.hid hz
                  clear hz
                  go_wp2_with fail
                  go_ret
                  exact ⟨by rw [HTX.out, HP.out]; have := HZ.out; simp [Tr.own]; omega, HBD.out⟩
              · have h2I : (k == 2) = false := by simp; exact h2
                by_cases h4 : k = 4
                · subst h4
                  clear h8 h9 h2
                  have KC := fun w => Tr.IsChar_any kn w
                  obtain ⟨C, hC⟩ : ∃ C, Tr.isChar kn = C := ⟨_, rfl⟩
                  rw [hC] at KC
                  have HC := Lib.hid hC
                  clear hC
                  cases C with
                  | false =>
                    go_wp2_with fail
                    refine (KC _).mono ?_
                    rintro y w5 ⟨rfl, hw5⟩
                    subst hw5
                    go_wp2_with fail
                    go_ret
                    exact ⟨by rw [HTX.out, HP.out]; simp [Tr.own, HC.out], HBD.out⟩
                  | true =>
                    by_cases hl : n = 0
                    · subst hl
                      go_wp2_with fail
                      refine (KC _).mono ?_
                      rintro y w5 ⟨rfl, hw5⟩
                      subst hw5
                      go_wp2_with fail
                      go_ret
                      exact ⟨by rw [HTX.out, HP.out]; simp [Tr.own, HC.out], HBD.out⟩
                    · have hlI : ((n : Int) == 0) = false := by simp; omega
                      have HL := Lib.hid hl
                      clear hl
                      go_wp2_with fail
                      refine (KC _).mono ?_
                      rintro y w5 ⟨rfl, hw5⟩
                      subst hw5
                      go_wp2_with fail
                      go_ret
                      exact ⟨by rw [HTX.out, HP.out]; simp [Tr.own, HL.out], HBD.out⟩
                · have h4I : (k == 4) = false := by simp; exact h4
                  have HKN := Lib.hid (And.intro h8 (And.intro h9 (And.intro h2 h4)))
                  clear h8 h9 h2 h4
                  by_cases hk1' : 1 ≤ k
                  · by_cases hk11 : k ≤ 11
                    · by_cases hz : kn = 0
                      · subst hz
                        by_cases hl : n = 0
                        · subst hl
                          go_wp2_with fail
                          go_ret
                          exact ⟨by rw [HTX.out, HP.out]; simp [Tr.own, HKN.out.1, HKN.out.2.1, HKN.out.2.2.1, HKN.out.2.2.2, hk1', hk11], HBD.out⟩
                        · have hlI : ((n : Int) == 0) = false := by simp; omega
                          have HL := Lib.hid hl
                          clear hl
                          go_wp2_with fail
                          go_ret
                          exact ⟨by rw [HTX.out, HP.out]; simp [Tr.own, HKN.out.1, HKN.out.2.1, HKN.out.2.2.1, HKN.out.2.2.2, HL.out], HBD.out⟩
                      · have hzI : (kn == 0) = false := by simp; exact hz
                        have HZ := Lib.hid hz
                        clear hz
                        go_wp2_with fail
                        go_ret
                        exact ⟨by rw [HTX.out, HP.out]; simp [Tr.own, HKN.out.1, HKN.out.2.1, HKN.out.2.2.1, HKN.out.2.2.2, HZ.out], HBD.out⟩
                    · go_wp2_with fail
                      go_ret
                      exact ⟨by simp [Tr.own, HKN.out.1, HKN.out.2.1, HKN.out.2.2.1, HKN.out.2.2.2]; intros; omega, HBD.out⟩
                  · go_wp2_with fail
                    go_ret
                    exact ⟨by simp [Tr.own, HKN.out.1, HKN.out.2.1, HKN.out.2.2.1, HKN.out.2.2.2]; intros; omega, HBD.out⟩
end Go.Proofs.YtaepjlghdjcdnaaDoor
