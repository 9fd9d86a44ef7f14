/-
  The reference's shape of a node of kind 9.
  The reference's shape of a node of kind 10.
  The reference's shape of a node of kind 11.
  The reference's shape of any node.
  Data whose texts are short.
-/
import Derived.Test.YtikmebkfdpbidaaGreatDoorPf
import Derived.Test.YtikmebkfdpbidaaGreatDoorPd
namespace Go.Proofs.YtikmebkfdpbidaaGreatDoor
open Go.RowKit
set_option linter.unusedVariables false
set_option linter.unusedSimpArgs false

set_option maxHeartbeats 1000000 in
set_option maxRecDepth 1000000 in
theorem Rd.shape9 (N : Int) (s1 s2 : Bool) (t1 b1 t2 b2 : List Nat) (x raw : ByteArray) (n : Nat) (a3 a4 a6 a7 a9 a10 : Option Addr) (c3 c4 c6 c7 c9 c10 : Nat) (w : World) (hx : x.size ≤ 1048576)
    (i3 : Nt.In w (.slice a3 t1.length c3) t1) (i4 : Nt.In w (.slice a4 b1.length c4) b1) (i6 : Nt.In w (.slice a6 t2.length c6) t2) (i7 : Nt.In w (.slice a7 b2.length c7) b2) (ok1 : Rt.GOk t1 b1) (ok2 : Rt.GOk t2 b2) :
    Calls Tryz.prog 75 #[.agg #[.int .i64 9, .int .i64 N, .bool s1, .slice a3 t1.length c3, .slice a4 b1.length c4, .bool s2, .slice a6 t2.length c6, .slice a7 b2.length c7, .string x, .slice a9 raw.size c9, .slice a10 n c10]] w fun e w' => e = .returned (.bool (Tr.Hd.shape ⟨9, N, s1, t1, b1, s2, t2, b2, x, raw⟩ n)) ∧ Below w.heap.size w w' := by
  obtain ⟨R, hR⟩ : ∃ z, z = Tr.Hd.shape ⟨9, N, s1, t1, b1, s2, t2, b2, x, raw⟩ n := ⟨_, rfl⟩
  rw [← hR]
  have HR := Lib.hid hR
  have hb0 : Below w.heap.size w (w.alloc (.cells #[.int .i64 9, .int .i64 N, .bool s1, .slice a3 t1.length c3, .slice a4 b1.length c4, .bool s2, .slice a6 t2.length c6, .slice a7 b2.length c7, .string x, .slice a9 raw.size c9, .slice a10 n c10] 30)) := (Below.refl _ _).alloc (Nat.le_refl _) _
  have hq0 : (w.alloc (.cells #[.int .i64 9, .int .i64 N, .bool s1, .slice a3 t1.length c3, .slice a4 b1.length c4, .bool s2, .slice a6 t2.length c6, .slice a7 b2.length c7, .string x, .slice a9 raw.size c9, .slice a10 n c10] 30)).heap[w.heap.size]? = some (.cells #[.int .i64 9, .int .i64 N, .bool s1, .slice a3 t1.length c3, .slice a4 b1.length c4, .bool s2, .slice a6 t2.length c6, .slice a7 b2.length c7, .string x, .slice a9 raw.size c9, .slice a10 n c10] 30 (0, 0)) := heap_alloc_new w _
  have hz0 : (w.alloc (.cells #[.int .i64 9, .int .i64 N, .bool s1, .slice a3 t1.length c3, .slice a4 b1.length c4, .bool s2, .slice a6 t2.length c6, .slice a7 b2.length c7, .string x, .slice a9 raw.size c9, .slice a10 n c10] 30)).heap.size = w.heap.size + 1 := by simp
  have HF : Hid (∀ w', Below (w.heap.size + 1) (w.alloc (.cells #[.int .i64 9, .int .i64 N, .bool s1, .slice a3 t1.length c3, .slice a4 b1.length c4, .bool s2, .slice a6 t2.length c6, .slice a7 b2.length c7, .string x, .slice a9 raw.size c9, .slice a10 n c10] 30)) w' → (∀ j, w'.cell? ⟨w.heap.size, j, none⟩ = (#[.int .i64 9, .int .i64 N, .bool s1, .slice a3 t1.length c3, .slice a4 b1.length c4, .bool s2, .slice a6 t2.length c6, .slice a7 b2.length c7, .string x, .slice a9 raw.size c9, .slice a10 n c10] : Array Value)[j]?) ∧ Below w.heap.size w w') := Lib.hid (fun w' hb => by
    have a0 := (hb.block w.heap.size (Nat.lt_succ_self _)).trans hq0
    exact ⟨fun j => by simp [World.cell?, a0], hb0.trans (hb.mono (Nat.le_succ _))⟩)
  have KV := Ru.valid_any x (w.alloc (.cells #[.int .i64 9, .int .i64 N, .bool s1, .slice a3 t1.length c3, .slice a4 b1.length c4, .bool s2, .slice a6 t2.length c6, .slice a7 b2.length c7, .string x, .slice a9 raw.size c9, .slice a10 n c10] 30)) (by omega)
  rw [hz0] at KV
  have HK1 := Lib.hid (fun w' (hb : Below w.heap.size w w') => Rn.noRat_any s1 t1 b1 _ _ w' (i3.below hb (Nat.le_refl _)) (i4.below hb (Nat.le_refl _)) ok1.l1 ok1.l2)
  have HK2 := Lib.hid (fun w' (hb : Below w.heap.size w w') => Rn.noRat_any s2 t2 b2 _ _ w' (i6.below hb (Nat.le_refl _)) (i7.below hb (Nat.le_refl _)) ok2.l1 ok2.l2)
  clear hb0 hq0 hz0 hR i3 i4 i6 i7 ok1 ok2 hx
  cases hV : Lib.validD x.data.toList
  all_goals
    rw [hV] at KV
    go_enter Tryz.func75, Tryz.ntmps75
    go_wp2_with fail
    refine KV.mono ?_
    rintro z w1 ⟨rfl, hb1⟩
    obtain ⟨d, hbw1⟩ := HF.out w1 hb1
    have d0 := d 0
    have d2 := d 2
    have d3 := d 3
    have d4 := d 4
    have d5 := d 5
    have d6 := d 6
    have d7 := d 7
    have HB1 := Lib.hid (And.intro hb1 hbw1)
    clear hb1 hbw1 d KV
  · have hans : R = false := by
      rw [HR.out]
      simp [Tr.Hd.shape, Tr.Hd.num, Tr.isText, Tr.own, hV]
    have HANS := Lib.hid hans
    clear hans
    go_wp2_with fail
    go_ret
    exact ⟨by rw [HANS.out]; rfl, HB1.out.2⟩
  · cases hS1 : Rt.noRat s1 t1 b1
    all_goals
      have KN := HK1.out w1 HB1.out.2
      rw [hS1] at KN
      go_wp2_with fail
      refine KN.mono ?_
      rintro z w2 ⟨rfl, hb2⟩
      have hb2' := HB1.out.1.trans (hb2.mono (by have := HB1.out.1.size; simp at this; omega))
      obtain ⟨d, hbw2⟩ := HF.out w2 hb2'
      clear d0 d2 d3 d4 d5 d6 d7
      have d0 := d 0
      have d2 := d 2
      have d5 := d 5
      have d6 := d 6
      have d7 := d 7
      have HB2 := Lib.hid (And.intro hb2' hbw2)
      clear hb2 hb2' hbw2 d
      clear KN
    · have hans : R = false := by
        rw [HR.out]
        simp [Tr.Hd.shape, Tr.Hd.num, Tr.isText, Tr.own, hV, hS1]
      have HANS := Lib.hid hans
      clear hans
      go_wp2_with fail
      go_ret
      exact ⟨by rw [HANS.out]; rfl, HB2.out.2⟩
    · cases hS2 : Rt.noRat s2 t2 b2
      all_goals
        have KN := HK2.out w2 HB2.out.2
        rw [hS2] at KN
        go_wp2_with fail
        refine KN.mono ?_
        rintro z w3 ⟨rfl, hb3⟩
        have hb3' := HB2.out.1.trans (hb3.mono (by have := HB2.out.1.size; simp at this; omega))
        obtain ⟨d, hbw3⟩ := HF.out w3 hb3'
        clear d0 d2 d5 d6 d7
        have d0 := d 0
        have d1 := d 1
        have d8 := d 8
        have d9 := d 9
        have d10 := d 10
        have HB3 := Lib.hid (And.intro hb3' hbw3)
        clear hb3 hb3' hbw3 d
        clear KN
      · have hans : R = false := by
          rw [HR.out]
          simp [Tr.Hd.shape, Tr.Hd.num, Tr.isText, Tr.own, hV, hS1, hS2]
        have HANS := Lib.hid hans
        clear hans
        go_wp2_with fail
        go_ret
        exact ⟨by rw [HANS.out]; rfl, HB3.out.2⟩
      · by_cases hxz : x.size = 0
        · have hxl : x.toList = [] := (Rd.empty x).2 hxz
          by_cases hr : raw.size = 0
          · have hr0 : ¬ 0 < raw.size := by omega
            have hrI : ¬ (raw.size : Int) > 0 := by omega
            by_cases hN : N = 0
            · subst hN
              have hans : R = true := by
                rw [HR.out]
                simp [Tr.Hd.shape, Tr.Hd.num, Tr.isText, Tr.own, hV, hS1, hS2, hxz, hr]
              have HANS := Lib.hid hans
              clear hans
              go_wp2_with fail
              go_ret
              exact ⟨by rw [HANS.out]; rfl, HB3.out.2⟩
            · have hNI : (N != 0) = true := by simpa using hN
              have hans : R = false := by
                rw [HR.out]
                simp [Tr.Hd.shape, Tr.Hd.num, Tr.isText, Tr.own, hV, hS1, hS2, hxz, hr, hN]
              have HANS := Lib.hid hans
              clear hans
              go_wp2_with fail
              go_ret
              exact ⟨by rw [HANS.out]; rfl, HB3.out.2⟩
          · have hr0 : 0 < raw.size := by omega
            have hrI : (raw.size : Int) > 0 := by omega
            have hans : R = false := by
              rw [HR.out]
              simp [Tr.Hd.shape, Tr.Hd.num, Tr.isText, Tr.own, hV, hS1, hS2, hxz, hr]
            have HANS := Lib.hid hans
            clear hans
            go_wp2_with fail
            go_ret
            exact ⟨by rw [HANS.out]; rfl, HB3.out.2⟩
        · have hxl : ¬ x.toList = [] := fun e => hxz ((Rd.empty x).1 e)
          have hxe : x.toList.isEmpty = false := by cases hh : x.toList with | nil => exact absurd hh hxl | cons a r => rfl
          have hans : R = false := by
            rw [HR.out]
            simp [Tr.Hd.shape, Tr.Hd.num, Tr.isText, Tr.own, hV, hS1, hS2, hxz]
          have HANS := Lib.hid hans
          clear hans
          go_wp2_with fail
          go_ret
          exact ⟨by rw [HANS.out]; rfl, HB3.out.2⟩
end Go.Proofs.YtikmebkfdpbidaaGreatDoor
namespace Go.Proofs.YtikmebkfdpbidaaGreatDoor
open Go.RowKit
set_option linter.unusedVariables false
set_option linter.unusedSimpArgs false

set_option maxHeartbeats 1000000 in
set_option maxRecDepth 1000000 in
theorem Rd.shape10 (N : Int) (s1 s2 : Bool) (t1 b1 t2 b2 : List Nat) (x raw : ByteArray) (n : Nat) (a3 a4 a6 a7 a9 a10 : Option Addr) (c3 c4 c6 c7 c9 c10 : Nat) (w : World) (hx : x.size ≤ 1048576)
    (i3 : Nt.In w (.slice a3 t1.length c3) t1) (i4 : Nt.In w (.slice a4 b1.length c4) b1) (i6 : Nt.In w (.slice a6 t2.length c6) t2) (i7 : Nt.In w (.slice a7 b2.length c7) b2) (ok1 : Rt.GOk t1 b1) (ok2 : Rt.GOk t2 b2) :
    Calls Tryz.prog 75 #[.agg #[.int .i64 10, .int .i64 N, .bool s1, .slice a3 t1.length c3, .slice a4 b1.length c4, .bool s2, .slice a6 t2.length c6, .slice a7 b2.length c7, .string x, .slice a9 raw.size c9, .slice a10 n c10]] w fun e w' => e = .returned (.bool (Tr.Hd.shape ⟨10, N, s1, t1, b1, s2, t2, b2, x, raw⟩ n)) ∧ Below w.heap.size w w' := by
  obtain ⟨R, hR⟩ : ∃ z, z = Tr.Hd.shape ⟨10, N, s1, t1, b1, s2, t2, b2, x, raw⟩ n := ⟨_, rfl⟩
  rw [← hR]
  have HR := Lib.hid hR
  have hb0 : Below w.heap.size w (w.alloc (.cells #[.int .i64 10, .int .i64 N, .bool s1, .slice a3 t1.length c3, .slice a4 b1.length c4, .bool s2, .slice a6 t2.length c6, .slice a7 b2.length c7, .string x, .slice a9 raw.size c9, .slice a10 n c10] 30)) := (Below.refl _ _).alloc (Nat.le_refl _) _
  have hq0 : (w.alloc (.cells #[.int .i64 10, .int .i64 N, .bool s1, .slice a3 t1.length c3, .slice a4 b1.length c4, .bool s2, .slice a6 t2.length c6, .slice a7 b2.length c7, .string x, .slice a9 raw.size c9, .slice a10 n c10] 30)).heap[w.heap.size]? = some (.cells #[.int .i64 10, .int .i64 N, .bool s1, .slice a3 t1.length c3, .slice a4 b1.length c4, .bool s2, .slice a6 t2.length c6, .slice a7 b2.length c7, .string x, .slice a9 raw.size c9, .slice a10 n c10] 30 (0, 0)) := heap_alloc_new w _
  have hz0 : (w.alloc (.cells #[.int .i64 10, .int .i64 N, .bool s1, .slice a3 t1.length c3, .slice a4 b1.length c4, .bool s2, .slice a6 t2.length c6, .slice a7 b2.length c7, .string x, .slice a9 raw.size c9, .slice a10 n c10] 30)).heap.size = w.heap.size + 1 := by simp
  have HF : Hid (∀ w', Below (w.heap.size + 1) (w.alloc (.cells #[.int .i64 10, .int .i64 N, .bool s1, .slice a3 t1.length c3, .slice a4 b1.length c4, .bool s2, .slice a6 t2.length c6, .slice a7 b2.length c7, .string x, .slice a9 raw.size c9, .slice a10 n c10] 30)) w' → (∀ j, w'.cell? ⟨w.heap.size, j, none⟩ = (#[.int .i64 10, .int .i64 N, .bool s1, .slice a3 t1.length c3, .slice a4 b1.length c4, .bool s2, .slice a6 t2.length c6, .slice a7 b2.length c7, .string x, .slice a9 raw.size c9, .slice a10 n c10] : Array Value)[j]?) ∧ Below w.heap.size w w') := Lib.hid (fun w' hb => by
    have a0 := (hb.block w.heap.size (Nat.lt_succ_self _)).trans hq0
    exact ⟨fun j => by simp [World.cell?, a0], hb0.trans (hb.mono (Nat.le_succ _))⟩)
  have KV := Ru.valid_any x (w.alloc (.cells #[.int .i64 10, .int .i64 N, .bool s1, .slice a3 t1.length c3, .slice a4 b1.length c4, .bool s2, .slice a6 t2.length c6, .slice a7 b2.length c7, .string x, .slice a9 raw.size c9, .slice a10 n c10] 30)) (by omega)
  rw [hz0] at KV
  have HK1 := Lib.hid (fun w' (hb : Below w.heap.size w w') => Rn.noRat_any s1 t1 b1 _ _ w' (i3.below hb (Nat.le_refl _)) (i4.below hb (Nat.le_refl _)) ok1.l1 ok1.l2)
  have HK2 := Lib.hid (fun w' (hb : Below w.heap.size w w') => Rn.noRat_any s2 t2 b2 _ _ w' (i6.below hb (Nat.le_refl _)) (i7.below hb (Nat.le_refl _)) ok2.l1 ok2.l2)
  clear hb0 hq0 hz0 hR i3 i4 i6 i7 ok1 ok2 hx
  cases hV : Lib.validD x.data.toList
  all_goals
    rw [hV] at KV
    go_enter Tryz.func75, Tryz.ntmps75
    go_wp2_with fail
    refine KV.mono ?_
    rintro z w1 ⟨rfl, hb1⟩
    obtain ⟨d, hbw1⟩ := HF.out w1 hb1
    have d0 := d 0
    have d2 := d 2
    have d3 := d 3
    have d4 := d 4
    have d5 := d 5
    have d6 := d 6
    have d7 := d 7
    have HB1 := Lib.hid (And.intro hb1 hbw1)
    clear hb1 hbw1 d KV
  · have hans : R = false := by
      rw [HR.out]
      simp [Tr.Hd.shape, Tr.Hd.num, Tr.isText, Tr.own, hV]
    have HANS := Lib.hid hans
    clear hans
    go_wp2_with fail
    go_ret
    exact ⟨by rw [HANS.out]; rfl, HB1.out.2⟩
  · cases hS1 : Rt.noRat s1 t1 b1
    all_goals
      have KN := HK1.out w1 HB1.out.2
      rw [hS1] at KN
      go_wp2_with fail
      refine KN.mono ?_
      rintro z w2 ⟨rfl, hb2⟩
      have hb2' := HB1.out.1.trans (hb2.mono (by have := HB1.out.1.size; simp at this; omega))
      obtain ⟨d, hbw2⟩ := HF.out w2 hb2'
      clear d0 d2 d3 d4 d5 d6 d7
      have d0 := d 0
      have d2 := d 2
      have d5 := d 5
      have d6 := d 6
      have d7 := d 7
      have HB2 := Lib.hid (And.intro hb2' hbw2)
      clear hb2 hb2' hbw2 d
      clear KN
    · have hans : R = false := by
        rw [HR.out]
        simp [Tr.Hd.shape, Tr.Hd.num, Tr.isText, Tr.own, hV, hS1]
      have HANS := Lib.hid hans
      clear hans
      go_wp2_with fail
      go_ret
      exact ⟨by rw [HANS.out]; rfl, HB2.out.2⟩
    · cases hS2 : Rt.noRat s2 t2 b2
      all_goals
        have KN := HK2.out w2 HB2.out.2
        rw [hS2] at KN
        go_wp2_with fail
        refine KN.mono ?_
        rintro z w3 ⟨rfl, hb3⟩
        have hb3' := HB2.out.1.trans (hb3.mono (by have := HB2.out.1.size; simp at this; omega))
        obtain ⟨d, hbw3⟩ := HF.out w3 hb3'
        clear d0 d2 d5 d6 d7
        have d0 := d 0
        have d1 := d 1
        have d8 := d 8
        have d9 := d 9
        have d10 := d 10
        have HB3 := Lib.hid (And.intro hb3' hbw3)
        clear hb3 hb3' hbw3 d
        clear KN
      · have hans : R = false := by
          rw [HR.out]
          simp [Tr.Hd.shape, Tr.Hd.num, Tr.isText, Tr.own, hV, hS1, hS2]
        have HANS := Lib.hid hans
        clear hans
        go_wp2_with fail
        go_ret
        exact ⟨by rw [HANS.out]; rfl, HB3.out.2⟩
      · by_cases hxz : x.size = 0
        · have hxl : x.toList = [] := (Rd.empty x).2 hxz
          by_cases hr : raw.size = 0
          · have hr0 : ¬ 0 < raw.size := by omega
            have hrI : ¬ (raw.size : Int) > 0 := by omega
            by_cases hN : N = 0
            · subst hN
              by_cases hn : n = 0
              · have hnI : ((n : Int) == 0) = true := by subst hn; rfl
                have hans : R = true := by
                  rw [HR.out]
                  simp [Tr.Hd.shape, Tr.Hd.num, Tr.isText, Tr.own, hV, hS1, hS2, hxz, hr, hn]
                have HANS := Lib.hid hans
                clear hans
                go_wp2_with fail
                go_ret
                exact ⟨by rw [HANS.out]; rfl, HB3.out.2⟩
              · have hnI : ((n : Int) == 0) = false := beq_eq_false_iff_ne.2 (by omega)
                have hans : R = false := by
                  rw [HR.out]
                  simp [Tr.Hd.shape, Tr.Hd.num, Tr.isText, Tr.own, hV, hS1, hS2, hxz, hr, hn]
                have HANS := Lib.hid hans
                clear hans
                go_wp2_with fail
                go_ret
                exact ⟨by rw [HANS.out]; rfl, HB3.out.2⟩
            · have hNI : (N != 0) = true := by simpa using hN
              have hans : R = false := by
                rw [HR.out]
                simp [Tr.Hd.shape, Tr.Hd.num, Tr.isText, Tr.own, hV, hS1, hS2, hxz, hr, hN]
              have HANS := Lib.hid hans
              clear hans
              go_wp2_with fail
              go_ret
              exact ⟨by rw [HANS.out]; rfl, HB3.out.2⟩
          · have hr0 : 0 < raw.size := by omega
            have hrI : (raw.size : Int) > 0 := by omega
            have hans : R = false := by
              rw [HR.out]
              simp [Tr.Hd.shape, Tr.Hd.num, Tr.isText, Tr.own, hV, hS1, hS2, hxz, hr]
            have HANS := Lib.hid hans
            clear hans
            go_wp2_with fail
            go_ret
            exact ⟨by rw [HANS.out]; rfl, HB3.out.2⟩
        · have hxl : ¬ x.toList = [] := fun e => hxz ((Rd.empty x).1 e)
          have hxe : x.toList.isEmpty = false := by cases hh : x.toList with | nil => exact absurd hh hxl | cons a r => rfl
          have hans : R = false := by
            rw [HR.out]
            simp [Tr.Hd.shape, Tr.Hd.num, Tr.isText, Tr.own, hV, hS1, hS2, hxz]
          have HANS := Lib.hid hans
          clear hans
          go_wp2_with fail
          go_ret
          exact ⟨by rw [HANS.out]; rfl, HB3.out.2⟩
end Go.Proofs.YtikmebkfdpbidaaGreatDoor
namespace Go.Proofs.YtikmebkfdpbidaaGreatDoor
open Go.RowKit
set_option linter.unusedVariables false
set_option linter.unusedSimpArgs false

set_option maxHeartbeats 1000000 in
set_option maxRecDepth 1000000 in
theorem Rd.shape11 (N : Int) (s1 s2 : Bool) (t1 b1 t2 b2 : List Nat) (x raw : ByteArray) (n : Nat) (a3 a4 a6 a7 a9 a10 : Option Addr) (c3 c4 c6 c7 c9 c10 : Nat) (w : World) (hx : x.size ≤ 1048576)
    (i3 : Nt.In w (.slice a3 t1.length c3) t1) (i4 : Nt.In w (.slice a4 b1.length c4) b1) (i6 : Nt.In w (.slice a6 t2.length c6) t2) (i7 : Nt.In w (.slice a7 b2.length c7) b2) (ok1 : Rt.GOk t1 b1) (ok2 : Rt.GOk t2 b2) :
    Calls Tryz.prog 75 #[.agg #[.int .i64 11, .int .i64 N, .bool s1, .slice a3 t1.length c3, .slice a4 b1.length c4, .bool s2, .slice a6 t2.length c6, .slice a7 b2.length c7, .string x, .slice a9 raw.size c9, .slice a10 n c10]] w fun e w' => e = .returned (.bool (Tr.Hd.shape ⟨11, N, s1, t1, b1, s2, t2, b2, x, raw⟩ n)) ∧ Below w.heap.size w w' := by
  obtain ⟨R, hR⟩ : ∃ z, z = Tr.Hd.shape ⟨11, N, s1, t1, b1, s2, t2, b2, x, raw⟩ n := ⟨_, rfl⟩
  rw [← hR]
  have HR := Lib.hid hR
  have hb0 : Below w.heap.size w (w.alloc (.cells #[.int .i64 11, .int .i64 N, .bool s1, .slice a3 t1.length c3, .slice a4 b1.length c4, .bool s2, .slice a6 t2.length c6, .slice a7 b2.length c7, .string x, .slice a9 raw.size c9, .slice a10 n c10] 30)) := (Below.refl _ _).alloc (Nat.le_refl _) _
  have hq0 : (w.alloc (.cells #[.int .i64 11, .int .i64 N, .bool s1, .slice a3 t1.length c3, .slice a4 b1.length c4, .bool s2, .slice a6 t2.length c6, .slice a7 b2.length c7, .string x, .slice a9 raw.size c9, .slice a10 n c10] 30)).heap[w.heap.size]? = some (.cells #[.int .i64 11, .int .i64 N, .bool s1, .slice a3 t1.length c3, .slice a4 b1.length c4, .bool s2, .slice a6 t2.length c6, .slice a7 b2.length c7, .string x, .slice a9 raw.size c9, .slice a10 n c10] 30 (0, 0)) := heap_alloc_new w _
  have hz0 : (w.alloc (.cells #[.int .i64 11, .int .i64 N, .bool s1, .slice a3 t1.length c3, .slice a4 b1.length c4, .bool s2, .slice a6 t2.length c6, .slice a7 b2.length c7, .string x, .slice a9 raw.size c9, .slice a10 n c10] 30)).heap.size = w.heap.size + 1 := by simp
  have HF : Hid (∀ w', Below (w.heap.size + 1) (w.alloc (.cells #[.int .i64 11, .int .i64 N, .bool s1, .slice a3 t1.length c3, .slice a4 b1.length c4, .bool s2, .slice a6 t2.length c6, .slice a7 b2.length c7, .string x, .slice a9 raw.size c9, .slice a10 n c10] 30)) w' → (∀ j, w'.cell? ⟨w.heap.size, j, none⟩ = (#[.int .i64 11, .int .i64 N, .bool s1, .slice a3 t1.length c3, .slice a4 b1.length c4, .bool s2, .slice a6 t2.length c6, .slice a7 b2.length c7, .string x, .slice a9 raw.size c9, .slice a10 n c10] : Array Value)[j]?) ∧ Below w.heap.size w w') := Lib.hid (fun w' hb => by
    have a0 := (hb.block w.heap.size (Nat.lt_succ_self _)).trans hq0
    exact ⟨fun j => by simp [World.cell?, a0], hb0.trans (hb.mono (Nat.le_succ _))⟩)
  have KV := Ru.valid_any x (w.alloc (.cells #[.int .i64 11, .int .i64 N, .bool s1, .slice a3 t1.length c3, .slice a4 b1.length c4, .bool s2, .slice a6 t2.length c6, .slice a7 b2.length c7, .string x, .slice a9 raw.size c9, .slice a10 n c10] 30)) (by omega)
  rw [hz0] at KV
  have HK1 := Lib.hid (fun w' (hb : Below w.heap.size w w') => Rn.noRat_any s1 t1 b1 _ _ w' (i3.below hb (Nat.le_refl _)) (i4.below hb (Nat.le_refl _)) ok1.l1 ok1.l2)
  have HK2 := Lib.hid (fun w' (hb : Below w.heap.size w w') => Rn.noRat_any s2 t2 b2 _ _ w' (i6.below hb (Nat.le_refl _)) (i7.below hb (Nat.le_refl _)) ok2.l1 ok2.l2)
  clear hb0 hq0 hz0 hR i3 i4 i6 i7 ok1 ok2 hx
  cases hV : Lib.validD x.data.toList
  all_goals
    rw [hV] at KV
    go_enter Tryz.func75, Tryz.ntmps75
    go_wp2_with fail
    refine KV.mono ?_
    rintro z w1 ⟨rfl, hb1⟩
    obtain ⟨d, hbw1⟩ := HF.out w1 hb1
    have d0 := d 0
    have d2 := d 2
    have d3 := d 3
    have d4 := d 4
    have d5 := d 5
    have d6 := d 6
    have d7 := d 7
    have HB1 := Lib.hid (And.intro hb1 hbw1)
    clear hb1 hbw1 d KV
  · have hans : R = false := by
      rw [HR.out]
      simp [Tr.Hd.shape, Tr.Hd.num, Tr.isText, Tr.own, hV]
    have HANS := Lib.hid hans
    clear hans
    go_wp2_with fail
    go_ret
    exact ⟨by rw [HANS.out]; rfl, HB1.out.2⟩
  · cases hS1 : Rt.noRat s1 t1 b1
    all_goals
      have KN := HK1.out w1 HB1.out.2
      rw [hS1] at KN
      go_wp2_with fail
      refine KN.mono ?_
      rintro z w2 ⟨rfl, hb2⟩
      have hb2' := HB1.out.1.trans (hb2.mono (by have := HB1.out.1.size; simp at this; omega))
      obtain ⟨d, hbw2⟩ := HF.out w2 hb2'
      clear d0 d2 d3 d4 d5 d6 d7
      have d0 := d 0
      have d2 := d 2
      have d5 := d 5
      have d6 := d 6
      have d7 := d 7
      have HB2 := Lib.hid (And.intro hb2' hbw2)
      clear hb2 hb2' hbw2 d
      clear KN
    · have hans : R = false := by
        rw [HR.out]
        simp [Tr.Hd.shape, Tr.Hd.num, Tr.isText, Tr.own, hV, hS1]
      have HANS := Lib.hid hans
      clear hans
      go_wp2_with fail
      go_ret
      exact ⟨by rw [HANS.out]; rfl, HB2.out.2⟩
    · cases hS2 : Rt.noRat s2 t2 b2
      all_goals
        have KN := HK2.out w2 HB2.out.2
        rw [hS2] at KN
        go_wp2_with fail
        refine KN.mono ?_
        rintro z w3 ⟨rfl, hb3⟩
        have hb3' := HB2.out.1.trans (hb3.mono (by have := HB2.out.1.size; simp at this; omega))
        obtain ⟨d, hbw3⟩ := HF.out w3 hb3'
        clear d0 d2 d5 d6 d7
        have d0 := d 0
        have d1 := d 1
        have d8 := d 8
        have d9 := d 9
        have d10 := d 10
        have HB3 := Lib.hid (And.intro hb3' hbw3)
        clear hb3 hb3' hbw3 d
        clear KN
      · have hans : R = false := by
          rw [HR.out]
          simp [Tr.Hd.shape, Tr.Hd.num, Tr.isText, Tr.own, hV, hS1, hS2]
        have HANS := Lib.hid hans
        clear hans
        go_wp2_with fail
        go_ret
        exact ⟨by rw [HANS.out]; rfl, HB3.out.2⟩
      · by_cases hxz : x.size = 0
        · have hxl : x.toList = [] := (Rd.empty x).2 hxz
          by_cases hr : raw.size = 0
          · have hr0 : ¬ 0 < raw.size := by omega
            have hrI : ¬ (raw.size : Int) > 0 := by omega
            by_cases hN : N = 0
            · subst hN
              by_cases hn : n = 0
              · have hnI : ((n : Int) == 0) = true := by subst hn; rfl
                have hans : R = true := by
                  rw [HR.out]
                  simp [Tr.Hd.shape, Tr.Hd.num, Tr.isText, Tr.own, hV, hS1, hS2, hxz, hr, hn]
                have HANS := Lib.hid hans
                clear hans
                go_wp2_with fail
                go_ret
                exact ⟨by rw [HANS.out]; rfl, HB3.out.2⟩
              · have hnI : ((n : Int) == 0) = false := beq_eq_false_iff_ne.2 (by omega)
                have hans : R = false := by
                  rw [HR.out]
                  simp [Tr.Hd.shape, Tr.Hd.num, Tr.isText, Tr.own, hV, hS1, hS2, hxz, hr, hn]
                have HANS := Lib.hid hans
                clear hans
                go_wp2_with fail
                go_ret
                exact ⟨by rw [HANS.out]; rfl, HB3.out.2⟩
            · have hNI : (N != 0) = true := by simpa using hN
              have hans : R = false := by
                rw [HR.out]
                simp [Tr.Hd.shape, Tr.Hd.num, Tr.isText, Tr.own, hV, hS1, hS2, hxz, hr, hN]
              have HANS := Lib.hid hans
              clear hans
              go_wp2_with fail
              go_ret
              exact ⟨by rw [HANS.out]; rfl, HB3.out.2⟩
          · have hr0 : 0 < raw.size := by omega
            have hrI : (raw.size : Int) > 0 := by omega
            have hans : R = false := by
              rw [HR.out]
              simp [Tr.Hd.shape, Tr.Hd.num, Tr.isText, Tr.own, hV, hS1, hS2, hxz, hr]
            have HANS := Lib.hid hans
            clear hans
            go_wp2_with fail
            go_ret
            exact ⟨by rw [HANS.out]; rfl, HB3.out.2⟩
        · have hxl : ¬ x.toList = [] := fun e => hxz ((Rd.empty x).1 e)
          have hxe : x.toList.isEmpty = false := by cases hh : x.toList with | nil => exact absurd hh hxl | cons a r => rfl
          by_cases hr : raw.size = 0
          · have hr0 : ¬ 0 < raw.size := by omega
            have hrI : ¬ (raw.size : Int) > 0 := by omega
            by_cases hN : N = 0
            · subst hN
              by_cases hn : n = 0
              · have hnI : ((n : Int) == 0) = true := by subst hn; rfl
                have hans : R = true := by
                  rw [HR.out]
                  simp [Tr.Hd.shape, Tr.Hd.num, Tr.isText, Tr.own, hV, hS1, hS2, hxz, hr, hn]
                have HANS := Lib.hid hans
                clear hans
                go_wp2_with fail
                go_ret
                exact ⟨by rw [HANS.out]; rfl, HB3.out.2⟩
              · have hnI : ((n : Int) == 0) = false := beq_eq_false_iff_ne.2 (by omega)
                have hans : R = false := by
                  rw [HR.out]
                  simp [Tr.Hd.shape, Tr.Hd.num, Tr.isText, Tr.own, hV, hS1, hS2, hxz, hr, hn]
                have HANS := Lib.hid hans
                clear hans
                go_wp2_with fail
                go_ret
                exact ⟨by rw [HANS.out]; rfl, HB3.out.2⟩
            · have hNI : (N != 0) = true := by simpa using hN
              have hans : R = false := by
                rw [HR.out]
                simp [Tr.Hd.shape, Tr.Hd.num, Tr.isText, Tr.own, hV, hS1, hS2, hxz, hr, hN]
              have HANS := Lib.hid hans
              clear hans
              go_wp2_with fail
              go_ret
              exact ⟨by rw [HANS.out]; rfl, HB3.out.2⟩
          · have hr0 : 0 < raw.size := by omega
            have hrI : (raw.size : Int) > 0 := by omega
            have hans : R = false := by
              rw [HR.out]
              simp [Tr.Hd.shape, Tr.Hd.num, Tr.isText, Tr.own, hV, hS1, hS2, hxz, hr]
            have HANS := Lib.hid hans
            clear hans
            go_wp2_with fail
            go_ret
            exact ⟨by rw [HANS.out]; rfl, HB3.out.2⟩
end Go.Proofs.YtikmebkfdpbidaaGreatDoor
namespace Go.Proofs.YtikmebkfdpbidaaGreatDoor
open Go.RowKit
set_option linter.unusedVariables false
set_option linter.unusedSimpArgs false

set_option maxHeartbeats 1000000 in
set_option maxRecDepth 1000000 in
theorem Rd.shape_out (k : Int) (hk : k < 1 ∨ k > 11) (N : Int) (s1 s2 : Bool) (v3 v4 v6 v7 v9 v10 : Value) (x : ByteArray) (w : World) :
    Calls Tryz.prog 75 #[.agg #[.int .i64 k, .int .i64 N, .bool s1, v3, v4, .bool s2, v6, v7, .string x, v9, v10]] w fun e w' => e = .returned (.bool false) ∧ Below w.heap.size w w' := by
  have HB : Hid (∀ o, Below w.heap.size w (w.alloc o)) := Lib.hid (fun o => (Below.refl _ _).alloc (Nat.le_refl _) _)
  rcases hk with hk | hk
  · go_enter Tryz.func75, Tryz.ntmps75
    go_wp2_with fail
    go_ret
    exact ⟨rfl, HB.out _⟩
  · have hk1 : ¬ k < 1 := by omega
    go_enter Tryz.func75, Tryz.ntmps75
    go_wp2_with fail
    go_ret
    exact ⟨rfl, HB.out _⟩
theorem Rd.shape_any (h : Tr.Hd) (n : Nat) (v3 v4 v6 v7 v9 : Value) (a10 : Option Addr) (c10 : Nat) (S : Nat → Prop) (w : World) (hI : Tr.Hd.In w S h v3 v4 v6 v7 v9) (hx : h.x.size ≤ 1048576) :
    Calls Tryz.prog 75 #[.agg (Tr.cells h v3 v4 v6 v7 v9 (.slice a10 n c10))] w fun e w' => e = .returned (.bool (h.shape n)) ∧ Below w.heap.size w w' := by
  obtain ⟨ok, i3, i4, i6, i7, i9, _, _, _, _, _⟩ := hI
  obtain ⟨a3, c3, rfl⟩ := i3.slice
  obtain ⟨a4, c4, rfl⟩ := i4.slice
  obtain ⟨a6, c6, rfl⟩ := i6.slice
  obtain ⟨a7, c7, rfl⟩ := i7.slice
  obtain ⟨a9, c9, rfl⟩ := i9.slice
  have ok1 : Rt.GOk h.t1 h.b1 := ⟨ok.w1, ok.w2, ok.l1, ok.l2⟩
  have ok2 : Rt.GOk h.t2 h.b2 := ⟨ok.w3, ok.w4, ok.l3, ok.l4⟩
  clear ok i9
  obtain ⟨k, N, s1, t1, b1, s2, t2, b2, x, raw⟩ := h
  unfold Tr.cells
  dsimp only at *
  by_cases hk : k < 1 ∨ k > 11
  · have hs : Tr.Hd.shape ⟨k, N, s1, t1, b1, s2, t2, b2, x, raw⟩ n = false := by
      have h1 : Tr.own k N n = false := by
        unfold Tr.own
        rw [if_neg (by omega), if_neg (by omega), if_neg (by omega), if_neg (by omega)]
        rcases hk with hk | hk
        · rw [decide_eq_false (show ¬ 1 ≤ k by omega)]; rfl
        · rw [decide_eq_false (show ¬ k ≤ 11 by omega)]; simp
      unfold Tr.Hd.shape
      dsimp only
      rw [h1]
      simp
    rw [hs]
    exact Rd.shape_out k hk N s1 s2 _ _ _ _ _ _ x w
  · rcases (show k = 1 ∨ k = 2 ∨ k = 3 ∨ k = 4 ∨ k = 5 ∨ k = 6 ∨ k = 7 ∨ k = 8 ∨ k = 9 ∨ k = 10 ∨ k = 11 by omega) with rfl | rfl | rfl | rfl | rfl | rfl | rfl | rfl | rfl | rfl | rfl
    · exact Rd.shape1 N s1 s2 t1 b1 t2 b2 x raw n a3 a4 a6 a7 a9 a10 c3 c4 c6 c7 c9 c10 w hx i3 i4 i6 i7 ok1 ok2
    · exact Rd.shape2 N s1 s2 t1 b1 t2 b2 x raw n a3 a4 a6 a7 a9 a10 c3 c4 c6 c7 c9 c10 w hx i3 i4 i6 i7 ok1 ok2
    · exact Rd.shape3 N s1 s2 t1 b1 t2 b2 x raw n a3 a4 a6 a7 a9 a10 c3 c4 c6 c7 c9 c10 w hx i3 i4 i6 i7 ok1 ok2
    · exact Rd.shape4 N s1 s2 t1 b1 t2 b2 x raw n a3 a4 a6 a7 a9 a10 c3 c4 c6 c7 c9 c10 w hx i3 i4 i6 i7 ok1 ok2
    · exact Rd.shape5 N s1 s2 t1 b1 t2 b2 x raw n a3 a4 a6 a7 a9 a10 c3 c4 c6 c7 c9 c10 w hx i3 i4 i6 i7 ok1 ok2
    · exact Rd.shape6 N s1 s2 t1 b1 t2 b2 x raw n a3 a4 a6 a7 a9 a10 c3 c4 c6 c7 c9 c10 w hx i3 i4 i6 i7 ok1 ok2
    · exact Rd.shape7 N s1 s2 t1 b1 t2 b2 x raw n a3 a4 a6 a7 a9 a10 c3 c4 c6 c7 c9 c10 w hx i3 i4 i6 i7 ok1 ok2
    · exact Rd.shape8 N s1 s2 t1 b1 t2 b2 x raw n a3 a4 a6 a7 a9 a10 c3 c4 c6 c7 c9 c10 w hx i3 i4 i6 i7 ok1 ok2
    · exact Rd.shape9 N s1 s2 t1 b1 t2 b2 x raw n a3 a4 a6 a7 a9 a10 c3 c4 c6 c7 c9 c10 w hx i3 i4 i6 i7 ok1 ok2
    · exact Rd.shape10 N s1 s2 t1 b1 t2 b2 x raw n a3 a4 a6 a7 a9 a10 c3 c4 c6 c7 c9 c10 w hx i3 i4 i6 i7 ok1 ok2
    · exact Rd.shape11 N s1 s2 t1 b1 t2 b2 x raw n a3 a4 a6 a7 a9 a10 c3 c4 c6 c7 c9 c10 w hx i3 i4 i6 i7 ok1 ok2
end Go.Proofs.YtikmebkfdpbidaaGreatDoor
namespace Go.Proofs.YtikmebkfdpbidaaGreatDoor
open Go.RowKit
set_option linter.unusedVariables false

mutual
/-- Each text is short enough. -/
def Tr.txt : Tr → Prop
  | .mk h l => h.x.size ≤ 1048576 ∧ Tr.txtL l
def Tr.txtL : List Tr → Prop
  | [] => True
  | t :: ts => Tr.txt t ∧ Tr.txtL ts
end
theorem Tr.txt_mk {h : Tr.Hd} {l : List Tr} : Tr.txt (.mk h l) ↔ h.x.size ≤ 1048576 ∧ Tr.txtL l := by rw [Tr.txt]
theorem Tr.txtL_cons {t : Tr} {ts : List Tr} : Tr.txtL (t :: ts) ↔ Tr.txt t ∧ Tr.txtL ts := by rw [Tr.txtL]
theorem Tr.txtL_at : ∀ {l : List Tr}, Tr.txtL l → ∀ {k : Nat} {t : Tr}, l[k]? = some t → Tr.txt t
  | a :: r, h, 0, t, e => by
    simp only [List.getElem?_cons_zero, Option.some.injEq] at e
    subst e
    exact (Tr.txtL_cons.1 h).1
  | a :: r, h, k + 1, t, e => by
    simp only [List.getElem?_cons_succ] at e
    exact Tr.txtL_at (Tr.txtL_cons.1 h).2 e
theorem Tr.txtL_nil : Tr.txtL [] := by first | (rw [Tr.txtL]; trivial) | rw [Tr.txtL] | simp [Tr.txtL]
theorem Tr.txtL_of : ∀ {l : List Tr}, (∀ (k : Nat) (t : Tr), l[k]? = some t → Tr.txt t) → Tr.txtL l
  | [], _ => Tr.txtL_nil
  | a :: r, h => Tr.txtL_cons.2 ⟨h 0 a rfl, Tr.txtL_of (fun k t e => h (k + 1) t (by simpa using e))⟩
end Go.Proofs.YtikmebkfdpbidaaGreatDoor
