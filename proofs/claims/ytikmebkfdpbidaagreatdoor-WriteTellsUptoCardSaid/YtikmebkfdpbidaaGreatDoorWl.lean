/-
  The reference's Units of a text, and valid.
  An empty text, in two ways.
  The reference's shape of a node of kind 1.
  The reference's shape of a node of kind 2.
  The reference's shape of a node of kind 3.
  The reference's shape of a node of kind 4.
  The reference's shape of a node of kind 5.
  The reference's shape of a node of kind 6.
  The reference's shape of a node of kind 7.
  The reference's shape of a node of kind 8.
  The reference's shape of a node of kind 9.
  The reference's shape of a node of kind 10.
  The reference's shape of a node of kind 11.
-/
import Derived.Lib.TrimUEq
import Derived.Lib.ValidLaws
import Derived.Lib.ConvBytes
import Derived.Deep.LoopGhost
import Derived.Test.YtikmebkfdpbidaaGreatDoorCdRefUtf8W
import Derived.Test.YtikmebkfdpbidaaGreatDoorWf
import Derived.Test.YtikmebkfdpbidaaGreatDoorWc
namespace Go.Proofs.YtikmebkfdpbidaaGreatDoor
open Go.RowKit
set_option linter.unusedVariables false
set_option linter.unusedSimpArgs false

def Ru.At (w : World) (B : Nat) (v : Value) (us : List (Int × Bool × Int)) : Prop := w.ownsRow B 201 3 v us.length (Cd.cellsU us)
set_option maxHeartbeats 1000000 in
set_option maxRecDepth 1000000 in
theorem Ru.utf8_none (ad : Option Addr) (cap : Nat) (w : World) :
    Calls Tryz.prog 208 #[.slice ad 0 cap] w fun x w' => ∃ v, x = .returned v ∧ Ru.At w' w.heap.size v [] ∧ Below w.heap.size w w' := by
  go_enter Tryz.func208, Tryz.ntmps208
  go_wp2
  refine wp_loop_rounds 1 ?_
  rw [rounds_succ]
  go_wp2
  go_ret
  exact ⟨_, rfl, Cd.own_empty3 w 201, (Below.refl _ _).alloc (Nat.le_refl _) _⟩
/-- Is a text of characters? As its units say. -/
theorem Ru.valid_eq (s : ByteArray) : ∀ n k, s.size - k ≤ n → Lib.validD (s.data.toList.drop k) = (Cd.utf8U s k).all (fun u => u.2.1) := by
  intro n
  induction n with
  | zero =>
    intro k hk
    rw [Cd.utf8U_end s k (by omega), List.drop_of_length_le (by simp; omega)]
    rfl
  | succ n ih =>
    intro k hk
    by_cases h : k < s.size
    · have hne : s.data.toList.drop k ≠ [] := by
        intro e
        have := congrArg List.length e
        simp at this
        omega
      have hw := Lib.width_pos s k
      rw [Lib.validD_step _ hne, Lib.decodeL_drop, List.drop_drop, Cd.utf8U_one s k h, List.all_cons, ← ih (k + (Utf8.decode s k).2) (by omega)]
      by_cases hc : (Utf8.decode s k).1 = 65533 ∧ (Utf8.decode s k).2 = 1
      · rw [if_pos hc, decide_eq_false (by omega)]
        rfl
      · rw [if_neg hc, decide_eq_true (by omega)]
        simp
    · rw [Cd.utf8U_end s k h, List.drop_of_length_le (by simp; omega)]
      rfl
set_option maxHeartbeats 1000000 in
set_option maxRecDepth 1000000 in
theorem Ru.Units_any (s : ByteArray) (a : Option Addr) (n cap : Nat) (w : World) (hs : s.size ≤ 1099511627000) (hn : n = s.size) (hv : 0 < s.size → ∃ b off, a = some ⟨b, off, none⟩ ∧ b < w.heap.size ∧ ∀ j, j < s.size → w.cell? ⟨b, off + j, none⟩ = some (.int .u8 (Cd.byt s j))) :
    Calls Tryz.prog 165 #[.int .i64 1, .slice a n cap] w fun x w' => ∃ v, x = .returned v ∧ Ru.At w' w.heap.size v ((Cd.utf8U s 0).map Cd.refU) ∧ Below w.heap.size w w' := by
  subst hn
  have K : Calls Tryz.prog 208 #[.slice a s.size cap] w fun x w' => ∃ v, x = .returned v ∧ Ru.At w' w.heap.size v ((Cd.utf8U s 0).map Cd.refU) ∧ Below w.heap.size w w' := by
    rcases Nat.eq_zero_or_pos s.size with h0 | h0
    · rw [h0, Cd.utf8U_end s 0 (by omega)]
      exact Ru.utf8_none a cap w
    · obtain ⟨b, off, rfl, hb, hc⟩ := hv h0
      exact Cd.refUtf8_some s w b off cap hs hb hc
  have HK := Lib.hid K
  clear K hv
  generalize (Cd.utf8U s 0).map Cd.refU = us at *
  go_enter Tryz.func165, Tryz.ntmps165
  go_wp2_with fail
  refine HK.out.mono ?_
  rintro x w1 ⟨v1, rfl, ho, hb⟩
  have HO := Lib.hid ho
  have HB := Lib.hid hb
  clear ho hb
  go_wp2
  go_ret
  exact ⟨_, rfl, HO.out, HB.out⟩
theorem Ru.fault : ∀ (us : List (Int × Bool × Int)) (k : Nat) (u : Int × Bool × Int), us[k]? = some u → (Cd.cellsU us)[k * 3 + 1]? = some (.bool u.2.1)
  | a :: r, 0, u, h => by
    simp only [List.getElem?_cons_zero, Option.some.injEq] at h
    subst h
    rfl
  | a :: r, k + 1, u, h => by
    simp only [List.getElem?_cons_succ] at h
    have := Ru.fault r k u h
    rw [show (k + 1) * 3 + 1 = k * 3 + 1 + 3 by omega]
    show (([.int .i32 a.1, .bool a.2.1, .int .i64 a.2.2] : List Value) ++ Cd.cellsU r)[k * 3 + 1 + 3]? = _
    rw [List.getElem?_append_right (by simp)]
    exact this
theorem Ru.answer (s : ByteArray) : ((Cd.utf8U s 0).map Cd.refU).all (fun u => !u.2.1) = Lib.validD s.data.toList := by
  have h := Ru.valid_eq s s.size 0 (by omega)
  rw [List.drop_zero] at h
  rw [h, List.all_map]
  congr 1
  funext u
  unfold Cd.refU
  by_cases hu : u.2.1 = true
  · simp [hu]
  · simp [hu]
set_option maxHeartbeats 1000000 in
set_option maxRecDepth 1000000 in
theorem Ru.valid_any (s : ByteArray) (w : World) (hs : s.size ≤ 1099511627000) :
    Calls Tryz.prog 115 #[.string s] w fun e w' => e = .returned (.bool (Lib.validD s.data.toList)) ∧ Below w.heap.size w w' := by
  have hcv := Lib.run_convert_string_bytes (P := Tryz.prog) w 9 27 5 s (u := .string) Tryz.underlying9 Tryz.underlying27 Tryz.underlying5
  have hbw : Below w.heap.size w (Lib.bytesWorld w 5 s) := ⟨rfl, rfl, rfl, by
    show w.heap.size ≤ (Lib.bytesWorld w 5 s).heap.size
    rcases Nat.lt_or_ge (Lib.bytesWorld w 5 s).heap.size w.heap.size with h | h
    · have := Lib.bytesWorld_at_old w 5 s _ h
      rw [Array.getElem?_eq_none (Nat.le_refl _), Array.getElem?_eq_getElem h] at this
      cases this
    · exact h, fun q hq => Lib.bytesWorld_at_old w 5 s q hq⟩
  have hcl := Lib.bytesWorld_cell w 5 s
  obtain ⟨W1, hW1⟩ : ∃ z, z = Lib.bytesWorld w 5 s := ⟨_, rfl⟩
  rw [← hW1] at hcv hbw hcl
  have hlt : 0 < s.size → w.heap.size < W1.heap.size := fun h0 => by
    have := hcl 0 h0
    rcases Nat.lt_or_ge w.heap.size W1.heap.size with h | h
    · exact h
    · simp [World.cell?, Array.getElem?_eq_none h] at this
  have KU := Ru.Units_any s (some ⟨w.heap.size, 0, none⟩) s.size (grownCap w s.size 0 5) W1 hs rfl (fun h0 => ⟨w.heap.size, 0, rfl, hlt h0, fun j hj => by
    rw [Nat.zero_add]
    have := hcl j hj
    rw [this]
    unfold Cd.byt
    rw [Lib.getD_get!']⟩)
  rw [← Ru.answer s]
  have HBW := Lib.hid hbw
  clear hbw hcl hlt hW1
  generalize (Cd.utf8U s 0).map Cd.refU = us at *
  generalize grownCap w s.size 0 5 = gc at *
  go_enter Tryz.func115, Tryz.ntmps115
  go_wp2_with fail
  refine KU.mono ?_
  rintro x w2 ⟨v2, rfl, ho, hb2⟩
  have HB2 := Lib.hid (HBW.out.trans (hb2.mono HBW.out.size))
  have hform : ∃ a c, v2 = .slice a us.length c := by
    rcases ho.2 with ⟨rfl, h0⟩ | ⟨g, cap, cur, hv, _⟩
    · exact ⟨none, 0, by rw [h0]⟩
    · exact ⟨_, _, hv⟩
  obtain ⟨ga, gcp, rfl⟩ := hform
  have HO : Hid (∀ k u, us[k]? = some u → ∃ g, ga = some ⟨g, 0, none⟩ ∧ w2.cell? ⟨g, k * 3 + 1, none⟩ = some (.bool u.2.1)) := Lib.hid (fun k u hk => by
    have hlt := (List.getElem?_eq_some_iff.1 hk).1
    rcases ho.2 with ⟨_, h0⟩ | ⟨g, cap, cur, hv, _⟩
    · omega
    · simp only [Value.slice.injEq] at hv
      obtain ⟨rfl, _, _⟩ := hv
      have := @World.ownsRow.cells w2 _ _ 3 _ _ _ ho g rfl (k * 3 + 1) _ (Ru.fault us k u hk)
      have hadd : (⟨g, 0, none⟩ : Addr).add (k * 3 + 1) = ⟨g, k * 3 + 1, none⟩ := by unfold Addr.add; split <;> simp_all
      rw [hadd] at this
      exact ⟨g, rfl, this⟩)
  have hlen : us.length ≤ 9223372036854775807 := by
    rcases ho.2 with ⟨_, h0⟩ | ⟨g, cap, cur, hv, _, _, hn, hm, _⟩
    · omega
    · simp only [maxLen] at hm
      omega
  clear ho hb2 KU hcv
  go_wp2_with fail
  go_loopg [4] us.length (fun g i wr => ∃ k : Nat, k + g = us.length ∧ i = .int .i64 k ∧ us.all (fun u => !u.2.1) = (us.drop k).all (fun u => !u.2.1) ∧ wr = w2)
  case atStart => exact ⟨0, by omega, rfl, rfl, rfl⟩
  case round =>
    obtain ⟨k, hkg, rfl, hans, rfl⟩ := hrel
    have HANS := Lib.hid hans
    clear hans
    by_cases hlt : k < us.length
    · obtain ⟨u, hu⟩ : ∃ u, us[k]? = some u := ⟨_, List.getElem?_eq_getElem hlt⟩
      have hd : us.drop k = u :: us.drop (k + 1) := by
        obtain ⟨h1, h2⟩ := List.getElem?_eq_some_iff.1 hu
        rw [List.drop_eq_getElem_cons h1, h2]
      have HD := Lib.hid hd
      obtain ⟨g, rfl, hc⟩ := HO.out k u hu
      clear hu hd
      obtain ⟨ur, uf, up⟩ := u
      cases uf
      · go_wp2_with fail
        go_roundg (gk - 1)
        case measure => omega
        case rel => exact ⟨k + 1, by omega, by first | rfl | go_num | (simp; try omega), by rw [HANS.out, HD.out]; simp, by first | rfl | trivial⟩
      · have hR : us.all (fun u => !u.2.1) = false := by rw [HANS.out, HD.out]; simp
        have HR := Lib.hid hR
        clear hR
        go_wp2_with fail
        go_ret
        exact ⟨by rw [HR.out]; rfl, HB2.out⟩
    · have hk : k = us.length := by omega
      have hR : us.all (fun u => !u.2.1) = true := by rw [HANS.out, hk, List.drop_length]; rfl
      have HR := Lib.hid hR
      clear hR
      go_wp2_with fail
      go_ret
      exact ⟨by rw [HR.out]; rfl, HB2.out⟩
end Go.Proofs.YtikmebkfdpbidaaGreatDoor
namespace Go.Proofs.YtikmebkfdpbidaaGreatDoor
open Go.RowKit
set_option linter.unusedVariables false

theorem Rd.empty (x : ByteArray) : x.toList = [] ↔ x.size = 0 := by
  have h : x.toList.length = x.size := by rw [ByteArray.toList_eq]; simp
  rw [← h]
  exact List.length_eq_zero_iff.symm
end Go.Proofs.YtikmebkfdpbidaaGreatDoor
namespace Go.Proofs.YtikmebkfdpbidaaGreatDoor
open Go.RowKit
set_option linter.unusedVariables false
set_option linter.unusedSimpArgs false

set_option maxHeartbeats 1000000 in
set_option maxRecDepth 1000000 in
theorem Rd.shape1 (N : Int) (s1 s2 : Bool) (t1 b1 t2 b2 : List Nat) (x raw : ByteArray) (n : Nat) (a3 a4 a6 a7 a9 a10 : Option Addr) (c3 c4 c6 c7 c9 c10 : Nat) (w : World) (hx : x.size ≤ 1048576)
    (i3 : Nt.In w (.slice a3 t1.length c3) t1) (i4 : Nt.In w (.slice a4 b1.length c4) b1) (i6 : Nt.In w (.slice a6 t2.length c6) t2) (i7 : Nt.In w (.slice a7 b2.length c7) b2) (ok1 : Rt.GOk t1 b1) (ok2 : Rt.GOk t2 b2) :
    Calls Tryz.prog 75 #[.agg #[.int .i64 1, .int .i64 N, .bool s1, .slice a3 t1.length c3, .slice a4 b1.length c4, .bool s2, .slice a6 t2.length c6, .slice a7 b2.length c7, .string x, .slice a9 raw.size c9, .slice a10 n c10]] w fun e w' => e = .returned (.bool (Tr.Hd.shape ⟨1, N, s1, t1, b1, s2, t2, b2, x, raw⟩ n)) ∧ Below w.heap.size w w' := by
  obtain ⟨R, hR⟩ : ∃ z, z = Tr.Hd.shape ⟨1, N, s1, t1, b1, s2, t2, b2, x, raw⟩ n := ⟨_, rfl⟩
  rw [← hR]
  have HR := Lib.hid hR
  have hb0 : Below w.heap.size w (w.alloc (.cells #[.int .i64 1, .int .i64 N, .bool s1, .slice a3 t1.length c3, .slice a4 b1.length c4, .bool s2, .slice a6 t2.length c6, .slice a7 b2.length c7, .string x, .slice a9 raw.size c9, .slice a10 n c10] 30)) := (Below.refl _ _).alloc (Nat.le_refl _) _
  have hq0 : (w.alloc (.cells #[.int .i64 1, .int .i64 N, .bool s1, .slice a3 t1.length c3, .slice a4 b1.length c4, .bool s2, .slice a6 t2.length c6, .slice a7 b2.length c7, .string x, .slice a9 raw.size c9, .slice a10 n c10] 30)).heap[w.heap.size]? = some (.cells #[.int .i64 1, .int .i64 N, .bool s1, .slice a3 t1.length c3, .slice a4 b1.length c4, .bool s2, .slice a6 t2.length c6, .slice a7 b2.length c7, .string x, .slice a9 raw.size c9, .slice a10 n c10] 30 (0, 0)) := heap_alloc_new w _
  have hz0 : (w.alloc (.cells #[.int .i64 1, .int .i64 N, .bool s1, .slice a3 t1.length c3, .slice a4 b1.length c4, .bool s2, .slice a6 t2.length c6, .slice a7 b2.length c7, .string x, .slice a9 raw.size c9, .slice a10 n c10] 30)).heap.size = w.heap.size + 1 := by simp
  have HF : Hid (∀ w', Below (w.heap.size + 1) (w.alloc (.cells #[.int .i64 1, .int .i64 N, .bool s1, .slice a3 t1.length c3, .slice a4 b1.length c4, .bool s2, .slice a6 t2.length c6, .slice a7 b2.length c7, .string x, .slice a9 raw.size c9, .slice a10 n c10] 30)) w' → (∀ j, w'.cell? ⟨w.heap.size, j, none⟩ = (#[.int .i64 1, .int .i64 N, .bool s1, .slice a3 t1.length c3, .slice a4 b1.length c4, .bool s2, .slice a6 t2.length c6, .slice a7 b2.length c7, .string x, .slice a9 raw.size c9, .slice a10 n c10] : Array Value)[j]?) ∧ Below w.heap.size w w') := Lib.hid (fun w' hb => by
    have a0 := (hb.block w.heap.size (Nat.lt_succ_self _)).trans hq0
    exact ⟨fun j => by simp [World.cell?, a0], hb0.trans (hb.mono (Nat.le_succ _))⟩)
  have KV := Ru.valid_any x (w.alloc (.cells #[.int .i64 1, .int .i64 N, .bool s1, .slice a3 t1.length c3, .slice a4 b1.length c4, .bool s2, .slice a6 t2.length c6, .slice a7 b2.length c7, .string x, .slice a9 raw.size c9, .slice a10 n c10] 30)) (by omega)
  rw [hz0] at KV
  have HK1 := Lib.hid (fun w' (hb : Below w.heap.size w w') => Rn.noRat_any s1 t1 b1 _ _ w' (i3.below hb (Nat.le_refl _)) (i4.below hb (Nat.le_refl _)) ok1.l1 ok1.l2)
  have HK2 := Lib.hid (fun w' (hb : Below w.heap.size w w') => Rn.noRat_any s2 t2 b2 _ _ w' (i6.below hb (Nat.le_refl _)) (i7.below hb (Nat.le_refl _)) ok2.l1 ok2.l2)
  clear hb0 hq0 hz0 hR i3 i4 i6 i7 ok1 ok2 hx
  cases hV : Lib.validD x.data.toList
  all_goals
    rw [hV] at KV
    go_enter Tryz.func75, Tryz.ntmps75
    go_wp2_with fail
    refine KV.mono ?_
    rintro z w1 ⟨rfl, hb1⟩
    obtain ⟨d, hbw1⟩ := HF.out w1 hb1
    have d0 := d 0
    have d2 := d 2
    have d3 := d 3
    have d4 := d 4
    have d5 := d 5
    have d6 := d 6
    have d7 := d 7
    have HB1 := Lib.hid (And.intro hb1 hbw1)
    clear hb1 hbw1 d KV
  · have hans : R = false := by
      rw [HR.out]
      simp [Tr.Hd.shape, Tr.Hd.num, Tr.isText, Tr.own, hV]
    have HANS := Lib.hid hans
    clear hans
    go_wp2_with fail
    go_ret
    exact ⟨by rw [HANS.out]; rfl, HB1.out.2⟩
  · cases hS1 : Rt.noRat s1 t1 b1
    all_goals
      have KN := HK1.out w1 HB1.out.2
      rw [hS1] at KN
      go_wp2_with fail
      refine KN.mono ?_
      rintro z w2 ⟨rfl, hb2⟩
      have hb2' := HB1.out.1.trans (hb2.mono (by have := HB1.out.1.size; simp at this; omega))
      obtain ⟨d, hbw2⟩ := HF.out w2 hb2'
      clear d0 d2 d3 d4 d5 d6 d7
      have d0 := d 0
      have d2 := d 2
      have d5 := d 5
      have d6 := d 6
      have d7 := d 7
      have HB2 := Lib.hid (And.intro hb2' hbw2)
      clear hb2 hb2' hbw2 d
      clear KN
    · have hans : R = false := by
        rw [HR.out]
        simp [Tr.Hd.shape, Tr.Hd.num, Tr.isText, Tr.own, hV, hS1]
      have HANS := Lib.hid hans
      clear hans
      go_wp2_with fail
      go_ret
      exact ⟨by rw [HANS.out]; rfl, HB2.out.2⟩
    · cases hS2 : Rt.noRat s2 t2 b2
      all_goals
        have KN := HK2.out w2 HB2.out.2
        rw [hS2] at KN
        go_wp2_with fail
        refine KN.mono ?_
        rintro z w3 ⟨rfl, hb3⟩
        have hb3' := HB2.out.1.trans (hb3.mono (by have := HB2.out.1.size; simp at this; omega))
        obtain ⟨d, hbw3⟩ := HF.out w3 hb3'
        clear d0 d2 d5 d6 d7
        have d0 := d 0
        have d1 := d 1
        have d8 := d 8
        have d9 := d 9
        have d10 := d 10
        have HB3 := Lib.hid (And.intro hb3' hbw3)
        clear hb3 hb3' hbw3 d
        clear KN
      · have hans : R = false := by
          rw [HR.out]
          simp [Tr.Hd.shape, Tr.Hd.num, Tr.isText, Tr.own, hV, hS1, hS2]
        have HANS := Lib.hid hans
        clear hans
        go_wp2_with fail
        go_ret
        exact ⟨by rw [HANS.out]; rfl, HB3.out.2⟩
      · by_cases hxz : x.size = 0
        · have hxl : x.toList = [] := (Rd.empty x).2 hxz
          by_cases hr : raw.size = 0
          · have hr0 : ¬ 0 < raw.size := by omega
            have hrI : ¬ (raw.size : Int) > 0 := by omega
            by_cases hN : N = 0
            · subst hN
              by_cases hn : n = 0
              · have hnI : ((n : Int) == 0) = true := by subst hn; rfl
                have hans : R = true := by
                  rw [HR.out]
                  simp [Tr.Hd.shape, Tr.Hd.num, Tr.isText, Tr.own, hV, hS1, hS2, hxz, hr, hn]
                have HANS := Lib.hid hans
                clear hans
                go_wp2_with fail
                go_ret
                exact ⟨by rw [HANS.out]; rfl, HB3.out.2⟩
              · have hnI : ((n : Int) == 0) = false := beq_eq_false_iff_ne.2 (by omega)
                have hans : R = false := by
                  rw [HR.out]
                  simp [Tr.Hd.shape, Tr.Hd.num, Tr.isText, Tr.own, hV, hS1, hS2, hxz, hr, hn]
                have HANS := Lib.hid hans
                clear hans
                go_wp2_with fail
                go_ret
                exact ⟨by rw [HANS.out]; rfl, HB3.out.2⟩
            · have hNI : (N != 0) = true := by simpa using hN
              have hans : R = false := by
                rw [HR.out]
                simp [Tr.Hd.shape, Tr.Hd.num, Tr.isText, Tr.own, hV, hS1, hS2, hxz, hr, hN]
              have HANS := Lib.hid hans
              clear hans
              go_wp2_with fail
              go_ret
              exact ⟨by rw [HANS.out]; rfl, HB3.out.2⟩
          · have hr0 : 0 < raw.size := by omega
            have hrI : (raw.size : Int) > 0 := by omega
            have hans : R = false := by
              rw [HR.out]
              simp [Tr.Hd.shape, Tr.Hd.num, Tr.isText, Tr.own, hV, hS1, hS2, hxz, hr]
            have HANS := Lib.hid hans
            clear hans
            go_wp2_with fail
            go_ret
            exact ⟨by rw [HANS.out]; rfl, HB3.out.2⟩
        · have hxl : ¬ x.toList = [] := fun e => hxz ((Rd.empty x).1 e)
          have hxe : x.toList.isEmpty = false := by cases hh : x.toList with | nil => exact absurd hh hxl | cons a r => rfl
          have hans : R = false := by
            rw [HR.out]
            simp [Tr.Hd.shape, Tr.Hd.num, Tr.isText, Tr.own, hV, hS1, hS2, hxz]
          have HANS := Lib.hid hans
          clear hans
          go_wp2_with fail
          go_ret
          exact ⟨by rw [HANS.out]; rfl, HB3.out.2⟩
end Go.Proofs.YtikmebkfdpbidaaGreatDoor
namespace Go.Proofs.YtikmebkfdpbidaaGreatDoor
open Go.RowKit
set_option linter.unusedVariables false
set_option linter.unusedSimpArgs false

set_option maxHeartbeats 1000000 in
set_option maxRecDepth 1000000 in
theorem Rd.shape2 (N : Int) (s1 s2 : Bool) (t1 b1 t2 b2 : List Nat) (x raw : ByteArray) (n : Nat) (a3 a4 a6 a7 a9 a10 : Option Addr) (c3 c4 c6 c7 c9 c10 : Nat) (w : World) (hx : x.size ≤ 1048576)
    (i3 : Nt.In w (.slice a3 t1.length c3) t1) (i4 : Nt.In w (.slice a4 b1.length c4) b1) (i6 : Nt.In w (.slice a6 t2.length c6) t2) (i7 : Nt.In w (.slice a7 b2.length c7) b2) (ok1 : Rt.GOk t1 b1) (ok2 : Rt.GOk t2 b2) :
    Calls Tryz.prog 75 #[.agg #[.int .i64 2, .int .i64 N, .bool s1, .slice a3 t1.length c3, .slice a4 b1.length c4, .bool s2, .slice a6 t2.length c6, .slice a7 b2.length c7, .string x, .slice a9 raw.size c9, .slice a10 n c10]] w fun e w' => e = .returned (.bool (Tr.Hd.shape ⟨2, N, s1, t1, b1, s2, t2, b2, x, raw⟩ n)) ∧ Below w.heap.size w w' := by
  obtain ⟨R, hR⟩ : ∃ z, z = Tr.Hd.shape ⟨2, N, s1, t1, b1, s2, t2, b2, x, raw⟩ n := ⟨_, rfl⟩
  rw [← hR]
  have HR := Lib.hid hR
  have hb0 : Below w.heap.size w (w.alloc (.cells #[.int .i64 2, .int .i64 N, .bool s1, .slice a3 t1.length c3, .slice a4 b1.length c4, .bool s2, .slice a6 t2.length c6, .slice a7 b2.length c7, .string x, .slice a9 raw.size c9, .slice a10 n c10] 30)) := (Below.refl _ _).alloc (Nat.le_refl _) _
  have hq0 : (w.alloc (.cells #[.int .i64 2, .int .i64 N, .bool s1, .slice a3 t1.length c3, .slice a4 b1.length c4, .bool s2, .slice a6 t2.length c6, .slice a7 b2.length c7, .string x, .slice a9 raw.size c9, .slice a10 n c10] 30)).heap[w.heap.size]? = some (.cells #[.int .i64 2, .int .i64 N, .bool s1, .slice a3 t1.length c3, .slice a4 b1.length c4, .bool s2, .slice a6 t2.length c6, .slice a7 b2.length c7, .string x, .slice a9 raw.size c9, .slice a10 n c10] 30 (0, 0)) := heap_alloc_new w _
  have hz0 : (w.alloc (.cells #[.int .i64 2, .int .i64 N, .bool s1, .slice a3 t1.length c3, .slice a4 b1.length c4, .bool s2, .slice a6 t2.length c6, .slice a7 b2.length c7, .string x, .slice a9 raw.size c9, .slice a10 n c10] 30)).heap.size = w.heap.size + 1 := by simp
  have HF : Hid (∀ w', Below (w.heap.size + 1) (w.alloc (.cells #[.int .i64 2, .int .i64 N, .bool s1, .slice a3 t1.length c3, .slice a4 b1.length c4, .bool s2, .slice a6 t2.length c6, .slice a7 b2.length c7, .string x, .slice a9 raw.size c9, .slice a10 n c10] 30)) w' → (∀ j, w'.cell? ⟨w.heap.size, j, none⟩ = (#[.int .i64 2, .int .i64 N, .bool s1, .slice a3 t1.length c3, .slice a4 b1.length c4, .bool s2, .slice a6 t2.length c6, .slice a7 b2.length c7, .string x, .slice a9 raw.size c9, .slice a10 n c10] : Array Value)[j]?) ∧ Below w.heap.size w w') := Lib.hid (fun w' hb => by
    have a0 := (hb.block w.heap.size (Nat.lt_succ_self _)).trans hq0
    exact ⟨fun j => by simp [World.cell?, a0], hb0.trans (hb.mono (Nat.le_succ _))⟩)
  have KV := Ru.valid_any x (w.alloc (.cells #[.int .i64 2, .int .i64 N, .bool s1, .slice a3 t1.length c3, .slice a4 b1.length c4, .bool s2, .slice a6 t2.length c6, .slice a7 b2.length c7, .string x, .slice a9 raw.size c9, .slice a10 n c10] 30)) (by omega)
  rw [hz0] at KV
  have HK1 := Lib.hid (fun w' (hb : Below w.heap.size w w') => Rn.noRat_any s1 t1 b1 _ _ w' (i3.below hb (Nat.le_refl _)) (i4.below hb (Nat.le_refl _)) ok1.l1 ok1.l2)
  have HK2 := Lib.hid (fun w' (hb : Below w.heap.size w w') => Rn.noRat_any s2 t2 b2 _ _ w' (i6.below hb (Nat.le_refl _)) (i7.below hb (Nat.le_refl _)) ok2.l1 ok2.l2)
  clear hb0 hq0 hz0 hR i3 i4 i6 i7 ok1 ok2 hx
  cases hV : Lib.validD x.data.toList
  all_goals
    rw [hV] at KV
    go_enter Tryz.func75, Tryz.ntmps75
    go_wp2_with fail
    refine KV.mono ?_
    rintro z w1 ⟨rfl, hb1⟩
    obtain ⟨d, hbw1⟩ := HF.out w1 hb1
    have d0 := d 0
    have d2 := d 2
    have d3 := d 3
    have d4 := d 4
    have d5 := d 5
    have d6 := d 6
    have d7 := d 7
    have HB1 := Lib.hid (And.intro hb1 hbw1)
    clear hb1 hbw1 d KV
  · have hans : R = false := by
      rw [HR.out]
      simp [Tr.Hd.shape, Tr.Hd.num, Tr.isText, Tr.own, hV]
    have HANS := Lib.hid hans
    clear hans
    go_wp2_with fail
    go_ret
    exact ⟨by rw [HANS.out]; rfl, HB1.out.2⟩
  · cases hS1 : Rt.noRat s1 t1 b1
    all_goals
      have KN := HK1.out w1 HB1.out.2
      rw [hS1] at KN
      go_wp2_with fail
      refine KN.mono ?_
      rintro z w2 ⟨rfl, hb2⟩
      have hb2' := HB1.out.1.trans (hb2.mono (by have := HB1.out.1.size; simp at this; omega))
      obtain ⟨d, hbw2⟩ := HF.out w2 hb2'
      clear d0 d2 d3 d4 d5 d6 d7
      have d0 := d 0
      have d2 := d 2
      have d5 := d 5
      have d6 := d 6
      have d7 := d 7
      have HB2 := Lib.hid (And.intro hb2' hbw2)
      clear hb2 hb2' hbw2 d
      clear KN
    · have hans : R = false := by
        rw [HR.out]
        simp [Tr.Hd.shape, Tr.Hd.num, Tr.isText, Tr.own, hV, hS1]
      have HANS := Lib.hid hans
      clear hans
      go_wp2_with fail
      go_ret
      exact ⟨by rw [HANS.out]; rfl, HB2.out.2⟩
    · cases hS2 : Rt.noRat s2 t2 b2
      all_goals
        have KN := HK2.out w2 HB2.out.2
        rw [hS2] at KN
        go_wp2_with fail
        refine KN.mono ?_
        rintro z w3 ⟨rfl, hb3⟩
        have hb3' := HB2.out.1.trans (hb3.mono (by have := HB2.out.1.size; simp at this; omega))
        obtain ⟨d, hbw3⟩ := HF.out w3 hb3'
        clear d0 d2 d5 d6 d7
        have d0 := d 0
        have d1 := d 1
        have d8 := d 8
        have d9 := d 9
        have d10 := d 10
        have HB3 := Lib.hid (And.intro hb3' hbw3)
        clear hb3 hb3' hbw3 d
        clear KN
      · have hans : R = false := by
          rw [HR.out]
          simp [Tr.Hd.shape, Tr.Hd.num, Tr.isText, Tr.own, hV, hS1, hS2]
        have HANS := Lib.hid hans
        clear hans
        go_wp2_with fail
        go_ret
        exact ⟨by rw [HANS.out]; rfl, HB3.out.2⟩
      · by_cases hxz : x.size = 0
        · have hxl : x.toList = [] := (Rd.empty x).2 hxz
          by_cases hr : raw.size = 0
          · have hr0 : ¬ 0 < raw.size := by omega
            have hrI : ¬ (raw.size : Int) > 0 := by omega
            by_cases hN : N = 0
            · subst hN
              by_cases hn : n = 0
              · have hnI : ((n : Int) == 0) = true := by subst hn; rfl
                have hans : R = true := by
                  rw [HR.out]
                  simp [Tr.Hd.shape, Tr.Hd.num, Tr.isText, Tr.own, hV, hS1, hS2, hxz, hr, hn]
                have HANS := Lib.hid hans
                clear hans
                go_wp2_with fail
                go_ret
                exact ⟨by rw [HANS.out]; rfl, HB3.out.2⟩
              · have hnI : ((n : Int) == 0) = false := beq_eq_false_iff_ne.2 (by omega)
                have hans : R = false := by
                  rw [HR.out]
                  simp [Tr.Hd.shape, Tr.Hd.num, Tr.isText, Tr.own, hV, hS1, hS2, hxz, hr, hn]
                have HANS := Lib.hid hans
                clear hans
                go_wp2_with fail
                go_ret
                exact ⟨by rw [HANS.out]; rfl, HB3.out.2⟩
            · by_cases hN1 : N = 1
              · subst hN1
                by_cases hn : n = 0
                · have hnI : ((n : Int) == 0) = true := by subst hn; rfl
                  have hans : R = true := by
                    rw [HR.out]
                    simp [Tr.Hd.shape, Tr.Hd.num, Tr.isText, Tr.own, hV, hS1, hS2, hxz, hr, hn]
                  have HANS := Lib.hid hans
                  clear hans
                  go_wp2_with fail
                  go_ret
                  exact ⟨by rw [HANS.out]; rfl, HB3.out.2⟩
                · have hnI : ((n : Int) == 0) = false := beq_eq_false_iff_ne.2 (by omega)
                  have hans : R = false := by
                    rw [HR.out]
                    simp [Tr.Hd.shape, Tr.Hd.num, Tr.isText, Tr.own, hV, hS1, hS2, hxz, hr, hn]
                  have HANS := Lib.hid hans
                  clear hans
                  go_wp2_with fail
                  go_ret
                  exact ⟨by rw [HANS.out]; rfl, HB3.out.2⟩
              · have hNI : (N != 0) = true := by simpa using hN
                have hNJ : (N != 1) = true := by simpa using hN1
                have hans : R = false := by
                  rw [HR.out]
                  simp [Tr.Hd.shape, Tr.Hd.num, Tr.isText, Tr.own, hV, hS1, hS2, hxz, hr, hN, hN1]
                have HANS := Lib.hid hans
                clear hans
                go_wp2_with fail
                go_ret
                exact ⟨by rw [HANS.out]; rfl, HB3.out.2⟩
          · have hr0 : 0 < raw.size := by omega
            have hrI : (raw.size : Int) > 0 := by omega
            have hans : R = false := by
              rw [HR.out]
              simp [Tr.Hd.shape, Tr.Hd.num, Tr.isText, Tr.own, hV, hS1, hS2, hxz, hr]
            have HANS := Lib.hid hans
            clear hans
            go_wp2_with fail
            go_ret
            exact ⟨by rw [HANS.out]; rfl, HB3.out.2⟩
        · have hxl : ¬ x.toList = [] := fun e => hxz ((Rd.empty x).1 e)
          have hxe : x.toList.isEmpty = false := by cases hh : x.toList with | nil => exact absurd hh hxl | cons a r => rfl
          have hans : R = false := by
            rw [HR.out]
            simp [Tr.Hd.shape, Tr.Hd.num, Tr.isText, Tr.own, hV, hS1, hS2, hxz]
          have HANS := Lib.hid hans
          clear hans
          go_wp2_with fail
          go_ret
          exact ⟨by rw [HANS.out]; rfl, HB3.out.2⟩
end Go.Proofs.YtikmebkfdpbidaaGreatDoor
namespace Go.Proofs.YtikmebkfdpbidaaGreatDoor
open Go.RowKit
set_option linter.unusedVariables false
set_option linter.unusedSimpArgs false

set_option maxHeartbeats 1000000 in
set_option maxRecDepth 1000000 in
theorem Rd.shape3 (N : Int) (s1 s2 : Bool) (t1 b1 t2 b2 : List Nat) (x raw : ByteArray) (n : Nat) (a3 a4 a6 a7 a9 a10 : Option Addr) (c3 c4 c6 c7 c9 c10 : Nat) (w : World) (hx : x.size ≤ 1048576)
    (i3 : Nt.In w (.slice a3 t1.length c3) t1) (i4 : Nt.In w (.slice a4 b1.length c4) b1) (i6 : Nt.In w (.slice a6 t2.length c6) t2) (i7 : Nt.In w (.slice a7 b2.length c7) b2) (ok1 : Rt.GOk t1 b1) (ok2 : Rt.GOk t2 b2) :
    Calls Tryz.prog 75 #[.agg #[.int .i64 3, .int .i64 N, .bool s1, .slice a3 t1.length c3, .slice a4 b1.length c4, .bool s2, .slice a6 t2.length c6, .slice a7 b2.length c7, .string x, .slice a9 raw.size c9, .slice a10 n c10]] w fun e w' => e = .returned (.bool (Tr.Hd.shape ⟨3, N, s1, t1, b1, s2, t2, b2, x, raw⟩ n)) ∧ Below w.heap.size w w' := by
  obtain ⟨R, hR⟩ : ∃ z, z = Tr.Hd.shape ⟨3, N, s1, t1, b1, s2, t2, b2, x, raw⟩ n := ⟨_, rfl⟩
  rw [← hR]
  have HR := Lib.hid hR
  have hb0 : Below w.heap.size w (w.alloc (.cells #[.int .i64 3, .int .i64 N, .bool s1, .slice a3 t1.length c3, .slice a4 b1.length c4, .bool s2, .slice a6 t2.length c6, .slice a7 b2.length c7, .string x, .slice a9 raw.size c9, .slice a10 n c10] 30)) := (Below.refl _ _).alloc (Nat.le_refl _) _
  have hq0 : (w.alloc (.cells #[.int .i64 3, .int .i64 N, .bool s1, .slice a3 t1.length c3, .slice a4 b1.length c4, .bool s2, .slice a6 t2.length c6, .slice a7 b2.length c7, .string x, .slice a9 raw.size c9, .slice a10 n c10] 30)).heap[w.heap.size]? = some (.cells #[.int .i64 3, .int .i64 N, .bool s1, .slice a3 t1.length c3, .slice a4 b1.length c4, .bool s2, .slice a6 t2.length c6, .slice a7 b2.length c7, .string x, .slice a9 raw.size c9, .slice a10 n c10] 30 (0, 0)) := heap_alloc_new w _
  have hz0 : (w.alloc (.cells #[.int .i64 3, .int .i64 N, .bool s1, .slice a3 t1.length c3, .slice a4 b1.length c4, .bool s2, .slice a6 t2.length c6, .slice a7 b2.length c7, .string x, .slice a9 raw.size c9, .slice a10 n c10] 30)).heap.size = w.heap.size + 1 := by simp
  have HF : Hid (∀ w', Below (w.heap.size + 1) (w.alloc (.cells #[.int .i64 3, .int .i64 N, .bool s1, .slice a3 t1.length c3, .slice a4 b1.length c4, .bool s2, .slice a6 t2.length c6, .slice a7 b2.length c7, .string x, .slice a9 raw.size c9, .slice a10 n c10] 30)) w' → (∀ j, w'.cell? ⟨w.heap.size, j, none⟩ = (#[.int .i64 3, .int .i64 N, .bool s1, .slice a3 t1.length c3, .slice a4 b1.length c4, .bool s2, .slice a6 t2.length c6, .slice a7 b2.length c7, .string x, .slice a9 raw.size c9, .slice a10 n c10] : Array Value)[j]?) ∧ Below w.heap.size w w') := Lib.hid (fun w' hb => by
    have a0 := (hb.block w.heap.size (Nat.lt_succ_self _)).trans hq0
    exact ⟨fun j => by simp [World.cell?, a0], hb0.trans (hb.mono (Nat.le_succ _))⟩)
  have KV := Ru.valid_any x (w.alloc (.cells #[.int .i64 3, .int .i64 N, .bool s1, .slice a3 t1.length c3, .slice a4 b1.length c4, .bool s2, .slice a6 t2.length c6, .slice a7 b2.length c7, .string x, .slice a9 raw.size c9, .slice a10 n c10] 30)) (by omega)
  rw [hz0] at KV
  have HKN := Lib.hid (fun w' (hb : Below w.heap.size w w') => Rn.SoundN_any s1 s2 t1 b1 t2 b2 _ _ _ _ w' (i3.below hb (Nat.le_refl _)) (i4.below hb (Nat.le_refl _)) (i6.below hb (Nat.le_refl _)) (i7.below hb (Nat.le_refl _)) ok1 ok2)
  clear hb0 hq0 hz0 hR i3 i4 i6 i7 ok1 ok2 hx
  cases hV : Lib.validD x.data.toList
  all_goals
    rw [hV] at KV
    go_enter Tryz.func75, Tryz.ntmps75
    go_wp2_with fail
    refine KV.mono ?_
    rintro z w1 ⟨rfl, hb1⟩
    obtain ⟨d, hbw1⟩ := HF.out w1 hb1
    have d0 := d 0
    have d2 := d 2
    have d3 := d 3
    have d4 := d 4
    have d5 := d 5
    have d6 := d 6
    have d7 := d 7
    have HB1 := Lib.hid (And.intro hb1 hbw1)
    clear hb1 hbw1 d KV
  · have hans : R = false := by
      rw [HR.out]
      simp [Tr.Hd.shape, Tr.Hd.num, Tr.isText, Tr.own, hV]
    have HANS := Lib.hid hans
    clear hans
    go_wp2_with fail
    go_ret
    exact ⟨by rw [HANS.out]; rfl, HB1.out.2⟩
  · cases hS : (Rt.sound s1 t1 b1 && Rt.sound s2 t2 b2)
    all_goals
      have KN := HKN.out w1 HB1.out.2
      rw [hS] at KN
      go_wp2_with fail
      refine KN.mono ?_
      rintro z w2 ⟨rfl, hb2⟩
      have hb2' := HB1.out.1.trans (hb2.mono (by have := HB1.out.1.size; simp at this; omega))
      obtain ⟨d, hbw2⟩ := HF.out w2 hb2'
      clear d0 d2 d3 d4 d5 d6 d7
      have d0 := d 0
      have d1 := d 1
      have d8 := d 8
      have d9 := d 9
      have d10 := d 10
      have HB2 := Lib.hid (And.intro hb2' hbw2)
      clear hb2 hb2' hbw2 d
      clear KN
    · have hans : R = false := by
        rw [HR.out]
        simp [Tr.Hd.shape, Tr.Hd.num, Tr.isText, Tr.own, hV, hS]
      have HANS := Lib.hid hans
      clear hans
      go_wp2_with fail
      go_ret
      exact ⟨by rw [HANS.out]; rfl, HB2.out.2⟩
    · by_cases hxz : x.size = 0
      · have hxl : x.toList = [] := (Rd.empty x).2 hxz
        by_cases hr : raw.size = 0
        · have hr0 : ¬ 0 < raw.size := by omega
          have hrI : ¬ (raw.size : Int) > 0 := by omega
          by_cases hN : N = 0
          · subst hN
            by_cases hn : n = 0
            · have hnI : ((n : Int) == 0) = true := by subst hn; rfl
              have hans : R = true := by
                rw [HR.out]
                simp [Tr.Hd.shape, Tr.Hd.num, Tr.isText, Tr.own, hV, hS, hxz, hr, hn]
              have HANS := Lib.hid hans
              clear hans
              go_wp2_with fail
              go_ret
              exact ⟨by rw [HANS.out]; rfl, HB2.out.2⟩
            · have hnI : ((n : Int) == 0) = false := beq_eq_false_iff_ne.2 (by omega)
              have hans : R = false := by
                rw [HR.out]
                simp [Tr.Hd.shape, Tr.Hd.num, Tr.isText, Tr.own, hV, hS, hxz, hr, hn]
              have HANS := Lib.hid hans
              clear hans
              go_wp2_with fail
              go_ret
              exact ⟨by rw [HANS.out]; rfl, HB2.out.2⟩
          · have hNI : (N != 0) = true := by simpa using hN
            have hans : R = false := by
              rw [HR.out]
              simp [Tr.Hd.shape, Tr.Hd.num, Tr.isText, Tr.own, hV, hS, hxz, hr, hN]
            have HANS := Lib.hid hans
            clear hans
            go_wp2_with fail
            go_ret
            exact ⟨by rw [HANS.out]; rfl, HB2.out.2⟩
        · have hr0 : 0 < raw.size := by omega
          have hrI : (raw.size : Int) > 0 := by omega
          have hans : R = false := by
            rw [HR.out]
            simp [Tr.Hd.shape, Tr.Hd.num, Tr.isText, Tr.own, hV, hS, hxz, hr]
          have HANS := Lib.hid hans
          clear hans
          go_wp2_with fail
          go_ret
          exact ⟨by rw [HANS.out]; rfl, HB2.out.2⟩
      · have hxl : ¬ x.toList = [] := fun e => hxz ((Rd.empty x).1 e)
        have hxe : x.toList.isEmpty = false := by cases hh : x.toList with | nil => exact absurd hh hxl | cons a r => rfl
        have hans : R = false := by
          rw [HR.out]
          simp [Tr.Hd.shape, Tr.Hd.num, Tr.isText, Tr.own, hV, hS, hxz]
        have HANS := Lib.hid hans
        clear hans
        go_wp2_with fail
        go_ret
        exact ⟨by rw [HANS.out]; rfl, HB2.out.2⟩
end Go.Proofs.YtikmebkfdpbidaaGreatDoor
namespace Go.Proofs.YtikmebkfdpbidaaGreatDoor
open Go.RowKit
set_option linter.unusedVariables false
set_option linter.unusedSimpArgs false

set_option maxHeartbeats 1000000 in
set_option maxRecDepth 1000000 in
theorem Rd.shape4 (N : Int) (s1 s2 : Bool) (t1 b1 t2 b2 : List Nat) (x raw : ByteArray) (n : Nat) (a3 a4 a6 a7 a9 a10 : Option Addr) (c3 c4 c6 c7 c9 c10 : Nat) (w : World) (hx : x.size ≤ 1048576)
    (i3 : Nt.In w (.slice a3 t1.length c3) t1) (i4 : Nt.In w (.slice a4 b1.length c4) b1) (i6 : Nt.In w (.slice a6 t2.length c6) t2) (i7 : Nt.In w (.slice a7 b2.length c7) b2) (ok1 : Rt.GOk t1 b1) (ok2 : Rt.GOk t2 b2) :
    Calls Tryz.prog 75 #[.agg #[.int .i64 4, .int .i64 N, .bool s1, .slice a3 t1.length c3, .slice a4 b1.length c4, .bool s2, .slice a6 t2.length c6, .slice a7 b2.length c7, .string x, .slice a9 raw.size c9, .slice a10 n c10]] w fun e w' => e = .returned (.bool (Tr.Hd.shape ⟨4, N, s1, t1, b1, s2, t2, b2, x, raw⟩ n)) ∧ Below w.heap.size w w' := by
  obtain ⟨R, hR⟩ : ∃ z, z = Tr.Hd.shape ⟨4, N, s1, t1, b1, s2, t2, b2, x, raw⟩ n := ⟨_, rfl⟩
  rw [← hR]
  have HR := Lib.hid hR
  have hb0 : Below w.heap.size w (w.alloc (.cells #[.int .i64 4, .int .i64 N, .bool s1, .slice a3 t1.length c3, .slice a4 b1.length c4, .bool s2, .slice a6 t2.length c6, .slice a7 b2.length c7, .string x, .slice a9 raw.size c9, .slice a10 n c10] 30)) := (Below.refl _ _).alloc (Nat.le_refl _) _
  have hq0 : (w.alloc (.cells #[.int .i64 4, .int .i64 N, .bool s1, .slice a3 t1.length c3, .slice a4 b1.length c4, .bool s2, .slice a6 t2.length c6, .slice a7 b2.length c7, .string x, .slice a9 raw.size c9, .slice a10 n c10] 30)).heap[w.heap.size]? = some (.cells #[.int .i64 4, .int .i64 N, .bool s1, .slice a3 t1.length c3, .slice a4 b1.length c4, .bool s2, .slice a6 t2.length c6, .slice a7 b2.length c7, .string x, .slice a9 raw.size c9, .slice a10 n c10] 30 (0, 0)) := heap_alloc_new w _
  have hz0 : (w.alloc (.cells #[.int .i64 4, .int .i64 N, .bool s1, .slice a3 t1.length c3, .slice a4 b1.length c4, .bool s2, .slice a6 t2.length c6, .slice a7 b2.length c7, .string x, .slice a9 raw.size c9, .slice a10 n c10] 30)).heap.size = w.heap.size + 1 := by simp
  have HF : Hid (∀ w', Below (w.heap.size + 1) (w.alloc (.cells #[.int .i64 4, .int .i64 N, .bool s1, .slice a3 t1.length c3, .slice a4 b1.length c4, .bool s2, .slice a6 t2.length c6, .slice a7 b2.length c7, .string x, .slice a9 raw.size c9, .slice a10 n c10] 30)) w' → (∀ j, w'.cell? ⟨w.heap.size, j, none⟩ = (#[.int .i64 4, .int .i64 N, .bool s1, .slice a3 t1.length c3, .slice a4 b1.length c4, .bool s2, .slice a6 t2.length c6, .slice a7 b2.length c7, .string x, .slice a9 raw.size c9, .slice a10 n c10] : Array Value)[j]?) ∧ Below w.heap.size w w') := Lib.hid (fun w' hb => by
    have a0 := (hb.block w.heap.size (Nat.lt_succ_self _)).trans hq0
    exact ⟨fun j => by simp [World.cell?, a0], hb0.trans (hb.mono (Nat.le_succ _))⟩)
  have KV := Ru.valid_any x (w.alloc (.cells #[.int .i64 4, .int .i64 N, .bool s1, .slice a3 t1.length c3, .slice a4 b1.length c4, .bool s2, .slice a6 t2.length c6, .slice a7 b2.length c7, .string x, .slice a9 raw.size c9, .slice a10 n c10] 30)) (by omega)
  rw [hz0] at KV
  have HK1 := Lib.hid (fun w' (hb : Below w.heap.size w w') => Rn.noRat_any s1 t1 b1 _ _ w' (i3.below hb (Nat.le_refl _)) (i4.below hb (Nat.le_refl _)) ok1.l1 ok1.l2)
  have HK2 := Lib.hid (fun w' (hb : Below w.heap.size w w') => Rn.noRat_any s2 t2 b2 _ _ w' (i6.below hb (Nat.le_refl _)) (i7.below hb (Nat.le_refl _)) ok2.l1 ok2.l2)
  clear hb0 hq0 hz0 hR i3 i4 i6 i7 ok1 ok2 hx
  cases hV : Lib.validD x.data.toList
  all_goals
    rw [hV] at KV
    go_enter Tryz.func75, Tryz.ntmps75
    go_wp2_with fail
    refine KV.mono ?_
    rintro z w1 ⟨rfl, hb1⟩
    obtain ⟨d, hbw1⟩ := HF.out w1 hb1
    have d0 := d 0
    have d2 := d 2
    have d3 := d 3
    have d4 := d 4
    have d5 := d 5
    have d6 := d 6
    have d7 := d 7
    have HB1 := Lib.hid (And.intro hb1 hbw1)
    clear hb1 hbw1 d KV
  · have hans : R = false := by
      rw [HR.out]
      simp [Tr.Hd.shape, Tr.Hd.num, Tr.isText, Tr.own, hV]
    have HANS := Lib.hid hans
    clear hans
    go_wp2_with fail
    go_ret
    exact ⟨by rw [HANS.out]; rfl, HB1.out.2⟩
  · cases hS1 : Rt.noRat s1 t1 b1
    all_goals
      have KN := HK1.out w1 HB1.out.2
      rw [hS1] at KN
      go_wp2_with fail
      refine KN.mono ?_
      rintro z w2 ⟨rfl, hb2⟩
      have hb2' := HB1.out.1.trans (hb2.mono (by have := HB1.out.1.size; simp at this; omega))
      obtain ⟨d, hbw2⟩ := HF.out w2 hb2'
      clear d0 d2 d3 d4 d5 d6 d7
      have d0 := d 0
      have d2 := d 2
      have d5 := d 5
      have d6 := d 6
      have d7 := d 7
      have HB2 := Lib.hid (And.intro hb2' hbw2)
      clear hb2 hb2' hbw2 d
      clear KN
    · have hans : R = false := by
        rw [HR.out]
        simp [Tr.Hd.shape, Tr.Hd.num, Tr.isText, Tr.own, hV, hS1]
      have HANS := Lib.hid hans
      clear hans
      go_wp2_with fail
      go_ret
      exact ⟨by rw [HANS.out]; rfl, HB2.out.2⟩
    · cases hS2 : Rt.noRat s2 t2 b2
      all_goals
        have KN := HK2.out w2 HB2.out.2
        rw [hS2] at KN
        go_wp2_with fail
        refine KN.mono ?_
        rintro z w3 ⟨rfl, hb3⟩
        have hb3' := HB2.out.1.trans (hb3.mono (by have := HB2.out.1.size; simp at this; omega))
        obtain ⟨d, hbw3⟩ := HF.out w3 hb3'
        clear d0 d2 d5 d6 d7
        have d0 := d 0
        have d1 := d 1
        have d8 := d 8
        have d9 := d 9
        have d10 := d 10
        have HB3 := Lib.hid (And.intro hb3' hbw3)
        clear hb3 hb3' hbw3 d
        clear KN
      · have hans : R = false := by
          rw [HR.out]
          simp [Tr.Hd.shape, Tr.Hd.num, Tr.isText, Tr.own, hV, hS1, hS2]
        have HANS := Lib.hid hans
        clear hans
        go_wp2_with fail
        go_ret
        exact ⟨by rw [HANS.out]; rfl, HB3.out.2⟩
      · by_cases hxz : x.size = 0
        · have hxl : x.toList = [] := (Rd.empty x).2 hxz
          by_cases hr : raw.size = 0
          · have hr0 : ¬ 0 < raw.size := by omega
            have hrI : ¬ (raw.size : Int) > 0 := by omega
            have KC := Rn.IsChar_any N w3
            cases hC : Tr.isChar N
            · rw [hC] at KC
              have hans : R = false := by
                rw [HR.out]
                simp [Tr.Hd.shape, Tr.Hd.num, Tr.isText, Tr.own, hV, hS1, hS2, hxz, hr, hC]
              have HANS := Lib.hid hans
              clear hans
              go_wp2_with fail
              refine KC.mono ?_
              rintro z w8 ⟨rfl, hb8⟩
              have HB8 := Lib.hid (HB3.out.2.trans (hb8.mono HB3.out.2.size))
              clear hb8 KC
              go_wp2_with fail
              go_ret
              exact ⟨by rw [HANS.out]; rfl, HB8.out⟩
            · rw [hC] at KC
              go_wp2_with fail
              refine KC.mono ?_
              rintro z w8 ⟨rfl, hb8⟩
              have hb8' := HB3.out.1.trans (hb8.mono (by have := HB3.out.1.size; simp at this; omega))
              obtain ⟨d, hbw8⟩ := HF.out w8 hb8'
              clear d0 d1 d8 d9 d10
              have d0 := d 0
              have d10 := d 10
              have HB8 := Lib.hid hbw8
              clear hb8 hb8' hbw8 d KC
              by_cases hn : n = 0
              · have hnI : ((n : Int) == 0) = true := by subst hn; rfl
                have hans : R = true := by
                  rw [HR.out]
                  simp [Tr.Hd.shape, Tr.Hd.num, Tr.isText, Tr.own, hV, hS1, hS2, hxz, hr, hC, hn]
                have HANS := Lib.hid hans
                clear hans
                go_wp2_with fail
                go_ret
                exact ⟨by rw [HANS.out]; rfl, HB8.out⟩
              · have hnI : ((n : Int) == 0) = false := beq_eq_false_iff_ne.2 (by omega)
                have hans : R = false := by
                  rw [HR.out]
                  simp [Tr.Hd.shape, Tr.Hd.num, Tr.isText, Tr.own, hV, hS1, hS2, hxz, hr, hC, hn]
                have HANS := Lib.hid hans
                clear hans
                go_wp2_with fail
                go_ret
                exact ⟨by rw [HANS.out]; rfl, HB8.out⟩
          · have hr0 : 0 < raw.size := by omega
            have hrI : (raw.size : Int) > 0 := by omega
            have hans : R = false := by
              rw [HR.out]
              simp [Tr.Hd.shape, Tr.Hd.num, Tr.isText, Tr.own, hV, hS1, hS2, hxz, hr]
            have HANS := Lib.hid hans
            clear hans
            go_wp2_with fail
            go_ret
            exact ⟨by rw [HANS.out]; rfl, HB3.out.2⟩
        · have hxl : ¬ x.toList = [] := fun e => hxz ((Rd.empty x).1 e)
          have hxe : x.toList.isEmpty = false := by cases hh : x.toList with | nil => exact absurd hh hxl | cons a r => rfl
          have hans : R = false := by
            rw [HR.out]
            simp [Tr.Hd.shape, Tr.Hd.num, Tr.isText, Tr.own, hV, hS1, hS2, hxz]
          have HANS := Lib.hid hans
          clear hans
          go_wp2_with fail
          go_ret
          exact ⟨by rw [HANS.out]; rfl, HB3.out.2⟩
end Go.Proofs.YtikmebkfdpbidaaGreatDoor
namespace Go.Proofs.YtikmebkfdpbidaaGreatDoor
open Go.RowKit
set_option linter.unusedVariables false
set_option linter.unusedSimpArgs false

set_option maxHeartbeats 1000000 in
set_option maxRecDepth 1000000 in
theorem Rd.shape5 (N : Int) (s1 s2 : Bool) (t1 b1 t2 b2 : List Nat) (x raw : ByteArray) (n : Nat) (a3 a4 a6 a7 a9 a10 : Option Addr) (c3 c4 c6 c7 c9 c10 : Nat) (w : World) (hx : x.size ≤ 1048576)
    (i3 : Nt.In w (.slice a3 t1.length c3) t1) (i4 : Nt.In w (.slice a4 b1.length c4) b1) (i6 : Nt.In w (.slice a6 t2.length c6) t2) (i7 : Nt.In w (.slice a7 b2.length c7) b2) (ok1 : Rt.GOk t1 b1) (ok2 : Rt.GOk t2 b2) :
    Calls Tryz.prog 75 #[.agg #[.int .i64 5, .int .i64 N, .bool s1, .slice a3 t1.length c3, .slice a4 b1.length c4, .bool s2, .slice a6 t2.length c6, .slice a7 b2.length c7, .string x, .slice a9 raw.size c9, .slice a10 n c10]] w fun e w' => e = .returned (.bool (Tr.Hd.shape ⟨5, N, s1, t1, b1, s2, t2, b2, x, raw⟩ n)) ∧ Below w.heap.size w w' := by
  obtain ⟨R, hR⟩ : ∃ z, z = Tr.Hd.shape ⟨5, N, s1, t1, b1, s2, t2, b2, x, raw⟩ n := ⟨_, rfl⟩
  rw [← hR]
  have HR := Lib.hid hR
  have hb0 : Below w.heap.size w (w.alloc (.cells #[.int .i64 5, .int .i64 N, .bool s1, .slice a3 t1.length c3, .slice a4 b1.length c4, .bool s2, .slice a6 t2.length c6, .slice a7 b2.length c7, .string x, .slice a9 raw.size c9, .slice a10 n c10] 30)) := (Below.refl _ _).alloc (Nat.le_refl _) _
  have hq0 : (w.alloc (.cells #[.int .i64 5, .int .i64 N, .bool s1, .slice a3 t1.length c3, .slice a4 b1.length c4, .bool s2, .slice a6 t2.length c6, .slice a7 b2.length c7, .string x, .slice a9 raw.size c9, .slice a10 n c10] 30)).heap[w.heap.size]? = some (.cells #[.int .i64 5, .int .i64 N, .bool s1, .slice a3 t1.length c3, .slice a4 b1.length c4, .bool s2, .slice a6 t2.length c6, .slice a7 b2.length c7, .string x, .slice a9 raw.size c9, .slice a10 n c10] 30 (0, 0)) := heap_alloc_new w _
  have hz0 : (w.alloc (.cells #[.int .i64 5, .int .i64 N, .bool s1, .slice a3 t1.length c3, .slice a4 b1.length c4, .bool s2, .slice a6 t2.length c6, .slice a7 b2.length c7, .string x, .slice a9 raw.size c9, .slice a10 n c10] 30)).heap.size = w.heap.size + 1 := by simp
  have HF : Hid (∀ w', Below (w.heap.size + 1) (w.alloc (.cells #[.int .i64 5, .int .i64 N, .bool s1, .slice a3 t1.length c3, .slice a4 b1.length c4, .bool s2, .slice a6 t2.length c6, .slice a7 b2.length c7, .string x, .slice a9 raw.size c9, .slice a10 n c10] 30)) w' → (∀ j, w'.cell? ⟨w.heap.size, j, none⟩ = (#[.int .i64 5, .int .i64 N, .bool s1, .slice a3 t1.length c3, .slice a4 b1.length c4, .bool s2, .slice a6 t2.length c6, .slice a7 b2.length c7, .string x, .slice a9 raw.size c9, .slice a10 n c10] : Array Value)[j]?) ∧ Below w.heap.size w w') := Lib.hid (fun w' hb => by
    have a0 := (hb.block w.heap.size (Nat.lt_succ_self _)).trans hq0
    exact ⟨fun j => by simp [World.cell?, a0], hb0.trans (hb.mono (Nat.le_succ _))⟩)
  have KV := Ru.valid_any x (w.alloc (.cells #[.int .i64 5, .int .i64 N, .bool s1, .slice a3 t1.length c3, .slice a4 b1.length c4, .bool s2, .slice a6 t2.length c6, .slice a7 b2.length c7, .string x, .slice a9 raw.size c9, .slice a10 n c10] 30)) (by omega)
  rw [hz0] at KV
  have HK1 := Lib.hid (fun w' (hb : Below w.heap.size w w') => Rn.noRat_any s1 t1 b1 _ _ w' (i3.below hb (Nat.le_refl _)) (i4.below hb (Nat.le_refl _)) ok1.l1 ok1.l2)
  have HK2 := Lib.hid (fun w' (hb : Below w.heap.size w w') => Rn.noRat_any s2 t2 b2 _ _ w' (i6.below hb (Nat.le_refl _)) (i7.below hb (Nat.le_refl _)) ok2.l1 ok2.l2)
  clear hb0 hq0 hz0 hR i3 i4 i6 i7 ok1 ok2 hx
  cases hV : Lib.validD x.data.toList
  all_goals
    rw [hV] at KV
    go_enter Tryz.func75, Tryz.ntmps75
    go_wp2_with fail
    refine KV.mono ?_
    rintro z w1 ⟨rfl, hb1⟩
    obtain ⟨d, hbw1⟩ := HF.out w1 hb1
    have d0 := d 0
    have d2 := d 2
    have d3 := d 3
    have d4 := d 4
    have d5 := d 5
    have d6 := d 6
    have d7 := d 7
    have HB1 := Lib.hid (And.intro hb1 hbw1)
    clear hb1 hbw1 d KV
  · have hans : R = false := by
      rw [HR.out]
      simp [Tr.Hd.shape, Tr.Hd.num, Tr.isText, Tr.own, hV]
    have HANS := Lib.hid hans
    clear hans
    go_wp2_with fail
    go_ret
    exact ⟨by rw [HANS.out]; rfl, HB1.out.2⟩
  · cases hS1 : Rt.noRat s1 t1 b1
    all_goals
      have KN := HK1.out w1 HB1.out.2
      rw [hS1] at KN
      go_wp2_with fail
      refine KN.mono ?_
      rintro z w2 ⟨rfl, hb2⟩
      have hb2' := HB1.out.1.trans (hb2.mono (by have := HB1.out.1.size; simp at this; omega))
      obtain ⟨d, hbw2⟩ := HF.out w2 hb2'
      clear d0 d2 d3 d4 d5 d6 d7
      have d0 := d 0
      have d2 := d 2
      have d5 := d 5
      have d6 := d 6
      have d7 := d 7
      have HB2 := Lib.hid (And.intro hb2' hbw2)
      clear hb2 hb2' hbw2 d
      clear KN
    · have hans : R = false := by
        rw [HR.out]
        simp [Tr.Hd.shape, Tr.Hd.num, Tr.isText, Tr.own, hV, hS1]
      have HANS := Lib.hid hans
      clear hans
      go_wp2_with fail
      go_ret
      exact ⟨by rw [HANS.out]; rfl, HB2.out.2⟩
    · cases hS2 : Rt.noRat s2 t2 b2
      all_goals
        have KN := HK2.out w2 HB2.out.2
        rw [hS2] at KN
        go_wp2_with fail
        refine KN.mono ?_
        rintro z w3 ⟨rfl, hb3⟩
        have hb3' := HB2.out.1.trans (hb3.mono (by have := HB2.out.1.size; simp at this; omega))
        obtain ⟨d, hbw3⟩ := HF.out w3 hb3'
        clear d0 d2 d5 d6 d7
        have d0 := d 0
        have d1 := d 1
        have d8 := d 8
        have d9 := d 9
        have d10 := d 10
        have HB3 := Lib.hid (And.intro hb3' hbw3)
        clear hb3 hb3' hbw3 d
        clear KN
      · have hans : R = false := by
          rw [HR.out]
          simp [Tr.Hd.shape, Tr.Hd.num, Tr.isText, Tr.own, hV, hS1, hS2]
        have HANS := Lib.hid hans
        clear hans
        go_wp2_with fail
        go_ret
        exact ⟨by rw [HANS.out]; rfl, HB3.out.2⟩
      · by_cases hxz : x.size = 0
        · have hxl : x.toList = [] := (Rd.empty x).2 hxz
          by_cases hr : raw.size = 0
          · have hr0 : ¬ 0 < raw.size := by omega
            have hrI : ¬ (raw.size : Int) > 0 := by omega
            by_cases hN : N = 0
            · subst hN
              by_cases hn : n = 0
              · have hnI : ((n : Int) == 0) = true := by subst hn; rfl
                have hans : R = true := by
                  rw [HR.out]
                  simp [Tr.Hd.shape, Tr.Hd.num, Tr.isText, Tr.own, hV, hS1, hS2, hxz, hr, hn]
                have HANS := Lib.hid hans
                clear hans
                go_wp2_with fail
                go_ret
                exact ⟨by rw [HANS.out]; rfl, HB3.out.2⟩
              · have hnI : ((n : Int) == 0) = false := beq_eq_false_iff_ne.2 (by omega)
                have hans : R = false := by
                  rw [HR.out]
                  simp [Tr.Hd.shape, Tr.Hd.num, Tr.isText, Tr.own, hV, hS1, hS2, hxz, hr, hn]
                have HANS := Lib.hid hans
                clear hans
                go_wp2_with fail
                go_ret
                exact ⟨by rw [HANS.out]; rfl, HB3.out.2⟩
            · have hNI : (N != 0) = true := by simpa using hN
              have hans : R = false := by
                rw [HR.out]
                simp [Tr.Hd.shape, Tr.Hd.num, Tr.isText, Tr.own, hV, hS1, hS2, hxz, hr, hN]
              have HANS := Lib.hid hans
              clear hans
              go_wp2_with fail
              go_ret
              exact ⟨by rw [HANS.out]; rfl, HB3.out.2⟩
          · have hr0 : 0 < raw.size := by omega
            have hrI : (raw.size : Int) > 0 := by omega
            have hans : R = false := by
              rw [HR.out]
              simp [Tr.Hd.shape, Tr.Hd.num, Tr.isText, Tr.own, hV, hS1, hS2, hxz, hr]
            have HANS := Lib.hid hans
            clear hans
            go_wp2_with fail
            go_ret
            exact ⟨by rw [HANS.out]; rfl, HB3.out.2⟩
        · have hxl : ¬ x.toList = [] := fun e => hxz ((Rd.empty x).1 e)
          have hxe : x.toList.isEmpty = false := by cases hh : x.toList with | nil => exact absurd hh hxl | cons a r => rfl
          by_cases hr : raw.size = 0
          · have hr0 : ¬ 0 < raw.size := by omega
            have hrI : ¬ (raw.size : Int) > 0 := by omega
            by_cases hN : N = 0
            · subst hN
              by_cases hn : n = 0
              · have hnI : ((n : Int) == 0) = true := by subst hn; rfl
                have hans : R = true := by
                  rw [HR.out]
                  simp [Tr.Hd.shape, Tr.Hd.num, Tr.isText, Tr.own, hV, hS1, hS2, hxz, hr, hn]
                have HANS := Lib.hid hans
                clear hans
                go_wp2_with fail
                go_ret
                exact ⟨by rw [HANS.out]; rfl, HB3.out.2⟩
              · have hnI : ((n : Int) == 0) = false := beq_eq_false_iff_ne.2 (by omega)
                have hans : R = false := by
                  rw [HR.out]
                  simp [Tr.Hd.shape, Tr.Hd.num, Tr.isText, Tr.own, hV, hS1, hS2, hxz, hr, hn]
                have HANS := Lib.hid hans
                clear hans
                go_wp2_with fail
                go_ret
                exact ⟨by rw [HANS.out]; rfl, HB3.out.2⟩
            · have hNI : (N != 0) = true := by simpa using hN
              have hans : R = false := by
                rw [HR.out]
                simp [Tr.Hd.shape, Tr.Hd.num, Tr.isText, Tr.own, hV, hS1, hS2, hxz, hr, hN]
              have HANS := Lib.hid hans
              clear hans
              go_wp2_with fail
              go_ret
              exact ⟨by rw [HANS.out]; rfl, HB3.out.2⟩
          · have hr0 : 0 < raw.size := by omega
            have hrI : (raw.size : Int) > 0 := by omega
            have hans : R = false := by
              rw [HR.out]
              simp [Tr.Hd.shape, Tr.Hd.num, Tr.isText, Tr.own, hV, hS1, hS2, hxz, hr]
            have HANS := Lib.hid hans
            clear hans
            go_wp2_with fail
            go_ret
            exact ⟨by rw [HANS.out]; rfl, HB3.out.2⟩
end Go.Proofs.YtikmebkfdpbidaaGreatDoor
namespace Go.Proofs.YtikmebkfdpbidaaGreatDoor
open Go.RowKit
set_option linter.unusedVariables false
set_option linter.unusedSimpArgs false

set_option maxHeartbeats 1000000 in
set_option maxRecDepth 1000000 in
theorem Rd.shape6 (N : Int) (s1 s2 : Bool) (t1 b1 t2 b2 : List Nat) (x raw : ByteArray) (n : Nat) (a3 a4 a6 a7 a9 a10 : Option Addr) (c3 c4 c6 c7 c9 c10 : Nat) (w : World) (hx : x.size ≤ 1048576)
    (i3 : Nt.In w (.slice a3 t1.length c3) t1) (i4 : Nt.In w (.slice a4 b1.length c4) b1) (i6 : Nt.In w (.slice a6 t2.length c6) t2) (i7 : Nt.In w (.slice a7 b2.length c7) b2) (ok1 : Rt.GOk t1 b1) (ok2 : Rt.GOk t2 b2) :
    Calls Tryz.prog 75 #[.agg #[.int .i64 6, .int .i64 N, .bool s1, .slice a3 t1.length c3, .slice a4 b1.length c4, .bool s2, .slice a6 t2.length c6, .slice a7 b2.length c7, .string x, .slice a9 raw.size c9, .slice a10 n c10]] w fun e w' => e = .returned (.bool (Tr.Hd.shape ⟨6, N, s1, t1, b1, s2, t2, b2, x, raw⟩ n)) ∧ Below w.heap.size w w' := by
  obtain ⟨R, hR⟩ : ∃ z, z = Tr.Hd.shape ⟨6, N, s1, t1, b1, s2, t2, b2, x, raw⟩ n := ⟨_, rfl⟩
  rw [← hR]
  have HR := Lib.hid hR
  have hb0 : Below w.heap.size w (w.alloc (.cells #[.int .i64 6, .int .i64 N, .bool s1, .slice a3 t1.length c3, .slice a4 b1.length c4, .bool s2, .slice a6 t2.length c6, .slice a7 b2.length c7, .string x, .slice a9 raw.size c9, .slice a10 n c10] 30)) := (Below.refl _ _).alloc (Nat.le_refl _) _
  have hq0 : (w.alloc (.cells #[.int .i64 6, .int .i64 N, .bool s1, .slice a3 t1.length c3, .slice a4 b1.length c4, .bool s2, .slice a6 t2.length c6, .slice a7 b2.length c7, .string x, .slice a9 raw.size c9, .slice a10 n c10] 30)).heap[w.heap.size]? = some (.cells #[.int .i64 6, .int .i64 N, .bool s1, .slice a3 t1.length c3, .slice a4 b1.length c4, .bool s2, .slice a6 t2.length c6, .slice a7 b2.length c7, .string x, .slice a9 raw.size c9, .slice a10 n c10] 30 (0, 0)) := heap_alloc_new w _
  have hz0 : (w.alloc (.cells #[.int .i64 6, .int .i64 N, .bool s1, .slice a3 t1.length c3, .slice a4 b1.length c4, .bool s2, .slice a6 t2.length c6, .slice a7 b2.length c7, .string x, .slice a9 raw.size c9, .slice a10 n c10] 30)).heap.size = w.heap.size + 1 := by simp
  have HF : Hid (∀ w', Below (w.heap.size + 1) (w.alloc (.cells #[.int .i64 6, .int .i64 N, .bool s1, .slice a3 t1.length c3, .slice a4 b1.length c4, .bool s2, .slice a6 t2.length c6, .slice a7 b2.length c7, .string x, .slice a9 raw.size c9, .slice a10 n c10] 30)) w' → (∀ j, w'.cell? ⟨w.heap.size, j, none⟩ = (#[.int .i64 6, .int .i64 N, .bool s1, .slice a3 t1.length c3, .slice a4 b1.length c4, .bool s2, .slice a6 t2.length c6, .slice a7 b2.length c7, .string x, .slice a9 raw.size c9, .slice a10 n c10] : Array Value)[j]?) ∧ Below w.heap.size w w') := Lib.hid (fun w' hb => by
    have a0 := (hb.block w.heap.size (Nat.lt_succ_self _)).trans hq0
    exact ⟨fun j => by simp [World.cell?, a0], hb0.trans (hb.mono (Nat.le_succ _))⟩)
  have KV := Ru.valid_any x (w.alloc (.cells #[.int .i64 6, .int .i64 N, .bool s1, .slice a3 t1.length c3, .slice a4 b1.length c4, .bool s2, .slice a6 t2.length c6, .slice a7 b2.length c7, .string x, .slice a9 raw.size c9, .slice a10 n c10] 30)) (by omega)
  rw [hz0] at KV
  have HK1 := Lib.hid (fun w' (hb : Below w.heap.size w w') => Rn.noRat_any s1 t1 b1 _ _ w' (i3.below hb (Nat.le_refl _)) (i4.below hb (Nat.le_refl _)) ok1.l1 ok1.l2)
  have HK2 := Lib.hid (fun w' (hb : Below w.heap.size w w') => Rn.noRat_any s2 t2 b2 _ _ w' (i6.below hb (Nat.le_refl _)) (i7.below hb (Nat.le_refl _)) ok2.l1 ok2.l2)
  clear hb0 hq0 hz0 hR i3 i4 i6 i7 ok1 ok2 hx
  cases hV : Lib.validD x.data.toList
  all_goals
    rw [hV] at KV
    go_enter Tryz.func75, Tryz.ntmps75
    go_wp2_with fail
    refine KV.mono ?_
    rintro z w1 ⟨rfl, hb1⟩
    obtain ⟨d, hbw1⟩ := HF.out w1 hb1
    have d0 := d 0
    have d2 := d 2
    have d3 := d 3
    have d4 := d 4
    have d5 := d 5
    have d6 := d 6
    have d7 := d 7
    have HB1 := Lib.hid (And.intro hb1 hbw1)
    clear hb1 hbw1 d KV
  · have hans : R = false := by
      rw [HR.out]
      simp [Tr.Hd.shape, Tr.Hd.num, Tr.isText, Tr.own, hV]
    have HANS := Lib.hid hans
    clear hans
    go_wp2_with fail
    go_ret
    exact ⟨by rw [HANS.out]; rfl, HB1.out.2⟩
  · cases hS1 : Rt.noRat s1 t1 b1
    all_goals
      have KN := HK1.out w1 HB1.out.2
      rw [hS1] at KN
      go_wp2_with fail
      refine KN.mono ?_
      rintro z w2 ⟨rfl, hb2⟩
      have hb2' := HB1.out.1.trans (hb2.mono (by have := HB1.out.1.size; simp at this; omega))
      obtain ⟨d, hbw2⟩ := HF.out w2 hb2'
      clear d0 d2 d3 d4 d5 d6 d7
      have d0 := d 0
      have d2 := d 2
      have d5 := d 5
      have d6 := d 6
      have d7 := d 7
      have HB2 := Lib.hid (And.intro hb2' hbw2)
      clear hb2 hb2' hbw2 d
      clear KN
    · have hans : R = false := by
        rw [HR.out]
        simp [Tr.Hd.shape, Tr.Hd.num, Tr.isText, Tr.own, hV, hS1]
      have HANS := Lib.hid hans
      clear hans
      go_wp2_with fail
      go_ret
      exact ⟨by rw [HANS.out]; rfl, HB2.out.2⟩
    · cases hS2 : Rt.noRat s2 t2 b2
      all_goals
        have KN := HK2.out w2 HB2.out.2
        rw [hS2] at KN
        go_wp2_with fail
        refine KN.mono ?_
        rintro z w3 ⟨rfl, hb3⟩
        have hb3' := HB2.out.1.trans (hb3.mono (by have := HB2.out.1.size; simp at this; omega))
        obtain ⟨d, hbw3⟩ := HF.out w3 hb3'
        clear d0 d2 d5 d6 d7
        have d0 := d 0
        have d1 := d 1
        have d8 := d 8
        have d9 := d 9
        have d10 := d 10
        have HB3 := Lib.hid (And.intro hb3' hbw3)
        clear hb3 hb3' hbw3 d
        clear KN
      · have hans : R = false := by
          rw [HR.out]
          simp [Tr.Hd.shape, Tr.Hd.num, Tr.isText, Tr.own, hV, hS1, hS2]
        have HANS := Lib.hid hans
        clear hans
        go_wp2_with fail
        go_ret
        exact ⟨by rw [HANS.out]; rfl, HB3.out.2⟩
      · by_cases hxz : x.size = 0
        · have hxl : x.toList = [] := (Rd.empty x).2 hxz
          by_cases hr : raw.size = 0
          · have hr0 : ¬ 0 < raw.size := by omega
            have hrI : ¬ (raw.size : Int) > 0 := by omega
            by_cases hN : N = 0
            · subst hN
              by_cases hn : n = 0
              · have hnI : ((n : Int) == 0) = true := by subst hn; rfl
                have hans : R = true := by
                  rw [HR.out]
                  simp [Tr.Hd.shape, Tr.Hd.num, Tr.isText, Tr.own, hV, hS1, hS2, hxz, hr, hn]
                have HANS := Lib.hid hans
                clear hans
                go_wp2_with fail
                go_ret
                exact ⟨by rw [HANS.out]; rfl, HB3.out.2⟩
              · have hnI : ((n : Int) == 0) = false := beq_eq_false_iff_ne.2 (by omega)
                have hans : R = false := by
                  rw [HR.out]
                  simp [Tr.Hd.shape, Tr.Hd.num, Tr.isText, Tr.own, hV, hS1, hS2, hxz, hr, hn]
                have HANS := Lib.hid hans
                clear hans
                go_wp2_with fail
                go_ret
                exact ⟨by rw [HANS.out]; rfl, HB3.out.2⟩
            · have hNI : (N != 0) = true := by simpa using hN
              have hans : R = false := by
                rw [HR.out]
                simp [Tr.Hd.shape, Tr.Hd.num, Tr.isText, Tr.own, hV, hS1, hS2, hxz, hr, hN]
              have HANS := Lib.hid hans
              clear hans
              go_wp2_with fail
              go_ret
              exact ⟨by rw [HANS.out]; rfl, HB3.out.2⟩
          · have hr0 : 0 < raw.size := by omega
            have hrI : (raw.size : Int) > 0 := by omega
            have hans : R = false := by
              rw [HR.out]
              simp [Tr.Hd.shape, Tr.Hd.num, Tr.isText, Tr.own, hV, hS1, hS2, hxz, hr]
            have HANS := Lib.hid hans
            clear hans
            go_wp2_with fail
            go_ret
            exact ⟨by rw [HANS.out]; rfl, HB3.out.2⟩
        · have hxl : ¬ x.toList = [] := fun e => hxz ((Rd.empty x).1 e)
          have hxe : x.toList.isEmpty = false := by cases hh : x.toList with | nil => exact absurd hh hxl | cons a r => rfl
          by_cases hr : raw.size = 0
          · have hr0 : ¬ 0 < raw.size := by omega
            have hrI : ¬ (raw.size : Int) > 0 := by omega
            by_cases hN : N = 0
            · subst hN
              by_cases hn : n = 0
              · have hnI : ((n : Int) == 0) = true := by subst hn; rfl
                have hans : R = true := by
                  rw [HR.out]
                  simp [Tr.Hd.shape, Tr.Hd.num, Tr.isText, Tr.own, hV, hS1, hS2, hxz, hr, hn]
                have HANS := Lib.hid hans
                clear hans
                go_wp2_with fail
                go_ret
                exact ⟨by rw [HANS.out]; rfl, HB3.out.2⟩
              · have hnI : ((n : Int) == 0) = false := beq_eq_false_iff_ne.2 (by omega)
                have hans : R = false := by
                  rw [HR.out]
                  simp [Tr.Hd.shape, Tr.Hd.num, Tr.isText, Tr.own, hV, hS1, hS2, hxz, hr, hn]
                have HANS := Lib.hid hans
                clear hans
                go_wp2_with fail
                go_ret
                exact ⟨by rw [HANS.out]; rfl, HB3.out.2⟩
            · have hNI : (N != 0) = true := by simpa using hN
              have hans : R = false := by
                rw [HR.out]
                simp [Tr.Hd.shape, Tr.Hd.num, Tr.isText, Tr.own, hV, hS1, hS2, hxz, hr, hN]
              have HANS := Lib.hid hans
              clear hans
              go_wp2_with fail
              go_ret
              exact ⟨by rw [HANS.out]; rfl, HB3.out.2⟩
          · have hr0 : 0 < raw.size := by omega
            have hrI : (raw.size : Int) > 0 := by omega
            have hans : R = false := by
              rw [HR.out]
              simp [Tr.Hd.shape, Tr.Hd.num, Tr.isText, Tr.own, hV, hS1, hS2, hxz, hr]
            have HANS := Lib.hid hans
            clear hans
            go_wp2_with fail
            go_ret
            exact ⟨by rw [HANS.out]; rfl, HB3.out.2⟩
end Go.Proofs.YtikmebkfdpbidaaGreatDoor
namespace Go.Proofs.YtikmebkfdpbidaaGreatDoor
open Go.RowKit
set_option linter.unusedVariables false
set_option linter.unusedSimpArgs false

set_option maxHeartbeats 1000000 in
set_option maxRecDepth 1000000 in
theorem Rd.shape7 (N : Int) (s1 s2 : Bool) (t1 b1 t2 b2 : List Nat) (x raw : ByteArray) (n : Nat) (a3 a4 a6 a7 a9 a10 : Option Addr) (c3 c4 c6 c7 c9 c10 : Nat) (w : World) (hx : x.size ≤ 1048576)
    (i3 : Nt.In w (.slice a3 t1.length c3) t1) (i4 : Nt.In w (.slice a4 b1.length c4) b1) (i6 : Nt.In w (.slice a6 t2.length c6) t2) (i7 : Nt.In w (.slice a7 b2.length c7) b2) (ok1 : Rt.GOk t1 b1) (ok2 : Rt.GOk t2 b2) :
    Calls Tryz.prog 75 #[.agg #[.int .i64 7, .int .i64 N, .bool s1, .slice a3 t1.length c3, .slice a4 b1.length c4, .bool s2, .slice a6 t2.length c6, .slice a7 b2.length c7, .string x, .slice a9 raw.size c9, .slice a10 n c10]] w fun e w' => e = .returned (.bool (Tr.Hd.shape ⟨7, N, s1, t1, b1, s2, t2, b2, x, raw⟩ n)) ∧ Below w.heap.size w w' := by
  obtain ⟨R, hR⟩ : ∃ z, z = Tr.Hd.shape ⟨7, N, s1, t1, b1, s2, t2, b2, x, raw⟩ n := ⟨_, rfl⟩
  rw [← hR]
  have HR := Lib.hid hR
  have hb0 : Below w.heap.size w (w.alloc (.cells #[.int .i64 7, .int .i64 N, .bool s1, .slice a3 t1.length c3, .slice a4 b1.length c4, .bool s2, .slice a6 t2.length c6, .slice a7 b2.length c7, .string x, .slice a9 raw.size c9, .slice a10 n c10] 30)) := (Below.refl _ _).alloc (Nat.le_refl _) _
  have hq0 : (w.alloc (.cells #[.int .i64 7, .int .i64 N, .bool s1, .slice a3 t1.length c3, .slice a4 b1.length c4, .bool s2, .slice a6 t2.length c6, .slice a7 b2.length c7, .string x, .slice a9 raw.size c9, .slice a10 n c10] 30)).heap[w.heap.size]? = some (.cells #[.int .i64 7, .int .i64 N, .bool s1, .slice a3 t1.length c3, .slice a4 b1.length c4, .bool s2, .slice a6 t2.length c6, .slice a7 b2.length c7, .string x, .slice a9 raw.size c9, .slice a10 n c10] 30 (0, 0)) := heap_alloc_new w _
  have hz0 : (w.alloc (.cells #[.int .i64 7, .int .i64 N, .bool s1, .slice a3 t1.length c3, .slice a4 b1.length c4, .bool s2, .slice a6 t2.length c6, .slice a7 b2.length c7, .string x, .slice a9 raw.size c9, .slice a10 n c10] 30)).heap.size = w.heap.size + 1 := by simp
  have HF : Hid (∀ w', Below (w.heap.size + 1) (w.alloc (.cells #[.int .i64 7, .int .i64 N, .bool s1, .slice a3 t1.length c3, .slice a4 b1.length c4, .bool s2, .slice a6 t2.length c6, .slice a7 b2.length c7, .string x, .slice a9 raw.size c9, .slice a10 n c10] 30)) w' → (∀ j, w'.cell? ⟨w.heap.size, j, none⟩ = (#[.int .i64 7, .int .i64 N, .bool s1, .slice a3 t1.length c3, .slice a4 b1.length c4, .bool s2, .slice a6 t2.length c6, .slice a7 b2.length c7, .string x, .slice a9 raw.size c9, .slice a10 n c10] : Array Value)[j]?) ∧ Below w.heap.size w w') := Lib.hid (fun w' hb => by
    have a0 := (hb.block w.heap.size (Nat.lt_succ_self _)).trans hq0
    exact ⟨fun j => by simp [World.cell?, a0], hb0.trans (hb.mono (Nat.le_succ _))⟩)
  have KV := Ru.valid_any x (w.alloc (.cells #[.int .i64 7, .int .i64 N, .bool s1, .slice a3 t1.length c3, .slice a4 b1.length c4, .bool s2, .slice a6 t2.length c6, .slice a7 b2.length c7, .string x, .slice a9 raw.size c9, .slice a10 n c10] 30)) (by omega)
  rw [hz0] at KV
  have HK1 := Lib.hid (fun w' (hb : Below w.heap.size w w') => Rn.noRat_any s1 t1 b1 _ _ w' (i3.below hb (Nat.le_refl _)) (i4.below hb (Nat.le_refl _)) ok1.l1 ok1.l2)
  have HK2 := Lib.hid (fun w' (hb : Below w.heap.size w w') => Rn.noRat_any s2 t2 b2 _ _ w' (i6.below hb (Nat.le_refl _)) (i7.below hb (Nat.le_refl _)) ok2.l1 ok2.l2)
  clear hb0 hq0 hz0 hR i3 i4 i6 i7 ok1 ok2 hx
  cases hV : Lib.validD x.data.toList
  all_goals
    rw [hV] at KV
    go_enter Tryz.func75, Tryz.ntmps75
    go_wp2_with fail
    refine KV.mono ?_
    rintro z w1 ⟨rfl, hb1⟩
    obtain ⟨d, hbw1⟩ := HF.out w1 hb1
    have d0 := d 0
    have d2 := d 2
    have d3 := d 3
    have d4 := d 4
    have d5 := d 5
    have d6 := d 6
    have d7 := d 7
    have HB1 := Lib.hid (And.intro hb1 hbw1)
    clear hb1 hbw1 d KV
  · have hans : R = false := by
      rw [HR.out]
      simp [Tr.Hd.shape, Tr.Hd.num, Tr.isText, Tr.own, hV]
    have HANS := Lib.hid hans
    clear hans
    go_wp2_with fail
    go_ret
    exact ⟨by rw [HANS.out]; rfl, HB1.out.2⟩
  · cases hS1 : Rt.noRat s1 t1 b1
    all_goals
      have KN := HK1.out w1 HB1.out.2
      rw [hS1] at KN
      go_wp2_with fail
      refine KN.mono ?_
      rintro z w2 ⟨rfl, hb2⟩
      have hb2' := HB1.out.1.trans (hb2.mono (by have := HB1.out.1.size; simp at this; omega))
      obtain ⟨d, hbw2⟩ := HF.out w2 hb2'
      clear d0 d2 d3 d4 d5 d6 d7
      have d0 := d 0
      have d2 := d 2
      have d5 := d 5
      have d6 := d 6
      have d7 := d 7
      have HB2 := Lib.hid (And.intro hb2' hbw2)
      clear hb2 hb2' hbw2 d
      clear KN
    · have hans : R = false := by
        rw [HR.out]
        simp [Tr.Hd.shape, Tr.Hd.num, Tr.isText, Tr.own, hV, hS1]
      have HANS := Lib.hid hans
      clear hans
      go_wp2_with fail
      go_ret
      exact ⟨by rw [HANS.out]; rfl, HB2.out.2⟩
    · cases hS2 : Rt.noRat s2 t2 b2
      all_goals
        have KN := HK2.out w2 HB2.out.2
        rw [hS2] at KN
        go_wp2_with fail
        refine KN.mono ?_
        rintro z w3 ⟨rfl, hb3⟩
        have hb3' := HB2.out.1.trans (hb3.mono (by have := HB2.out.1.size; simp at this; omega))
        obtain ⟨d, hbw3⟩ := HF.out w3 hb3'
        clear d0 d2 d5 d6 d7
        have d0 := d 0
        have d1 := d 1
        have d8 := d 8
        have d9 := d 9
        have d10 := d 10
        have HB3 := Lib.hid (And.intro hb3' hbw3)
        clear hb3 hb3' hbw3 d
        clear KN
      · have hans : R = false := by
          rw [HR.out]
          simp [Tr.Hd.shape, Tr.Hd.num, Tr.isText, Tr.own, hV, hS1, hS2]
        have HANS := Lib.hid hans
        clear hans
        go_wp2_with fail
        go_ret
        exact ⟨by rw [HANS.out]; rfl, HB3.out.2⟩
      · by_cases hxz : x.size = 0
        · have hxl : x.toList = [] := (Rd.empty x).2 hxz
          by_cases hr : raw.size = 0
          · have hr0 : ¬ 0 < raw.size := by omega
            have hrI : ¬ (raw.size : Int) > 0 := by omega
            by_cases hN : N = 0
            · subst hN
              by_cases hn : n = 0
              · have hnI : ((n : Int) == 0) = true := by subst hn; rfl
                have hans : R = true := by
                  rw [HR.out]
                  simp [Tr.Hd.shape, Tr.Hd.num, Tr.isText, Tr.own, hV, hS1, hS2, hxz, hr, hn]
                have HANS := Lib.hid hans
                clear hans
                go_wp2_with fail
                go_ret
                exact ⟨by rw [HANS.out]; rfl, HB3.out.2⟩
              · have hnI : ((n : Int) == 0) = false := beq_eq_false_iff_ne.2 (by omega)
                have hans : R = false := by
                  rw [HR.out]
                  simp [Tr.Hd.shape, Tr.Hd.num, Tr.isText, Tr.own, hV, hS1, hS2, hxz, hr, hn]
                have HANS := Lib.hid hans
                clear hans
                go_wp2_with fail
                go_ret
                exact ⟨by rw [HANS.out]; rfl, HB3.out.2⟩
            · have hNI : (N != 0) = true := by simpa using hN
              have hans : R = false := by
                rw [HR.out]
                simp [Tr.Hd.shape, Tr.Hd.num, Tr.isText, Tr.own, hV, hS1, hS2, hxz, hr, hN]
              have HANS := Lib.hid hans
              clear hans
              go_wp2_with fail
              go_ret
              exact ⟨by rw [HANS.out]; rfl, HB3.out.2⟩
          · have hr0 : 0 < raw.size := by omega
            have hrI : (raw.size : Int) > 0 := by omega
            by_cases hN : N = 0
            · subst hN
              by_cases hn : n = 0
              · have hnI : ((n : Int) == 0) = true := by subst hn; rfl
                have hans : R = true := by
                  rw [HR.out]
                  simp [Tr.Hd.shape, Tr.Hd.num, Tr.isText, Tr.own, hV, hS1, hS2, hxz, hr, hn]
                have HANS := Lib.hid hans
                clear hans
                go_wp2_with fail
                go_ret
                exact ⟨by rw [HANS.out]; rfl, HB3.out.2⟩
              · have hnI : ((n : Int) == 0) = false := beq_eq_false_iff_ne.2 (by omega)
                have hans : R = false := by
                  rw [HR.out]
                  simp [Tr.Hd.shape, Tr.Hd.num, Tr.isText, Tr.own, hV, hS1, hS2, hxz, hr, hn]
                have HANS := Lib.hid hans
                clear hans
                go_wp2_with fail
                go_ret
                exact ⟨by rw [HANS.out]; rfl, HB3.out.2⟩
            · have hNI : (N != 0) = true := by simpa using hN
              have hans : R = false := by
                rw [HR.out]
                simp [Tr.Hd.shape, Tr.Hd.num, Tr.isText, Tr.own, hV, hS1, hS2, hxz, hr, hN]
              have HANS := Lib.hid hans
              clear hans
              go_wp2_with fail
              go_ret
              exact ⟨by rw [HANS.out]; rfl, HB3.out.2⟩
        · have hxl : ¬ x.toList = [] := fun e => hxz ((Rd.empty x).1 e)
          have hxe : x.toList.isEmpty = false := by cases hh : x.toList with | nil => exact absurd hh hxl | cons a r => rfl
          have hans : R = false := by
            rw [HR.out]
            simp [Tr.Hd.shape, Tr.Hd.num, Tr.isText, Tr.own, hV, hS1, hS2, hxz]
          have HANS := Lib.hid hans
          clear hans
          go_wp2_with fail
          go_ret
          exact ⟨by rw [HANS.out]; rfl, HB3.out.2⟩
end Go.Proofs.YtikmebkfdpbidaaGreatDoor
namespace Go.Proofs.YtikmebkfdpbidaaGreatDoor
open Go.RowKit
set_option linter.unusedVariables false
set_option linter.unusedSimpArgs false

set_option maxHeartbeats 1000000 in
set_option maxRecDepth 1000000 in
theorem Rd.shape8 (N : Int) (s1 s2 : Bool) (t1 b1 t2 b2 : List Nat) (x raw : ByteArray) (n : Nat) (a3 a4 a6 a7 a9 a10 : Option Addr) (c3 c4 c6 c7 c9 c10 : Nat) (w : World) (hx : x.size ≤ 1048576)
    (i3 : Nt.In w (.slice a3 t1.length c3) t1) (i4 : Nt.In w (.slice a4 b1.length c4) b1) (i6 : Nt.In w (.slice a6 t2.length c6) t2) (i7 : Nt.In w (.slice a7 b2.length c7) b2) (ok1 : Rt.GOk t1 b1) (ok2 : Rt.GOk t2 b2) :
    Calls Tryz.prog 75 #[.agg #[.int .i64 8, .int .i64 N, .bool s1, .slice a3 t1.length c3, .slice a4 b1.length c4, .bool s2, .slice a6 t2.length c6, .slice a7 b2.length c7, .string x, .slice a9 raw.size c9, .slice a10 n c10]] w fun e w' => e = .returned (.bool (Tr.Hd.shape ⟨8, N, s1, t1, b1, s2, t2, b2, x, raw⟩ n)) ∧ Below w.heap.size w w' := by
  obtain ⟨R, hR⟩ : ∃ z, z = Tr.Hd.shape ⟨8, N, s1, t1, b1, s2, t2, b2, x, raw⟩ n := ⟨_, rfl⟩
  rw [← hR]
  have HR := Lib.hid hR
  have hb0 : Below w.heap.size w (w.alloc (.cells #[.int .i64 8, .int .i64 N, .bool s1, .slice a3 t1.length c3, .slice a4 b1.length c4, .bool s2, .slice a6 t2.length c6, .slice a7 b2.length c7, .string x, .slice a9 raw.size c9, .slice a10 n c10] 30)) := (Below.refl _ _).alloc (Nat.le_refl _) _
  have hq0 : (w.alloc (.cells #[.int .i64 8, .int .i64 N, .bool s1, .slice a3 t1.length c3, .slice a4 b1.length c4, .bool s2, .slice a6 t2.length c6, .slice a7 b2.length c7, .string x, .slice a9 raw.size c9, .slice a10 n c10] 30)).heap[w.heap.size]? = some (.cells #[.int .i64 8, .int .i64 N, .bool s1, .slice a3 t1.length c3, .slice a4 b1.length c4, .bool s2, .slice a6 t2.length c6, .slice a7 b2.length c7, .string x, .slice a9 raw.size c9, .slice a10 n c10] 30 (0, 0)) := heap_alloc_new w _
  have hz0 : (w.alloc (.cells #[.int .i64 8, .int .i64 N, .bool s1, .slice a3 t1.length c3, .slice a4 b1.length c4, .bool s2, .slice a6 t2.length c6, .slice a7 b2.length c7, .string x, .slice a9 raw.size c9, .slice a10 n c10] 30)).heap.size = w.heap.size + 1 := by simp
  have HF : Hid (∀ w', Below (w.heap.size + 1) (w.alloc (.cells #[.int .i64 8, .int .i64 N, .bool s1, .slice a3 t1.length c3, .slice a4 b1.length c4, .bool s2, .slice a6 t2.length c6, .slice a7 b2.length c7, .string x, .slice a9 raw.size c9, .slice a10 n c10] 30)) w' → (∀ j, w'.cell? ⟨w.heap.size, j, none⟩ = (#[.int .i64 8, .int .i64 N, .bool s1, .slice a3 t1.length c3, .slice a4 b1.length c4, .bool s2, .slice a6 t2.length c6, .slice a7 b2.length c7, .string x, .slice a9 raw.size c9, .slice a10 n c10] : Array Value)[j]?) ∧ Below w.heap.size w w') := Lib.hid (fun w' hb => by
    have a0 := (hb.block w.heap.size (Nat.lt_succ_self _)).trans hq0
    exact ⟨fun j => by simp [World.cell?, a0], hb0.trans (hb.mono (Nat.le_succ _))⟩)
  have KV := Ru.valid_any x (w.alloc (.cells #[.int .i64 8, .int .i64 N, .bool s1, .slice a3 t1.length c3, .slice a4 b1.length c4, .bool s2, .slice a6 t2.length c6, .slice a7 b2.length c7, .string x, .slice a9 raw.size c9, .slice a10 n c10] 30)) (by omega)
  rw [hz0] at KV
  have HK1 := Lib.hid (fun w' (hb : Below w.heap.size w w') => Rn.noRat_any s1 t1 b1 _ _ w' (i3.below hb (Nat.le_refl _)) (i4.below hb (Nat.le_refl _)) ok1.l1 ok1.l2)
  have HK2 := Lib.hid (fun w' (hb : Below w.heap.size w w') => Rn.noRat_any s2 t2 b2 _ _ w' (i6.below hb (Nat.le_refl _)) (i7.below hb (Nat.le_refl _)) ok2.l1 ok2.l2)
  clear hb0 hq0 hz0 hR i3 i4 i6 i7 ok1 ok2 hx
  cases hV : Lib.validD x.data.toList
  all_goals
    rw [hV] at KV
    go_enter Tryz.func75, Tryz.ntmps75
    go_wp2_with fail
    refine KV.mono ?_
    rintro z w1 ⟨rfl, hb1⟩
    obtain ⟨d, hbw1⟩ := HF.out w1 hb1
    have d0 := d 0
    have d2 := d 2
    have d3 := d 3
    have d4 := d 4
    have d5 := d 5
    have d6 := d 6
    have d7 := d 7
    have HB1 := Lib.hid (And.intro hb1 hbw1)
    clear hb1 hbw1 d KV
  · have hans : R = false := by
      rw [HR.out]
      simp [Tr.Hd.shape, Tr.Hd.num, Tr.isText, Tr.own, hV]
    have HANS := Lib.hid hans
    clear hans
    go_wp2_with fail
    go_ret
    exact ⟨by rw [HANS.out]; rfl, HB1.out.2⟩
  · cases hS1 : Rt.noRat s1 t1 b1
    all_goals
      have KN := HK1.out w1 HB1.out.2
      rw [hS1] at KN
      go_wp2_with fail
      refine KN.mono ?_
      rintro z w2 ⟨rfl, hb2⟩
      have hb2' := HB1.out.1.trans (hb2.mono (by have := HB1.out.1.size; simp at this; omega))
      obtain ⟨d, hbw2⟩ := HF.out w2 hb2'
      clear d0 d2 d3 d4 d5 d6 d7
      have d0 := d 0
      have d2 := d 2
      have d5 := d 5
      have d6 := d 6
      have d7 := d 7
      have HB2 := Lib.hid (And.intro hb2' hbw2)
      clear hb2 hb2' hbw2 d
      clear KN
    · have hans : R = false := by
        rw [HR.out]
        simp [Tr.Hd.shape, Tr.Hd.num, Tr.isText, Tr.own, hV, hS1]
      have HANS := Lib.hid hans
      clear hans
      go_wp2_with fail
      go_ret
      exact ⟨by rw [HANS.out]; rfl, HB2.out.2⟩
    · cases hS2 : Rt.noRat s2 t2 b2
      all_goals
        have KN := HK2.out w2 HB2.out.2
        rw [hS2] at KN
        go_wp2_with fail
        refine KN.mono ?_
        rintro z w3 ⟨rfl, hb3⟩
        have hb3' := HB2.out.1.trans (hb3.mono (by have := HB2.out.1.size; simp at this; omega))
        obtain ⟨d, hbw3⟩ := HF.out w3 hb3'
        clear d0 d2 d5 d6 d7
        have d0 := d 0
        have d1 := d 1
        have d8 := d 8
        have d9 := d 9
        have d10 := d 10
        have HB3 := Lib.hid (And.intro hb3' hbw3)
        clear hb3 hb3' hbw3 d
        clear KN
      · have hans : R = false := by
          rw [HR.out]
          simp [Tr.Hd.shape, Tr.Hd.num, Tr.isText, Tr.own, hV, hS1, hS2]
        have HANS := Lib.hid hans
        clear hans
        go_wp2_with fail
        go_ret
        exact ⟨by rw [HANS.out]; rfl, HB3.out.2⟩
      · by_cases hxz : x.size = 0
        · have hxl : x.toList = [] := (Rd.empty x).2 hxz
          by_cases hr : raw.size = 0
          · have hr0 : ¬ 0 < raw.size := by omega
            have hrI : ¬ (raw.size : Int) > 0 := by omega
            by_cases hN : N = 0
            · subst hN
              by_cases hn : n = 2
              · have hnI : ((n : Int) == 2) = true := by subst hn; rfl
                have hans : R = true := by
                  rw [HR.out]
                  simp [Tr.Hd.shape, Tr.Hd.num, Tr.isText, Tr.own, hV, hS1, hS2, hxz, hr, hn]
                have HANS := Lib.hid hans
                clear hans
                go_wp2_with fail
                go_ret
                exact ⟨by rw [HANS.out]; rfl, HB3.out.2⟩
              · have hnI : ((n : Int) == 2) = false := beq_eq_false_iff_ne.2 (by omega)
                have hans : R = false := by
                  rw [HR.out]
                  simp [Tr.Hd.shape, Tr.Hd.num, Tr.isText, Tr.own, hV, hS1, hS2, hxz, hr, hn]
                have HANS := Lib.hid hans
                clear hans
                go_wp2_with fail
                go_ret
                exact ⟨by rw [HANS.out]; rfl, HB3.out.2⟩
            · have hNI : (N != 0) = true := by simpa using hN
              have hans : R = false := by
                rw [HR.out]
                simp [Tr.Hd.shape, Tr.Hd.num, Tr.isText, Tr.own, hV, hS1, hS2, hxz, hr, hN]
              have HANS := Lib.hid hans
              clear hans
              go_wp2_with fail
              go_ret
              exact ⟨by rw [HANS.out]; rfl, HB3.out.2⟩
          · have hr0 : 0 < raw.size := by omega
            have hrI : (raw.size : Int) > 0 := by omega
            have hans : R = false := by
              rw [HR.out]
              simp [Tr.Hd.shape, Tr.Hd.num, Tr.isText, Tr.own, hV, hS1, hS2, hxz, hr]
            have HANS := Lib.hid hans
            clear hans
            go_wp2_with fail
            go_ret
            exact ⟨by rw [HANS.out]; rfl, HB3.out.2⟩
        · have hxl : ¬ x.toList = [] := fun e => hxz ((Rd.empty x).1 e)
          have hxe : x.toList.isEmpty = false := by cases hh : x.toList with | nil => exact absurd hh hxl | cons a r => rfl
          have hans : R = false := by
            rw [HR.out]
            simp [Tr.Hd.shape, Tr.Hd.num, Tr.isText, Tr.own, hV, hS1, hS2, hxz]
          have HANS := Lib.hid hans
          clear hans
          go_wp2_with fail
          go_ret
          exact ⟨by rw [HANS.out]; rfl, HB3.out.2⟩
end Go.Proofs.YtikmebkfdpbidaaGreatDoor
namespace Go.Proofs.YtikmebkfdpbidaaGreatDoor
open Go.RowKit
set_option linter.unusedVariables false
set_option linter.unusedSimpArgs false

set_option maxHeartbeats 1000000 in
set_option maxRecDepth 1000000 in
theorem Rd.shape9 (N : Int) (s1 s2 : Bool) (t1 b1 t2 b2 : List Nat) (x raw : ByteArray) (n : Nat) (a3 a4 a6 a7 a9 a10 : Option Addr) (c3 c4 c6 c7 c9 c10 : Nat) (w : World) (hx : x.size ≤ 1048576)
    (i3 : Nt.In w (.slice a3 t1.length c3) t1) (i4 : Nt.In w (.slice a4 b1.length c4) b1) (i6 : Nt.In w (.slice a6 t2.length c6) t2) (i7 : Nt.In w (.slice a7 b2.length c7) b2) (ok1 : Rt.GOk t1 b1) (ok2 : Rt.GOk t2 b2) :
    Calls Tryz.prog 75 #[.agg #[.int .i64 9, .int .i64 N, .bool s1, .slice a3 t1.length c3, .slice a4 b1.length c4, .bool s2, .slice a6 t2.length c6, .slice a7 b2.length c7, .string x, .slice a9 raw.size c9, .slice a10 n c10]] w fun e w' => e = .returned (.bool (Tr.Hd.shape ⟨9, N, s1, t1, b1, s2, t2, b2, x, raw⟩ n)) ∧ Below w.heap.size w w' := by
  obtain ⟨R, hR⟩ : ∃ z, z = Tr.Hd.shape ⟨9, N, s1, t1, b1, s2, t2, b2, x, raw⟩ n := ⟨_, rfl⟩
  rw [← hR]
  have HR := Lib.hid hR
  have hb0 : Below w.heap.size w (w.alloc (.cells #[.int .i64 9, .int .i64 N, .bool s1, .slice a3 t1.length c3, .slice a4 b1.length c4, .bool s2, .slice a6 t2.length c6, .slice a7 b2.length c7, .string x, .slice a9 raw.size c9, .slice a10 n c10] 30)) := (Below.refl _ _).alloc (Nat.le_refl _) _
  have hq0 : (w.alloc (.cells #[.int .i64 9, .int .i64 N, .bool s1, .slice a3 t1.length c3, .slice a4 b1.length c4, .bool s2, .slice a6 t2.length c6, .slice a7 b2.length c7, .string x, .slice a9 raw.size c9, .slice a10 n c10] 30)).heap[w.heap.size]? = some (.cells #[.int .i64 9, .int .i64 N, .bool s1, .slice a3 t1.length c3, .slice a4 b1.length c4, .bool s2, .slice a6 t2.length c6, .slice a7 b2.length c7, .string x, .slice a9 raw.size c9, .slice a10 n c10] 30 (0, 0)) := heap_alloc_new w _
  have hz0 : (w.alloc (.cells #[.int .i64 9, .int .i64 N, .bool s1, .slice a3 t1.length c3, .slice a4 b1.length c4, .bool s2, .slice a6 t2.length c6, .slice a7 b2.length c7, .string x, .slice a9 raw.size c9, .slice a10 n c10] 30)).heap.size = w.heap.size + 1 := by simp
  have HF : Hid (∀ w', Below (w.heap.size + 1) (w.alloc (.cells #[.int .i64 9, .int .i64 N, .bool s1, .slice a3 t1.length c3, .slice a4 b1.length c4, .bool s2, .slice a6 t2.length c6, .slice a7 b2.length c7, .string x, .slice a9 raw.size c9, .slice a10 n c10] 30)) w' → (∀ j, w'.cell? ⟨w.heap.size, j, none⟩ = (#[.int .i64 9, .int .i64 N, .bool s1, .slice a3 t1.length c3, .slice a4 b1.length c4, .bool s2, .slice a6 t2.length c6, .slice a7 b2.length c7, .string x, .slice a9 raw.size c9, .slice a10 n c10] : Array Value)[j]?) ∧ Below w.heap.size w w') := Lib.hid (fun w' hb => by
    have a0 := (hb.block w.heap.size (Nat.lt_succ_self _)).trans hq0
    exact ⟨fun j => by simp [World.cell?, a0], hb0.trans (hb.mono (Nat.le_succ _))⟩)
  have KV := Ru.valid_any x (w.alloc (.cells #[.int .i64 9, .int .i64 N, .bool s1, .slice a3 t1.length c3, .slice a4 b1.length c4, .bool s2, .slice a6 t2.length c6, .slice a7 b2.length c7, .string x, .slice a9 raw.size c9, .slice a10 n c10] 30)) (by omega)
  rw [hz0] at KV
  have HK1 := Lib.hid (fun w' (hb : Below w.heap.size w w') => Rn.noRat_any s1 t1 b1 _ _ w' (i3.below hb (Nat.le_refl _)) (i4.below hb (Nat.le_refl _)) ok1.l1 ok1.l2)
  have HK2 := Lib.hid (fun w' (hb : Below w.heap.size w w') => Rn.noRat_any s2 t2 b2 _ _ w' (i6.below hb (Nat.le_refl _)) (i7.below hb (Nat.le_refl _)) ok2.l1 ok2.l2)
  clear hb0 hq0 hz0 hR i3 i4 i6 i7 ok1 ok2 hx
  cases hV : Lib.validD x.data.toList
  all_goals
    rw [hV] at KV
    go_enter Tryz.func75, Tryz.ntmps75
    go_wp2_with fail
    refine KV.mono ?_
    rintro z w1 ⟨rfl, hb1⟩
    obtain ⟨d, hbw1⟩ := HF.out w1 hb1
    have d0 := d 0
    have d2 := d 2
    have d3 := d 3
    have d4 := d 4
    have d5 := d 5
    have d6 := d 6
    have d7 := d 7
    have HB1 := Lib.hid (And.intro hb1 hbw1)
    clear hb1 hbw1 d KV
  · have hans : R = false := by
      rw [HR.out]
      simp [Tr.Hd.shape, Tr.Hd.num, Tr.isText, Tr.own, hV]
    have HANS := Lib.hid hans
    clear hans
    go_wp2_with fail
    go_ret
    exact ⟨by rw [HANS.out]; rfl, HB1.out.2⟩
  · cases hS1 : Rt.noRat s1 t1 b1
    all_goals
      have KN := HK1.out w1 HB1.out.2
      rw [hS1] at KN
      go_wp2_with fail
      refine KN.mono ?_
      rintro z w2 ⟨rfl, hb2⟩
      have hb2' := HB1.out.1.trans (hb2.mono (by have := HB1.out.1.size; simp at this; omega))
      obtain ⟨d, hbw2⟩ := HF.out w2 hb2'
      clear d0 d2 d3 d4 d5 d6 d7
      have d0 := d 0
      have d2 := d 2
      have d5 := d 5
      have d6 := d 6
      have d7 := d 7
      have HB2 := Lib.hid (And.intro hb2' hbw2)
      clear hb2 hb2' hbw2 d
      clear KN
    · have hans : R = false := by
        rw [HR.out]
        simp [Tr.Hd.shape, Tr.Hd.num, Tr.isText, Tr.own, hV, hS1]
      have HANS := Lib.hid hans
      clear hans
      go_wp2_with fail
      go_ret
      exact ⟨by rw [HANS.out]; rfl, HB2.out.2⟩
    · cases hS2 : Rt.noRat s2 t2 b2
      all_goals
        have KN := HK2.out w2 HB2.out.2
        rw [hS2] at KN
        go_wp2_with fail
        refine KN.mono ?_
        rintro z w3 ⟨rfl, hb3⟩
        have hb3' := HB2.out.1.trans (hb3.mono (by have := HB2.out.1.size; simp at this; omega))
        obtain ⟨d, hbw3⟩ := HF.out w3 hb3'
        clear d0 d2 d5 d6 d7
        have d0 := d 0
        have d1 := d 1
        have d8 := d 8
        have d9 := d 9
        have d10 := d 10
        have HB3 := Lib.hid (And.intro hb3' hbw3)
        clear hb3 hb3' hbw3 d
        clear KN
      · have hans : R = false := by
          rw [HR.out]
          simp [Tr.Hd.shape, Tr.Hd.num, Tr.isText, Tr.own, hV, hS1, hS2]
        have HANS := Lib.hid hans
        clear hans
        go_wp2_with fail
        go_ret
        exact ⟨by rw [HANS.out]; rfl, HB3.out.2⟩
      · by_cases hxz : x.size = 0
        · have hxl : x.toList = [] := (Rd.empty x).2 hxz
          by_cases hr : raw.size = 0
          · have hr0 : ¬ 0 < raw.size := by omega
            have hrI : ¬ (raw.size : Int) > 0 := by omega
            by_cases hN : N = 0
            · subst hN
              have hans : R = true := by
                rw [HR.out]
                simp [Tr.Hd.shape, Tr.Hd.num, Tr.isText, Tr.own, hV, hS1, hS2, hxz, hr]
              have HANS := Lib.hid hans
              clear hans
              go_wp2_with fail
              go_ret
              exact ⟨by rw [HANS.out]; rfl, HB3.out.2⟩
            · have hNI : (N != 0) = true := by simpa using hN
              have hans : R = false := by
                rw [HR.out]
                simp [Tr.Hd.shape, Tr.Hd.num, Tr.isText, Tr.own, hV, hS1, hS2, hxz, hr, hN]
              have HANS := Lib.hid hans
              clear hans
              go_wp2_with fail
              go_ret
              exact ⟨by rw [HANS.out]; rfl, HB3.out.2⟩
          · have hr0 : 0 < raw.size := by omega
            have hrI : (raw.size : Int) > 0 := by omega
            have hans : R = false := by
              rw [HR.out]
              simp [Tr.Hd.shape, Tr.Hd.num, Tr.isText, Tr.own, hV, hS1, hS2, hxz, hr]
            have HANS := Lib.hid hans
            clear hans
            go_wp2_with fail
            go_ret
            exact ⟨by rw [HANS.out]; rfl, HB3.out.2⟩
        · have hxl : ¬ x.toList = [] := fun e => hxz ((Rd.empty x).1 e)
          have hxe : x.toList.isEmpty = false := by cases hh : x.toList with | nil => exact absurd hh hxl | cons a r => rfl
          have hans : R = false := by
            rw [HR.out]
            simp [Tr.Hd.shape, Tr.Hd.num, Tr.isText, Tr.own, hV, hS1, hS2, hxz]
          have HANS := Lib.hid hans
          clear hans
          go_wp2_with fail
          go_ret
          exact ⟨by rw [HANS.out]; rfl, HB3.out.2⟩
end Go.Proofs.YtikmebkfdpbidaaGreatDoor
namespace Go.Proofs.YtikmebkfdpbidaaGreatDoor
open Go.RowKit
set_option linter.unusedVariables false
set_option linter.unusedSimpArgs false

set_option maxHeartbeats 1000000 in
set_option maxRecDepth 1000000 in
theorem Rd.shape10 (N : Int) (s1 s2 : Bool) (t1 b1 t2 b2 : List Nat) (x raw : ByteArray) (n : Nat) (a3 a4 a6 a7 a9 a10 : Option Addr) (c3 c4 c6 c7 c9 c10 : Nat) (w : World) (hx : x.size ≤ 1048576)
    (i3 : Nt.In w (.slice a3 t1.length c3) t1) (i4 : Nt.In w (.slice a4 b1.length c4) b1) (i6 : Nt.In w (.slice a6 t2.length c6) t2) (i7 : Nt.In w (.slice a7 b2.length c7) b2) (ok1 : Rt.GOk t1 b1) (ok2 : Rt.GOk t2 b2) :
    Calls Tryz.prog 75 #[.agg #[.int .i64 10, .int .i64 N, .bool s1, .slice a3 t1.length c3, .slice a4 b1.length c4, .bool s2, .slice a6 t2.length c6, .slice a7 b2.length c7, .string x, .slice a9 raw.size c9, .slice a10 n c10]] w fun e w' => e = .returned (.bool (Tr.Hd.shape ⟨10, N, s1, t1, b1, s2, t2, b2, x, raw⟩ n)) ∧ Below w.heap.size w w' := by
  obtain ⟨R, hR⟩ : ∃ z, z = Tr.Hd.shape ⟨10, N, s1, t1, b1, s2, t2, b2, x, raw⟩ n := ⟨_, rfl⟩
  rw [← hR]
  have HR := Lib.hid hR
  have hb0 : Below w.heap.size w (w.alloc (.cells #[.int .i64 10, .int .i64 N, .bool s1, .slice a3 t1.length c3, .slice a4 b1.length c4, .bool s2, .slice a6 t2.length c6, .slice a7 b2.length c7, .string x, .slice a9 raw.size c9, .slice a10 n c10] 30)) := (Below.refl _ _).alloc (Nat.le_refl _) _
  have hq0 : (w.alloc (.cells #[.int .i64 10, .int .i64 N, .bool s1, .slice a3 t1.length c3, .slice a4 b1.length c4, .bool s2, .slice a6 t2.length c6, .slice a7 b2.length c7, .string x, .slice a9 raw.size c9, .slice a10 n c10] 30)).heap[w.heap.size]? = some (.cells #[.int .i64 10, .int .i64 N, .bool s1, .slice a3 t1.length c3, .slice a4 b1.length c4, .bool s2, .slice a6 t2.length c6, .slice a7 b2.length c7, .string x, .slice a9 raw.size c9, .slice a10 n c10] 30 (0, 0)) := heap_alloc_new w _
  have hz0 : (w.alloc (.cells #[.int .i64 10, .int .i64 N, .bool s1, .slice a3 t1.length c3, .slice a4 b1.length c4, .bool s2, .slice a6 t2.length c6, .slice a7 b2.length c7, .string x, .slice a9 raw.size c9, .slice a10 n c10] 30)).heap.size = w.heap.size + 1 := by simp
  have HF : Hid (∀ w', Below (w.heap.size + 1) (w.alloc (.cells #[.int .i64 10, .int .i64 N, .bool s1, .slice a3 t1.length c3, .slice a4 b1.length c4, .bool s2, .slice a6 t2.length c6, .slice a7 b2.length c7, .string x, .slice a9 raw.size c9, .slice a10 n c10] 30)) w' → (∀ j, w'.cell? ⟨w.heap.size, j, none⟩ = (#[.int .i64 10, .int .i64 N, .bool s1, .slice a3 t1.length c3, .slice a4 b1.length c4, .bool s2, .slice a6 t2.length c6, .slice a7 b2.length c7, .string x, .slice a9 raw.size c9, .slice a10 n c10] : Array Value)[j]?) ∧ Below w.heap.size w w') := Lib.hid (fun w' hb => by
    have a0 := (hb.block w.heap.size (Nat.lt_succ_self _)).trans hq0
    exact ⟨fun j => by simp [World.cell?, a0], hb0.trans (hb.mono (Nat.le_succ _))⟩)
  have KV := Ru.valid_any x (w.alloc (.cells #[.int .i64 10, .int .i64 N, .bool s1, .slice a3 t1.length c3, .slice a4 b1.length c4, .bool s2, .slice a6 t2.length c6, .slice a7 b2.length c7, .string x, .slice a9 raw.size c9, .slice a10 n c10] 30)) (by omega)
  rw [hz0] at KV
  have HK1 := Lib.hid (fun w' (hb : Below w.heap.size w w') => Rn.noRat_any s1 t1 b1 _ _ w' (i3.below hb (Nat.le_refl _)) (i4.below hb (Nat.le_refl _)) ok1.l1 ok1.l2)
  have HK2 := Lib.hid (fun w' (hb : Below w.heap.size w w') => Rn.noRat_any s2 t2 b2 _ _ w' (i6.below hb (Nat.le_refl _)) (i7.below hb (Nat.le_refl _)) ok2.l1 ok2.l2)
  clear hb0 hq0 hz0 hR i3 i4 i6 i7 ok1 ok2 hx
  cases hV : Lib.validD x.data.toList
  all_goals
    rw [hV] at KV
    go_enter Tryz.func75, Tryz.ntmps75
    go_wp2_with fail
    refine KV.mono ?_
    rintro z w1 ⟨rfl, hb1⟩
    obtain ⟨d, hbw1⟩ := HF.out w1 hb1
    have d0 := d 0
    have d2 := d 2
    have d3 := d 3
    have d4 := d 4
    have d5 := d 5
    have d6 := d 6
    have d7 := d 7
    have HB1 := Lib.hid (And.intro hb1 hbw1)
    clear hb1 hbw1 d KV
  · have hans : R = false := by
      rw [HR.out]
      simp [Tr.Hd.shape, Tr.Hd.num, Tr.isText, Tr.own, hV]
    have HANS := Lib.hid hans
    clear hans
    go_wp2_with fail
    go_ret
    exact ⟨by rw [HANS.out]; rfl, HB1.out.2⟩
  · cases hS1 : Rt.noRat s1 t1 b1
    all_goals
      have KN := HK1.out w1 HB1.out.2
      rw [hS1] at KN
      go_wp2_with fail
      refine KN.mono ?_
      rintro z w2 ⟨rfl, hb2⟩
      have hb2' := HB1.out.1.trans (hb2.mono (by have := HB1.out.1.size; simp at this; omega))
      obtain ⟨d, hbw2⟩ := HF.out w2 hb2'
      clear d0 d2 d3 d4 d5 d6 d7
      have d0 := d 0
      have d2 := d 2
      have d5 := d 5
      have d6 := d 6
      have d7 := d 7
      have HB2 := Lib.hid (And.intro hb2' hbw2)
      clear hb2 hb2' hbw2 d
      clear KN
    · have hans : R = false := by
        rw [HR.out]
        simp [Tr.Hd.shape, Tr.Hd.num, Tr.isText, Tr.own, hV, hS1]
      have HANS := Lib.hid hans
      clear hans
      go_wp2_with fail
      go_ret
      exact ⟨by rw [HANS.out]; rfl, HB2.out.2⟩
    · cases hS2 : Rt.noRat s2 t2 b2
      all_goals
        have KN := HK2.out w2 HB2.out.2
        rw [hS2] at KN
        go_wp2_with fail
        refine KN.mono ?_
        rintro z w3 ⟨rfl, hb3⟩
        have hb3' := HB2.out.1.trans (hb3.mono (by have := HB2.out.1.size; simp at this; omega))
        obtain ⟨d, hbw3⟩ := HF.out w3 hb3'
        clear d0 d2 d5 d6 d7
        have d0 := d 0
        have d1 := d 1
        have d8 := d 8
        have d9 := d 9
        have d10 := d 10
        have HB3 := Lib.hid (And.intro hb3' hbw3)
        clear hb3 hb3' hbw3 d
        clear KN
      · have hans : R = false := by
          rw [HR.out]
          simp [Tr.Hd.shape, Tr.Hd.num, Tr.isText, Tr.own, hV, hS1, hS2]
        have HANS := Lib.hid hans
        clear hans
        go_wp2_with fail
        go_ret
        exact ⟨by rw [HANS.out]; rfl, HB3.out.2⟩
      · by_cases hxz : x.size = 0
        · have hxl : x.toList = [] := (Rd.empty x).2 hxz
          by_cases hr : raw.size = 0
          · have hr0 : ¬ 0 < raw.size := by omega
            have hrI : ¬ (raw.size : Int) > 0 := by omega
            by_cases hN : N = 0
            · subst hN
              by_cases hn : n = 0
              · have hnI : ((n : Int) == 0) = true := by subst hn; rfl
                have hans : R = true := by
                  rw [HR.out]
                  simp [Tr.Hd.shape, Tr.Hd.num, Tr.isText, Tr.own, hV, hS1, hS2, hxz, hr, hn]
                have HANS := Lib.hid hans
                clear hans
                go_wp2_with fail
                go_ret
                exact ⟨by rw [HANS.out]; rfl, HB3.out.2⟩
              · have hnI : ((n : Int) == 0) = false := beq_eq_false_iff_ne.2 (by omega)
                have hans : R = false := by
                  rw [HR.out]
                  simp [Tr.Hd.shape, Tr.Hd.num, Tr.isText, Tr.own, hV, hS1, hS2, hxz, hr, hn]
                have HANS := Lib.hid hans
                clear hans
                go_wp2_with fail
                go_ret
                exact ⟨by rw [HANS.out]; rfl, HB3.out.2⟩
            · have hNI : (N != 0) = true := by simpa using hN
              have hans : R = false := by
                rw [HR.out]
                simp [Tr.Hd.shape, Tr.Hd.num, Tr.isText, Tr.own, hV, hS1, hS2, hxz, hr, hN]
              have HANS := Lib.hid hans
              clear hans
              go_wp2_with fail
              go_ret
              exact ⟨by rw [HANS.out]; rfl, HB3.out.2⟩
          · have hr0 : 0 < raw.size := by omega
            have hrI : (raw.size : Int) > 0 := by omega
            have hans : R = false := by
              rw [HR.out]
              simp [Tr.Hd.shape, Tr.Hd.num, Tr.isText, Tr.own, hV, hS1, hS2, hxz, hr]
            have HANS := Lib.hid hans
            clear hans
            go_wp2_with fail
            go_ret
            exact ⟨by rw [HANS.out]; rfl, HB3.out.2⟩
        · have hxl : ¬ x.toList = [] := fun e => hxz ((Rd.empty x).1 e)
          have hxe : x.toList.isEmpty = false := by cases hh : x.toList with | nil => exact absurd hh hxl | cons a r => rfl
          have hans : R = false := by
            rw [HR.out]
            simp [Tr.Hd.shape, Tr.Hd.num, Tr.isText, Tr.own, hV, hS1, hS2, hxz]
          have HANS := Lib.hid hans
          clear hans
          go_wp2_with fail
          go_ret
          exact ⟨by rw [HANS.out]; rfl, HB3.out.2⟩
end Go.Proofs.YtikmebkfdpbidaaGreatDoor
namespace Go.Proofs.YtikmebkfdpbidaaGreatDoor
open Go.RowKit
set_option linter.unusedVariables false
set_option linter.unusedSimpArgs false

set_option maxHeartbeats 1000000 in
set_option maxRecDepth 1000000 in
theorem Rd.shape11 (N : Int) (s1 s2 : Bool) (t1 b1 t2 b2 : List Nat) (x raw : ByteArray) (n : Nat) (a3 a4 a6 a7 a9 a10 : Option Addr) (c3 c4 c6 c7 c9 c10 : Nat) (w : World) (hx : x.size ≤ 1048576)
    (i3 : Nt.In w (.slice a3 t1.length c3) t1) (i4 : Nt.In w (.slice a4 b1.length c4) b1) (i6 : Nt.In w (.slice a6 t2.length c6) t2) (i7 : Nt.In w (.slice a7 b2.length c7) b2) (ok1 : Rt.GOk t1 b1) (ok2 : Rt.GOk t2 b2) :
    Calls Tryz.prog 75 #[.agg #[.int .i64 11, .int .i64 N, .bool s1, .slice a3 t1.length c3, .slice a4 b1.length c4, .bool s2, .slice a6 t2.length c6, .slice a7 b2.length c7, .string x, .slice a9 raw.size c9, .slice a10 n c10]] w fun e w' => e = .returned (.bool (Tr.Hd.shape ⟨11, N, s1, t1, b1, s2, t2, b2, x, raw⟩ n)) ∧ Below w.heap.size w w' := by
  obtain ⟨R, hR⟩ : ∃ z, z = Tr.Hd.shape ⟨11, N, s1, t1, b1, s2, t2, b2, x, raw⟩ n := ⟨_, rfl⟩
  rw [← hR]
  have HR := Lib.hid hR
  have hb0 : Below w.heap.size w (w.alloc (.cells #[.int .i64 11, .int .i64 N, .bool s1, .slice a3 t1.length c3, .slice a4 b1.length c4, .bool s2, .slice a6 t2.length c6, .slice a7 b2.length c7, .string x, .slice a9 raw.size c9, .slice a10 n c10] 30)) := (Below.refl _ _).alloc (Nat.le_refl _) _
  have hq0 : (w.alloc (.cells #[.int .i64 11, .int .i64 N, .bool s1, .slice a3 t1.length c3, .slice a4 b1.length c4, .bool s2, .slice a6 t2.length c6, .slice a7 b2.length c7, .string x, .slice a9 raw.size c9, .slice a10 n c10] 30)).heap[w.heap.size]? = some (.cells #[.int .i64 11, .int .i64 N, .bool s1, .slice a3 t1.length c3, .slice a4 b1.length c4, .bool s2, .slice a6 t2.length c6, .slice a7 b2.length c7, .string x, .slice a9 raw.size c9, .slice a10 n c10] 30 (0, 0)) := heap_alloc_new w _
  have hz0 : (w.alloc (.cells #[.int .i64 11, .int .i64 N, .bool s1, .slice a3 t1.length c3, .slice a4 b1.length c4, .bool s2, .slice a6 t2.length c6, .slice a7 b2.length c7, .string x, .slice a9 raw.size c9, .slice a10 n c10] 30)).heap.size = w.heap.size + 1 := by simp
  have HF : Hid (∀ w', Below (w.heap.size + 1) (w.alloc (.cells #[.int .i64 11, .int .i64 N, .bool s1, .slice a3 t1.length c3, .slice a4 b1.length c4, .bool s2, .slice a6 t2.length c6, .slice a7 b2.length c7, .string x, .slice a9 raw.size c9, .slice a10 n c10] 30)) w' → (∀ j, w'.cell? ⟨w.heap.size, j, none⟩ = (#[.int .i64 11, .int .i64 N, .bool s1, .slice a3 t1.length c3, .slice a4 b1.length c4, .bool s2, .slice a6 t2.length c6, .slice a7 b2.length c7, .string x, .slice a9 raw.size c9, .slice a10 n c10] : Array Value)[j]?) ∧ Below w.heap.size w w') := Lib.hid (fun w' hb => by
    have a0 := (hb.block w.heap.size (Nat.lt_succ_self _)).trans hq0
    exact ⟨fun j => by simp [World.cell?, a0], hb0.trans (hb.mono (Nat.le_succ _))⟩)
  have KV := Ru.valid_any x (w.alloc (.cells #[.int .i64 11, .int .i64 N, .bool s1, .slice a3 t1.length c3, .slice a4 b1.length c4, .bool s2, .slice a6 t2.length c6, .slice a7 b2.length c7, .string x, .slice a9 raw.size c9, .slice a10 n c10] 30)) (by omega)
  rw [hz0] at KV
  have HK1 := Lib.hid (fun w' (hb : Below w.heap.size w w') => Rn.noRat_any s1 t1 b1 _ _ w' (i3.below hb (Nat.le_refl _)) (i4.below hb (Nat.le_refl _)) ok1.l1 ok1.l2)
  have HK2 := Lib.hid (fun w' (hb : Below w.heap.size w w') => Rn.noRat_any s2 t2 b2 _ _ w' (i6.below hb (Nat.le_refl _)) (i7.below hb (Nat.le_refl _)) ok2.l1 ok2.l2)
  clear hb0 hq0 hz0 hR i3 i4 i6 i7 ok1 ok2 hx
  cases hV : Lib.validD x.data.toList
  all_goals
    rw [hV] at KV
    go_enter Tryz.func75, Tryz.ntmps75
    go_wp2_with fail
    refine KV.mono ?_
    rintro z w1 ⟨rfl, hb1⟩
    obtain ⟨d, hbw1⟩ := HF.out w1 hb1
    have d0 := d 0
    have d2 := d 2
    have d3 := d 3
    have d4 := d 4
    have d5 := d 5
    have d6 := d 6
    have d7 := d 7
    have HB1 := Lib.hid (And.intro hb1 hbw1)
    clear hb1 hbw1 d KV
  · have hans : R = false := by
      rw [HR.out]
      simp [Tr.Hd.shape, Tr.Hd.num, Tr.isText, Tr.own, hV]
    have HANS := Lib.hid hans
    clear hans
    go_wp2_with fail
    go_ret
    exact ⟨by rw [HANS.out]; rfl, HB1.out.2⟩
  · cases hS1 : Rt.noRat s1 t1 b1
    all_goals
      have KN := HK1.out w1 HB1.out.2
      rw [hS1] at KN
      go_wp2_with fail
      refine KN.mono ?_
      rintro z w2 ⟨rfl, hb2⟩
      have hb2' := HB1.out.1.trans (hb2.mono (by have := HB1.out.1.size; simp at this; omega))
      obtain ⟨d, hbw2⟩ := HF.out w2 hb2'
      clear d0 d2 d3 d4 d5 d6 d7
      have d0 := d 0
      have d2 := d 2
      have d5 := d 5
      have d6 := d 6
      have d7 := d 7
      have HB2 := Lib.hid (And.intro hb2' hbw2)
      clear hb2 hb2' hbw2 d
      clear KN
    · have hans : R = false := by
        rw [HR.out]
        simp [Tr.Hd.shape, Tr.Hd.num, Tr.isText, Tr.own, hV, hS1]
      have HANS := Lib.hid hans
      clear hans
      go_wp2_with fail
      go_ret
      exact ⟨by rw [HANS.out]; rfl, HB2.out.2⟩
    · cases hS2 : Rt.noRat s2 t2 b2
      all_goals
        have KN := HK2.out w2 HB2.out.2
        rw [hS2] at KN
        go_wp2_with fail
        refine KN.mono ?_
        rintro z w3 ⟨rfl, hb3⟩
        have hb3' := HB2.out.1.trans (hb3.mono (by have := HB2.out.1.size; simp at this; omega))
        obtain ⟨d, hbw3⟩ := HF.out w3 hb3'
        clear d0 d2 d5 d6 d7
        have d0 := d 0
        have d1 := d 1
        have d8 := d 8
        have d9 := d 9
        have d10 := d 10
        have HB3 := Lib.hid (And.intro hb3' hbw3)
        clear hb3 hb3' hbw3 d
        clear KN
      · have hans : R = false := by
          rw [HR.out]
          simp [Tr.Hd.shape, Tr.Hd.num, Tr.isText, Tr.own, hV, hS1, hS2]
        have HANS := Lib.hid hans
        clear hans
        go_wp2_with fail
        go_ret
        exact ⟨by rw [HANS.out]; rfl, HB3.out.2⟩
      · by_cases hxz : x.size = 0
        · have hxl : x.toList = [] := (Rd.empty x).2 hxz
          by_cases hr : raw.size = 0
          · have hr0 : ¬ 0 < raw.size := by omega
            have hrI : ¬ (raw.size : Int) > 0 := by omega
            by_cases hN : N = 0
            · subst hN
              by_cases hn : n = 0
              · have hnI : ((n : Int) == 0) = true := by subst hn; rfl
                have hans : R = true := by
                  rw [HR.out]
                  simp [Tr.Hd.shape, Tr.Hd.num, Tr.isText, Tr.own, hV, hS1, hS2, hxz, hr, hn]
                have HANS := Lib.hid hans
                clear hans
                go_wp2_with fail
                go_ret
                exact ⟨by rw [HANS.out]; rfl, HB3.out.2⟩
              · have hnI : ((n : Int) == 0) = false := beq_eq_false_iff_ne.2 (by omega)
                have hans : R = false := by
                  rw [HR.out]
                  simp [Tr.Hd.shape, Tr.Hd.num, Tr.isText, Tr.own, hV, hS1, hS2, hxz, hr, hn]
                have HANS := Lib.hid hans
                clear hans
                go_wp2_with fail
                go_ret
                exact ⟨by rw [HANS.out]; rfl, HB3.out.2⟩
            · have hNI : (N != 0) = true := by simpa using hN
              have hans : R = false := by
                rw [HR.out]
                simp [Tr.Hd.shape, Tr.Hd.num, Tr.isText, Tr.own, hV, hS1, hS2, hxz, hr, hN]
              have HANS := Lib.hid hans
              clear hans
              go_wp2_with fail
              go_ret
              exact ⟨by rw [HANS.out]; rfl, HB3.out.2⟩
          · have hr0 : 0 < raw.size := by omega
            have hrI : (raw.size : Int) > 0 := by omega
            have hans : R = false := by
              rw [HR.out]
              simp [Tr.Hd.shape, Tr.Hd.num, Tr.isText, Tr.own, hV, hS1, hS2, hxz, hr]
            have HANS := Lib.hid hans
            clear hans
            go_wp2_with fail
            go_ret
            exact ⟨by rw [HANS.out]; rfl, HB3.out.2⟩
        · have hxl : ¬ x.toList = [] := fun e => hxz ((Rd.empty x).1 e)
          have hxe : x.toList.isEmpty = false := by cases hh : x.toList with | nil => exact absurd hh hxl | cons a r => rfl
          by_cases hr : raw.size = 0
          · have hr0 : ¬ 0 < raw.size := by omega
            have hrI : ¬ (raw.size : Int) > 0 := by omega
            by_cases hN : N = 0
            · subst hN
              by_cases hn : n = 0
              · have hnI : ((n : Int) == 0) = true := by subst hn; rfl
                have hans : R = true := by
                  rw [HR.out]
                  simp [Tr.Hd.shape, Tr.Hd.num, Tr.isText, Tr.own, hV, hS1, hS2, hxz, hr, hn]
                have HANS := Lib.hid hans
                clear hans
                go_wp2_with fail
                go_ret
                exact ⟨by rw [HANS.out]; rfl, HB3.out.2⟩
              · have hnI : ((n : Int) == 0) = false := beq_eq_false_iff_ne.2 (by omega)
                have hans : R = false := by
                  rw [HR.out]
                  simp [Tr.Hd.shape, Tr.Hd.num, Tr.isText, Tr.own, hV, hS1, hS2, hxz, hr, hn]
                have HANS := Lib.hid hans
                clear hans
                go_wp2_with fail
                go_ret
                exact ⟨by rw [HANS.out]; rfl, HB3.out.2⟩
            · have hNI : (N != 0) = true := by simpa using hN
              have hans : R = false := by
                rw [HR.out]
                simp [Tr.Hd.shape, Tr.Hd.num, Tr.isText, Tr.own, hV, hS1, hS2, hxz, hr, hN]
              have HANS := Lib.hid hans
              clear hans
              go_wp2_with fail
              go_ret
              exact ⟨by rw [HANS.out]; rfl, HB3.out.2⟩
          · have hr0 : 0 < raw.size := by omega
            have hrI : (raw.size : Int) > 0 := by omega
            have hans : R = false := by
              rw [HR.out]
              simp [Tr.Hd.shape, Tr.Hd.num, Tr.isText, Tr.own, hV, hS1, hS2, hxz, hr]
            have HANS := Lib.hid hans
            clear hans
            go_wp2_with fail
            go_ret
            exact ⟨by rw [HANS.out]; rfl, HB3.out.2⟩
end Go.Proofs.YtikmebkfdpbidaaGreatDoor
