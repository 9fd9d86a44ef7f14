/-
  The law DatumBlanks, walked.
-/
import Derived.Outline
import Derived.Test.YtaepjlghdjcdnaaDoorCg
import Derived.Test.YtaepjlghdjcdnaaDoorSmSameC
import Derived.Test.YtaepjlghdjcdnaaDoorCa
namespace Go.Proofs.YtaepjlghdjcdnaaDoor
open Go.RowKit
set_option linter.unusedVariables false
set_option linter.unusedSimpArgs false

theorem Dl.u8 {n : Int} (h : (Lit.int .u8 n).wf = true) : ∃ k : Nat, n = (k : Int) ∧ k ≤ 255 := by
  simp [Lit.wf, IntKind.min, IntKind.max, IntKind.signed, IntKind.bits] at h
  exact ⟨n.toNat, by omega, by omega⟩
theorem Dl.zero_in (w : World) (S : Nat → Prop) : Tr.In w S (Dr.leaf 0 0 []) Dr.voidV := Dr.leaf_in 0 0 [] w (by omega) (by omega) (by simp)
set_option maxHeartbeats 8000000 in
set_option maxRecDepth 1000000 in
theorem Dl.blanks_walk (s : ByteArray) (kind : Int) (w : World) (hs : s.size ≤ 140737488351232) (hk : (Lit.int .u8 kind).wf = true) (hT : Tr.Tabs w) :
    Calls Tryd.prog 3 #[.string s, .int .u8 kind] w fun e w' => e = .returned (.bool true) ∧ Below w.heap.size w w' := by
  obtain ⟨k, rfl, hk⟩ := Dl.u8 hk
  have HT := Lib.hid (show Dr.Tabs w from hT)
  clear hT
  obtain ⟨AS, hAS⟩ : ∃ z : ByteArray, z = ⟨(Dr.six (k % 6)).toArray⟩ := ⟨_, rfl⟩
  obtain ⟨w1, hw1⟩ : ∃ z, w.alloc (.cells #[.string ⟨#[32]⟩, .string ⟨#[9, 10]⟩, .string ⟨#[59, 32, 120, 10]⟩, .string ⟨#[35, 124, 32, 97, 32, 35, 124, 32, 98, 32, 124, 35, 32, 124, 35]⟩, .string ⟨#[35, 59, 40, 49, 32, 50, 41, 32]⟩, .string ⟨#[226, 128, 168, 194, 160]⟩] 9) = z := ⟨_, rfl⟩
  have hq1 : w1.heap[w.heap.size]? = some (.cells #[.string ⟨#[32]⟩, .string ⟨#[9, 10]⟩, .string ⟨#[59, 32, 120, 10]⟩, .string ⟨#[35, 124, 32, 97, 32, 35, 124, 32, 98, 32, 124, 35, 32, 124, 35]⟩, .string ⟨#[35, 59, 40, 49, 32, 50, 41, 32]⟩, .string ⟨#[226, 128, 168, 194, 160]⟩] 9 (0, 0)) := by rw [← hw1]; exact heap_alloc_new w _
  have hb1 : Below w.heap.size w w1 := by rw [← hw1]; exact (Below.refl _ _).alloc (Nat.le_refl _) _
  have hcell : w1.cell? ⟨w.heap.size, k % 6, none⟩ = some (.string AS) ∧ AS.size ≤ 15 := by
    have h6 : k % 6 < 6 := Nat.mod_lt _ (by decide)
    rw [hAS]
    generalize k % 6 = j at *
    match j, h6 with
    | 0, _ => exact ⟨Lib.cell_of_heap hq1 0, by decide⟩
    | 1, _ => exact ⟨Lib.cell_of_heap hq1 1, by decide⟩
    | 2, _ => exact ⟨Lib.cell_of_heap hq1 2, by decide⟩
    | 3, _ => exact ⟨Lib.cell_of_heap hq1 3, by decide⟩
    | 4, _ => exact ⟨Lib.cell_of_heap hq1 4, by decide⟩
    | 5, _ => exact ⟨Lib.cell_of_heap hq1 5, by decide⟩
  obtain ⟨hcell, has⟩ := hcell
  have HAW := Lib.hid (fun w' (hb : Below w.heap.size w w') => Dr.awake_any w' (Utf8Tabs_below HT.out hb))
  have HB1 := Lib.hid hb1
  obtain ⟨A, hA⟩ := Dr.One.total s.data.toList
  have hA2 := Dr.Ahead.one (Dr.six_ahead (k % 6)) hA
  have hcat : (AS ++ s).data.toList = Dr.six (k % 6) ++ s.data.toList := by rw [hAS]; simp
  rw [← hcat] at hA2
  have hal : (Dr.six (k % 6)).length = AS.size := by
    rw [hAS]
    show _ = (Dr.six (k % 6)).toArray.size
    simp
  rw [hal] at hA2
  have hasz : (AS ++ s).size = AS.size + s.size := ByteArray.size_append
  have hcl : ¬ 9223372036854775807 < AS.size + s.size := by omega
  have hasi : (AS.size : Int) ≤ 15 ∧ (0 : Int) ≤ (AS.size : Int) := by omega
  obtain ⟨hasi, hasj⟩ := hasi
  have hss : (s.size : Int) ≤ 140737488351232 ∧ (0 : Int) ≤ (s.size : Int) := by omega
  obtain ⟨hss, hss2⟩ := hss
  by_cases hlong : 65536 < s.size + AS.size
  · have hl1 : (65536 : Int) - (AS.size : Int) < (s.size : Int) := by omega
    clear hA hA2 hcat hasz hal hq1 hb1 hAS hlong
    go_enter Tryd.func3, Tryd.ntmps3
    go_wp2_with fail
    refine (HAW.out w1 HB1.out).mono ?_
    rintro x w2 ⟨rfl, hb2⟩
    have HB2 := Lib.hid (HB1.out.trans (hb2.mono HB1.out.size))
    clear hb2
    go_wp2_with fail
    refine (HAW.out w2 HB2.out).mono ?_
    rintro x w3 ⟨rfl, hb3⟩
    have HB3 := Lib.hid (HB2.out.trans (hb3.mono HB2.out.size))
    clear hb3
    go_wp2_with fail
    go_ret
    exact ⟨rfl, HB3.out⟩
  · have hl1 : ¬ (65536 : Int) - (AS.size : Int) < (s.size : Int) := by omega
    have K1 := Lib.hid (fun w' (hb : Below w.heap.size w w') => show Calls Tryd.prog 6 #[.string s] w' (Dr.PostOne w' A) from by
      have := Dr.DRead_any s w' A (Utf8Tabs_below HT.out hb) hA
      rwa [show Dr.cut s A = A from if_neg (by omega)] at this)
    have K2 := Lib.hid (fun w' (hb : Below w.heap.size w w') => show Calls Tryd.prog 6 #[.string (AS ++ s)] w' (Dr.PostOne w' (A.later AS.size)) from by
      have := Dr.DRead_any (AS ++ s) w' _ (Utf8Tabs_below HT.out hb) hA2
      rwa [show Dr.cut (AS ++ s) (A.later AS.size) = A.later AS.size from if_neg (by omega)] at this)
    have HAE := Lib.hid hA
    obtain ⟨X, hX⟩ : ∃ z, AS ++ s = z := ⟨_, rfl⟩
    rw [hX] at K2
    clear hA hA2 hcat hasz hal hq1 hb1 hAS hlong
    go_enter Tryd.func3, Tryd.ntmps3
    go_wp2_with fail
    refine (HAW.out w1 HB1.out).mono ?_
    rintro x w2 ⟨rfl, hb2⟩
    have HB2 := Lib.hid (HB1.out.trans (hb2.mono HB1.out.size))
    clear hb2
    cases A with
    | err x =>
      have hx0 : (x == 0) = false ∧ (x != 0) = true := by rcases HAE.out.errs with h | h | h <;> (subst h; exact ⟨rfl, rfl⟩)
      obtain ⟨hx0, hx1⟩ := hx0
      go_wp2_with fail
      refine (K1.out w2 HB2.out).mono ?_
      rintro y w3 ⟨rfl, hb3⟩
      unfold Dr.voidV
      obtain ⟨w4, hw4⟩ : ∃ z, w3.alloc (.cells #[.int .i64 0, .int .i64 0, .bool false, .slice none 0 0, .slice none 0 0, .bool false, .slice none 0 0, .slice none 0 0, .string ⟨#[]⟩, .slice none 0 0, .slice none 0 0] 32) = z := ⟨_, rfl⟩
      have hq4 : w4.heap[w3.heap.size]? = some (.cells #[.int .i64 0, .int .i64 0, .bool false, .slice none 0 0, .slice none 0 0, .bool false, .slice none 0 0, .slice none 0 0, .string ⟨#[]⟩, .slice none 0 0, .slice none 0 0] 32 (0, 0)) := by rw [← hw4]; exact heap_alloc_new w3 _
      have hal4 : Below w3.heap.size w3 w4 := by rw [← hw4]; exact (Below.refl _ _).alloc (Nat.le_refl _) _
      have HB4 := Lib.hid (HB2.out.trans ((hb3.trans (hal4.mono hb3.size)).mono HB2.out.size))
      have HIN1 := Lib.hid (Dl.zero_in w4 (fun _ => True))
      have HQ4 := Lib.hid hq4
      have KR := Lib.hid (K2.out w4 HB4.out)
      have HAL4 := Lib.hid hal4
      obtain ⟨⟨xa0, xa1, xa2, xa3, xa4, xa5, xa6, xa7, xa8, xa9, xa10⟩, xf0, xf1, xf2, xf3, xf4, xf5, xf6, xf7, xf8, xf9, xf10⟩ := Dr.same11 (B := w3.heap.size) hq4
      obtain ⟨xc0, xc1, xc2, xc3, xc4, xc5, xc6, xc7, xc8, xc9, xc10⟩ := Dr.cells11 hq4
      clear hb3 hq4 hal4 K1 K2
      go_wp2_with fail
      refine KR.out.mono ?_
      rintro y w5 ⟨rfl, hb5⟩
      unfold Dr.voidV
      obtain ⟨w6, hw6⟩ : ∃ z, w5.alloc (.cells #[.int .i64 0, .int .i64 0, .bool false, .slice none 0 0, .slice none 0 0, .bool false, .slice none 0 0, .slice none 0 0, .string ⟨#[]⟩, .slice none 0 0, .slice none 0 0] 32) = z := ⟨_, rfl⟩
      have hq6 : w6.heap[w5.heap.size]? = some (.cells #[.int .i64 0, .int .i64 0, .bool false, .slice none 0 0, .slice none 0 0, .bool false, .slice none 0 0, .slice none 0 0, .string ⟨#[]⟩, .slice none 0 0, .slice none 0 0] 32 (0, 0)) := by rw [← hw6]; exact heap_alloc_new w5 _
      have hal6 : Below w5.heap.size w5 w6 := by rw [← hw6]; exact (Below.refl _ _).alloc (Nat.le_refl _) _
      have hb46 : Below w4.heap.size w4 w6 := hb5.trans (hal6.mono hb5.size)
      have hq46 := (hb46.block w3.heap.size (Array.getElem?_eq_some_iff.1 HQ4.out).1).trans HQ4.out
      obtain ⟨k0, k1, k2, k3, k4, k5, k6, k7, k8, k9, k10⟩ := Dr.cells11 hq46
      obtain ⟨m0, m1, m2, m3, m4, m5, m6, m7, m8, m9, m10⟩ := Dr.cells11 hq6
      have KS := Lib.hid (Sm.same (Dr.leaf 0 0 []) _ _ _ _ w6 (Tr.In.below HIN1.out hb46 (Nat.le_refl _)) (Dl.zero_in w6 (fun _ => True)))
      have HB6 := Lib.hid (HB4.out.trans (hb46.mono HB4.out.size))
      obtain ⟨⟨ya0, ya1, ya2, ya3, ya4, ya5, ya6, ya7, ya8, ya9, ya10⟩, yf0, yf1, yf2, yf3, yf4, yf5, yf6, yf7, yf8, yf9, yf10⟩ := Dr.same11 (B := w5.heap.size) hq6
      obtain ⟨yc0, yc1, yc2, yc3, yc4, yc5, yc6, yc7, yc8, yc9, yc10⟩ := Dr.cells11 hq6
      clear hb5 hq6 hal6 hb46 hq46 HIN1 HQ4 HAL4
      go_wp2_with fail
      refine KS.out.mono ?_
      rintro x w7 ⟨rfl, hb7⟩
      have HE := Lib.hid (HB6.out.trans (hb7.mono HB6.out.size))
      clear hb7 KS
      go_wp2_with fail
      go_ret
      exact ⟨rfl, HE.out⟩
    | ok t n =>
      obtain ⟨m, hm⟩ : ∃ z, n + AS.size = z := ⟨_, rfl⟩
      have hle := HAE.out.ok_le
      have hsl : s.data.toList.length = s.size := by simp
      have hmi : ((m : Int) == (n : Int) + (AS.size : Int)) = true := beq_iff_eq.2 (by omega)
      have hnb : (n : Int) + (AS.size : Int) ≤ 9223372036854775807 ∧ (0 : Int) ≤ (n : Int) ∧ (m : Int) = (n : Int) + (AS.size : Int) := by omega
      obtain ⟨hnb, hn0, hme⟩ := hnb
      have K3 := Lib.hid (fun w' (hb : Below w.heap.size w w') => show Calls Tryd.prog 6 #[.string X] w' (Dr.PostOne w' (.ok t m)) from by rw [← hm]; exact K2.out w' hb)
      clear K2
      have K2 := K3
      clear K3 hm hle hsl hmi
      go_wp2_with fail
      refine (K1.out w2 HB2.out).mono ?_
      rintro y w3 ⟨v, rfl, hI3, hb3⟩
      obtain ⟨C3, rfl⟩ := Dr.in_agg hI3
      obtain ⟨hp, lp, pa3, pa4, pa6, pa7, pa9, pa10, pn3, pn4, pn6, pn7, pn9, pn10, pc3, pc4, pc6, pc7, pc9, pc10, eC, et, _, _⟩ := Tr.In.form2 hI3
      subst eC
      clear et
      unfold Tr.cells at *
      obtain ⟨w4, hw4⟩ : ∃ z, w3.alloc (.cells #[.int .i64 hp.k, .int .i64 hp.n, .bool hp.s1, .slice pa3 pn3 pc3, .slice pa4 pn4 pc4, .bool hp.s2, .slice pa6 pn6 pc6, .slice pa7 pn7 pc7, .string hp.x, .slice pa9 pn9 pc9, .slice pa10 pn10 pc10] 32) = z := ⟨_, rfl⟩
      have hq4 : w4.heap[w3.heap.size]? = some (.cells #[.int .i64 hp.k, .int .i64 hp.n, .bool hp.s1, .slice pa3 pn3 pc3, .slice pa4 pn4 pc4, .bool hp.s2, .slice pa6 pn6 pc6, .slice pa7 pn7 pc7, .string hp.x, .slice pa9 pn9 pc9, .slice pa10 pn10 pc10] 32 (0, 0)) := by rw [← hw4]; exact heap_alloc_new w3 _
      have hal4 : Below w3.heap.size w3 w4 := by rw [← hw4]; exact (Below.refl _ _).alloc (Nat.le_refl _) _
      have HB4 := Lib.hid (HB2.out.trans ((hb3.trans (hal4.mono hb3.size)).mono HB2.out.size))
      have HIN1 := Lib.hid (Tr.In.below hI3 hal4 (Nat.le_refl _))
      have HQ4 := Lib.hid hq4
      have KR := Lib.hid (K2.out w4 HB4.out)
      have HAL4 := Lib.hid hal4
      clear hb3 hq4 hal4 K1 K2
      go_wp2_with fail
      refine KR.out.mono ?_
      rintro y w5 ⟨v, rfl, hI5, hb5⟩
      obtain ⟨C5, rfl⟩ := Dr.in_agg hI5
      obtain ⟨hq, lq, qa3, qa4, qa6, qa7, qa9, qa10, qn3, qn4, qn6, qn7, qn9, qn10, qc3, qc4, qc6, qc7, qc9, qc10, eC, et, _, _⟩ := Tr.In.form2 hI5
      subst eC
      clear et
      unfold Tr.cells at *
      obtain ⟨w6, hw6⟩ : ∃ z, w5.alloc (.cells #[.int .i64 hq.k, .int .i64 hq.n, .bool hq.s1, .slice qa3 qn3 qc3, .slice qa4 qn4 qc4, .bool hq.s2, .slice qa6 qn6 qc6, .slice qa7 qn7 qc7, .string hq.x, .slice qa9 qn9 qc9, .slice qa10 qn10 qc10] 32) = z := ⟨_, rfl⟩
      have hq6 : w6.heap[w5.heap.size]? = some (.cells #[.int .i64 hq.k, .int .i64 hq.n, .bool hq.s1, .slice qa3 qn3 qc3, .slice qa4 qn4 qc4, .bool hq.s2, .slice qa6 qn6 qc6, .slice qa7 qn7 qc7, .string hq.x, .slice qa9 qn9 qc9, .slice qa10 qn10 qc10] 32 (0, 0)) := by rw [← hw6]; exact heap_alloc_new w5 _
      have hal6 : Below w5.heap.size w5 w6 := by rw [← hw6]; exact (Below.refl _ _).alloc (Nat.le_refl _) _
      have hb46 : Below w4.heap.size w4 w6 := hb5.trans (hal6.mono hb5.size)
      have hq46 := (hb46.block w3.heap.size (Array.getElem?_eq_some_iff.1 HQ4.out).1).trans HQ4.out
      obtain ⟨k0, k1, k2, k3, k4, k5, k6, k7, k8, k9, k10⟩ := Dr.cells11 hq46
      obtain ⟨m0, m1, m2, m3, m4, m5, m6, m7, m8, m9, m10⟩ := Dr.cells11 hq6
      have KS := Lib.hid (Sm.same t _ _ _ _ w6 (Tr.In.below HIN1.out hb46 (Nat.le_refl _)) (Tr.In.below hI5 hal6 (Nat.le_refl _)))
      have HB6 := Lib.hid (HB4.out.trans (hb46.mono HB4.out.size))
      clear hb5 hq6 hal6 hb46 hq46 HIN1 HQ4 HAL4
      go_wp2_with fail
      refine KS.out.mono ?_
      rintro x w7 ⟨rfl, hb7⟩
      have HE := Lib.hid (HB6.out.trans (hb7.mono HB6.out.size))
      clear hb7 KS
      go_wp2_with fail
      go_ret
      exact ⟨rfl, HE.out⟩
end Go.Proofs.YtaepjlghdjcdnaaDoor
