/-
  Delete in a table of however many keys; Len. The law's function 'without': a list without a number. What a range over a table's map has given, and the sorting of it, in plain Lean.
-/
import Derived.Deep.LoopGhost
import Derived.Deep.AppendLies
import Derived.Shelf.SlSortCmp.Whole1
import Derived.Shelf.SlSortCmp.NoneTotal
import Derived.BigQuiet
import Derived.Deep.Grids
import Derived.Test.YtdjllmogejkimaaGreatDoorRows
import Derived.Lib.LaidU8
import Derived.Test.YtdjllmogejkimaaGreatDoorQm
import Derived.Test.YtdjllmogejkimaaGreatDoorQh
import Derived.Test.YtdjllmogejkimaaGreatDoorQd
import Derived.Test.YtdjllmogejkimaaGreatDoorShelfQ
import Derived.Test.YtdjllmogejkimaaGreatDoorQa
set_option linter.unusedVariables false
set_option linter.unusedSimpArgs false
namespace Go.Proofs.YtdjllmogejkimaaGreatDoor
open Go.RowKit

set_option maxHeartbeats 2000000 in
set_option maxRecDepth 1000000 in
theorem Tm.Delete_found {D : Nat → Prop} {K : Int} {p r last B j x : Nat} {w : World} {L : List Tm.Row} (hST : Tm.St D K p r last B w L) {key : Tr} {nm : ByteArray} {vk : Value} (hk : Tr.In w (fun _ => True) key vk) (hT : Wt.Tabs w) (KN : Tm.Names K p (.int .i64 last) (.map (some r)) key [] nm 0) (hpos : Tm.pos (L.map (·.e)) nm = some (j, x)) :
    Calls Tryz.prog 7 #[.pointer (some ⟨p, 0, none⟩), vk] w fun e w' => e = .returned (.int .i64 0) ∧ Tm.St D K p r last B w' (L.eraseIdx j) ∧ (∀ q, q < w.heap.size → q ≠ r → w'.heap[q]? = w.heap[q]?) ∧ Below B w w' := by
  have hp := hST.tab
  obtain ⟨es, clock, hr, hes, hborn⟩ := hST.mp
  have hBr := hST.base.2.1
  have HST := Lib.hid hST
  have HES := Lib.hid (And.intro hes hpos)
  have HR := Lib.hid hr
  obtain ⟨CK, rfl⟩ := hk.agg
  have hpl : p < w.heap.size := (Array.getElem?_eq_some_iff.1 hp).1
  have hrl : r < w.heap.size := (Array.getElem?_eq_some_iff.1 hr).1
  obtain ⟨he, le, ka3, ka4, ka6, ka7, ka9, ka10, kn3, kn4, kn6, kn7, kn9, kn10, kc3, kc4, kc6, kc7, kc9, kc10, eCk, etk1, etk2, etk3⟩ := Tr.In.form2 hk
  have eC2 : CK = #[.int .i64 he.k, .int .i64 he.n, .bool he.s1, .slice ka3 kn3 kc3, .slice ka4 kn4 kc4, .bool he.s2, .slice ka6 kn6 kc6, .slice ka7 kn7 kc7, .string he.x, .slice ka9 kn9 kc9, .slice ka10 kn10 kc10] := eCk
  clear eCk
  subst eC2
  obtain ⟨W0, hW0⟩ : ∃ z, w.alloc (.cells #[.int .i64 he.k, .int .i64 he.n, .bool he.s1, .slice ka3 kn3 kc3, .slice ka4 kn4 kc4, .bool he.s2, .slice ka6 kn6 kc6, .slice ka7 kn7 kc7, .string he.x, .slice ka9 kn9 kc9, .slice ka10 kn10 kc10] 37) = z := ⟨_, rfl⟩
  have hb0 : Below w.heap.size w W0 := by rw [← hW0]; exact (Below.refl _ _).alloc (Nat.le_refl _) _
  have hq0 : W0.heap[w.heap.size]? = some (.cells #[.int .i64 he.k, .int .i64 he.n, .bool he.s1, .slice ka3 kn3 kc3, .slice ka4 kn4 kc4, .bool he.s2, .slice ka6 kn6 kc6, .slice ka7 kn7 kc7, .string he.x, .slice ka9 kn9 kc9, .slice ka10 kn10 kc10] 37 (0, 0)) := by rw [← hW0]; exact heap_alloc_new w _
  obtain ⟨e0, e1, e2, e3, e4, e5, e6, e7, e8, e9, e10⟩ := Dt.cells11 hq0
  have KNN := KN W0 _ _ (Tr.In.below hk hb0 (Nat.le_refl _)) (Tb.More.nil _) ((hb0.block p hpl).trans hp) (hT.below hb0)
  have HB := Lib.hid hb0
  have HPR := Lib.hid (And.intro hp hr)
  clear hST hes hpos hborn hp hr hk hT KN hq0 hb0 etk1 etk2 etk3
  go_enter Tryz.func7, Tryz.ntmps7
  go_wp2_with fail
  refine KNN.mono ?_
  rintro y w1 ⟨rfl, hb1⟩
  have hbw := HB.out.trans (hb1.mono HB.out.size)
  have qp := (hbw.block p hpl).trans HPR.out.1
  have qr := (hbw.block r hrl).trans HPR.out.2
  have p2 : w1.cell? ⟨p, 2, none⟩ = some (.map (some r)) := Rt.cell_of qp 2
  have hlk := Tm.look w1 r clock es _ nm HES.out.1 qr
  rw [HES.out.2] at hlk
  simp only [Option.map_some, Option.isSome_some] at hlk
  have hdel := fun ty => Tm.delete w1 r clock j x es _ nm ty HES.out.1 HES.out.2 qr
  obtain ⟨W1, hW1⟩ : ∃ z, ({ w1 with heap := w1.heap.setIfInBounds r (.map (es.eraseIdxIfInBounds j) clock) } : World) = z := ⟨_, rfl⟩
  have HFIN : Hid (Tm.St D K p r last B W1 (L.eraseIdx j) ∧ (∀ q, q < w.heap.size → q ≠ r → W1.heap[q]? = w.heap[q]?) ∧ Below B w W1) := Lib.hid (by
    have hne : ∀ q, q ≠ r → W1.heap[q]? = w1.heap[q]? := fun q hq => by
      rw [← hW1]
      show (w1.heap.setIfInBounds r _)[q]? = _
      rw [Array.getElem?_setIfInBounds]
      simp [Ne.symm hq]
    have hz := hbw.size
    have hsz : W1.heap.size = w1.heap.size := by
      rw [← hW1]
      show (w1.heap.setIfInBounds r _).size = _
      simp
    have hold : ∀ q, q < w.heap.size → q ≠ r → W1.heap[q]? = w.heap[q]? := fun q hq hqr => (hne q hqr).trans (hbw.block q hq)
    have hr1 : W1.heap[r]? = some (.map (es.eraseIdxIfInBounds j) clock) := by
      rw [← hW1]
      show (w1.heap.setIfInBounds r _)[r]? = _
      rw [Array.getElem?_setIfInBounds]
      simp
      omega
    have hjl : j < L.length := by
      obtain ⟨row, h1, _⟩ := Tm.pos_rows HES.out.2
      exact (List.getElem?_eq_some_iff.1 h1).1
    refine ⟨HST.out.drop HR.out hjl (by omega) hold hr1, hold, ?_⟩
    have h8 : Below B w w1 := hbw.mono (by omega)
    refine h8.grown (row := some r) ⟨?_, ?_, ?_, ?_, fun q _ hq => hne q (fun e => hq (by simp [e]))⟩ (by omega) (fun q hq => ?_)
    · rw [← hW1]
    · rw [← hW1]
    · rw [← hW1]
    · omega
    · simp only [Option.some.injEq] at hq
      omega)
  rw [hW1] at hdel
  clear hW1
  clear qp qr hb1 hbw KNN e0 e1 e2 e3 e4 e5 e6 e7 e8 e9 e10 hW0
  go_wp2_with fail
  go_ret
  exact ⟨rfl, HFIN.out⟩
set_option maxHeartbeats 2000000 in
set_option maxRecDepth 1000000 in
theorem Tm.Delete_none {D : Nat → Prop} {K : Int} {p r last B : Nat} {w : World} {L : List Tm.Row} (hST : Tm.St D K p r last B w L) {key : Tr} {nm : ByteArray} {vk : Value} (hk : Tr.In w (fun _ => True) key vk) (hT : Wt.Tabs w) (KN : Tm.Names K p (.int .i64 last) (.map (some r)) key [] nm 0) (hpos : Tm.pos (L.map (·.e)) nm = none) :
    Calls Tryz.prog 7 #[.pointer (some ⟨p, 0, none⟩), vk] w fun e w' => e = .returned (.int .i64 7) ∧ Below w.heap.size w w' := by
  have hp := hST.tab
  obtain ⟨es, clock, hr, hes, hborn⟩ := hST.mp
  have hBr := hST.base.2.1
  have HST := Lib.hid hST
  have HES := Lib.hid (And.intro hes hpos)
  have HR := Lib.hid hr
  obtain ⟨CK, rfl⟩ := hk.agg
  have hpl : p < w.heap.size := (Array.getElem?_eq_some_iff.1 hp).1
  have hrl : r < w.heap.size := (Array.getElem?_eq_some_iff.1 hr).1
  obtain ⟨he, le, ka3, ka4, ka6, ka7, ka9, ka10, kn3, kn4, kn6, kn7, kn9, kn10, kc3, kc4, kc6, kc7, kc9, kc10, eCk, etk1, etk2, etk3⟩ := Tr.In.form2 hk
  have eC2 : CK = #[.int .i64 he.k, .int .i64 he.n, .bool he.s1, .slice ka3 kn3 kc3, .slice ka4 kn4 kc4, .bool he.s2, .slice ka6 kn6 kc6, .slice ka7 kn7 kc7, .string he.x, .slice ka9 kn9 kc9, .slice ka10 kn10 kc10] := eCk
  clear eCk
  subst eC2
  obtain ⟨W0, hW0⟩ : ∃ z, w.alloc (.cells #[.int .i64 he.k, .int .i64 he.n, .bool he.s1, .slice ka3 kn3 kc3, .slice ka4 kn4 kc4, .bool he.s2, .slice ka6 kn6 kc6, .slice ka7 kn7 kc7, .string he.x, .slice ka9 kn9 kc9, .slice ka10 kn10 kc10] 37) = z := ⟨_, rfl⟩
  have hb0 : Below w.heap.size w W0 := by rw [← hW0]; exact (Below.refl _ _).alloc (Nat.le_refl _) _
  have hq0 : W0.heap[w.heap.size]? = some (.cells #[.int .i64 he.k, .int .i64 he.n, .bool he.s1, .slice ka3 kn3 kc3, .slice ka4 kn4 kc4, .bool he.s2, .slice ka6 kn6 kc6, .slice ka7 kn7 kc7, .string he.x, .slice ka9 kn9 kc9, .slice ka10 kn10 kc10] 37 (0, 0)) := by rw [← hW0]; exact heap_alloc_new w _
  obtain ⟨e0, e1, e2, e3, e4, e5, e6, e7, e8, e9, e10⟩ := Dt.cells11 hq0
  have KNN := KN W0 _ _ (Tr.In.below hk hb0 (Nat.le_refl _)) (Tb.More.nil _) ((hb0.block p hpl).trans hp) (hT.below hb0)
  have HB := Lib.hid hb0
  have HPR := Lib.hid (And.intro hp hr)
  clear hST hes hpos hborn hp hr hk hT KN hq0 hb0 etk1 etk2 etk3
  go_enter Tryz.func7, Tryz.ntmps7
  go_wp2_with fail
  refine KNN.mono ?_
  rintro y w1 ⟨rfl, hb1⟩
  have hbw := HB.out.trans (hb1.mono HB.out.size)
  have qp := (hbw.block p hpl).trans HPR.out.1
  have qr := (hbw.block r hrl).trans HPR.out.2
  have p2 : w1.cell? ⟨p, 2, none⟩ = some (.map (some r)) := Rt.cell_of qp 2
  have hlk := Tm.look w1 r clock es _ nm HES.out.1 qr
  rw [HES.out.2] at hlk
  simp only [Option.map_none, Option.isSome_none] at hlk
  have HFIN := Lib.hid hbw
  clear qp qr hb1 hbw KNN e0 e1 e2 e3 e4 e5 e6 e7 e8 e9 e10 hW0
  go_wp2_with fail
  go_ret
  exact ⟨rfl, HFIN.out⟩
set_option maxHeartbeats 1000000 in
theorem Tm.Len_any {D : Nat → Prop} {K : Int} {p r last B : Nat} {w : World} {L : List Tm.Row} (hST : Tm.St D K p r last B w L) : Calls Tryz.prog 11 #[.pointer (some ⟨p, 0, none⟩)] w fun e w' => e = .returned (.int .i64 L.length) ∧ w' = w := by
  obtain ⟨es, clock, hr, hes, hborn⟩ := hST.mp
  have p2 : w.cell? ⟨p, 2, none⟩ = some (.map (some r)) := Rt.cell_of hST.tab 2
  have hln := fun ty => Tb.len_map w r clock es ty hr
  have hesz := Tm.size hes
  rw [List.length_map] at hesz
  rw [hesz] at hln
  obtain ⟨N, hN⟩ : ∃ z, z = L.length := ⟨_, rfl⟩
  rw [← hN] at hln ⊢
  clear hST hr hes hborn hesz hN
  go_enter Tryz.func11, Tryz.ntmps11
  go_wp2_with fail
  go_ret
  exact ⟨rfl, rfl⟩

/-- Numbers as values. -/
def Tm.ints (ks : List Nat) : List Value := ks.map (fun (k : Nat) => .int .i64 k)
theorem Tm.ints_snoc (ks : List Nat) (k : Nat) : Tm.ints (ks ++ [k]) = Tm.ints ks ++ [.int .i64 k] := by unfold Tm.ints; rw [List.map_append]; rfl
theorem Tm.infoI : (Tryz.prog.info? 3).map (fun i => (i.zero, i.size, i.bytes)) = some (some (.int .i64 0), 1, 8) := by kernel_rfl
theorem Tm.sl_of {w : World} {B sz : Nat} {t : TypeId} {v : Value} {n : Nat} {xs : List Value} (h : w.ownsRow B t sz v n xs) : ∃ a c, v = .slice a n c := by
  rcases h.2 with ⟨rfl, h0⟩ | ⟨g, cap, cur, rfl, _⟩
  · exact ⟨none, 0, by rw [h0]⟩
  · exact ⟨_, _, rfl⟩
theorem Tm.row_kept {w w' : World} {B sz : Nat} {t : TypeId} {v : Value} {n : Nat} {xs : List Value} (h : w.ownsRow B t sz v n xs) (hk : ∀ q, B ≤ q → q < w.heap.size → w'.heap[q]? = w.heap[q]?) : w'.ownsRow B t sz v n xs := by
  refine ⟨h.1, ?_⟩
  rcases h.2 with h0 | ⟨g, cap, cur, rfl, hbg, hgc, hr⟩
  · exact .inl h0
  · exact .inr ⟨g, cap, cur, rfl, hbg, (hk g hbg (Array.getElem?_eq_some_iff.1 hgc).1).trans hgc, hr⟩
theorem Tm.row_low {w : World} {B B' sz : Nat} {t : TypeId} {v : Value} {n : Nat} {xs : List Value} (h : w.ownsRow B t sz v n xs) (hB : B' ≤ B) : w.ownsRow B' t sz v n xs := by
  refine ⟨h.1, ?_⟩
  rcases h.2 with h0 | ⟨g, cap, cur, rfl, hbg, hr⟩
  · exact .inl h0
  · exact .inr ⟨g, cap, cur, rfl, Nat.le_trans hB hbg, hr⟩
theorem Tm.row_int {w : World} {B n : Nat} {a : Option Addr} {c : Nat} {ks : List Nat} (h : w.ownsRow B 3 1 (.slice a n c) n (Tm.ints ks)) {k : Nat} (hk : k < n) : ∃ g x, a = some ⟨g, 0, none⟩ ∧ ks[k]? = some x ∧ n ≤ c ∧ c ≤ 9223372036854775807 ∧ w.cell? ⟨g, k, none⟩ = some (.int .i64 (x : Nat)) ∧ g < w.heap.size ∧ B ≤ g := by
  have hlen := h.1
  rcases h.2 with ⟨h1, h2⟩ | ⟨g, cap, cur, h1, hbg, hgc, hnc, hcm, hcs, htake⟩
  · omega
  · simp only [Value.slice.injEq] at h1
    obtain ⟨rfl, _, rfl⟩ := h1
    have hkl : k < ks.length := by
      unfold Tm.ints at hlen
      rw [List.length_map] at hlen
      omega
    refine ⟨g, ks[k], rfl, List.getElem?_eq_getElem hkl, hnc, by simp only [maxLen] at hcm; omega, ?_, (Array.getElem?_eq_some_iff.1 hgc).1, hbg⟩
    rw [Rt.cell_of hgc k]
    have h6 := congrArg (fun l => l[k]?) htake
    simp only [Nat.mul_one] at h6
    rw [List.getElem?_take_of_lt hk, Array.getElem?_toList] at h6
    rw [h6]
    unfold Tm.ints
    rw [List.getElem?_map, List.getElem?_eq_getElem hkl]
    rfl
theorem Tm.row_empty (w : World) (B : Nat) (hB : B ≤ w.heap.size) : (w.alloc (.cells #[] 3)).ownsRow B 3 1 (.slice (some ⟨w.heap.size, 0, none⟩) 0 0) 0 (Tm.ints []) :=
  ⟨rfl, .inr ⟨w.heap.size, 0, #[], rfl, hB, heap_alloc_new w _, Nat.le_refl _, Nat.zero_le _, rfl, rfl⟩⟩
set_option maxHeartbeats 2000000 in
set_option maxRecDepth 1000000 in
theorem Tm.without_any (B : Nat) (v : Value) (ks : List Nat) (x : Nat) (w : World) (ho : w.ownsRow B 3 1 v ks.length (Tm.ints ks)) (hl : ks.length ≤ 4096) :
    Calls Tryz.prog 9 #[v, .int .i64 x] w fun e w' => ∃ v', e = .returned v' ∧ w'.ownsRow w.heap.size 3 1 v' (ks.filter (fun q => q != x)).length (Tm.ints (ks.filter (fun q => q != x))) ∧ Below w.heap.size w w' := by
  obtain ⟨i8, hi8, hz8, hs8, hy8⟩ := info_parts Tm.infoI
  obtain ⟨oa, oc, rfl⟩ := Tm.sl_of ho
  obtain ⟨N, hN⟩ : ∃ z, ks.length = z := ⟨_, rfl⟩
  rw [hN] at ho
  rw [hN]
  have HN := Lib.hid hN
  have HO := Lib.hid ho
  have hl4 : N ≤ 4096 := by omega
  have HL4 := Lib.hid hl4
  have HSTART : Hid (∃ (k : Nat) (ys : List Nat), k + N = N ∧ Value.int .i64 0 = .int .i64 k ∧ ys = (ks.take k).filter (fun q => q != x) ∧ (w.alloc (.cells #[] 3)).ownsRow w.heap.size 3 1 (.slice (some ⟨w.heap.size, 0, none⟩) 0 0) ys.length (Tm.ints ys) ∧ Below w.heap.size w (w.alloc (.cells #[] 3))) := Lib.hid ⟨0, [], by omega, rfl, rfl, Tm.row_empty w w.heap.size (Nat.le_refl _), (Below.refl _ _).alloc (Nat.le_refl _) _⟩
  clear hN ho hl hl4
  go_enter Tryz.func9, Tryz.ntmps9
  go_wp2_with fail
  go_loopg [5, 6] N (fun g s i wr => ∃ (k : Nat) (ys : List Nat), k + g = N ∧ i = .int .i64 k ∧ ys = (ks.take k).filter (fun q => q != x) ∧ wr.ownsRow w.heap.size 3 1 s ys.length (Tm.ints ys) ∧ Below w.heap.size w wr)
  case atStart => exact HSTART.out
  case round =>
    obtain ⟨k, ys, hkg, rfl, hys, hrow, hbw⟩ := hrel
    obtain ⟨wo, hwo⟩ : ∃ z, z = wr := ⟨_, rfl⟩
    subst hwo
    clear HSTART
    obtain ⟨va, vc, rfl⟩ := Tm.sl_of hrow
    have hyl : ys.length ≤ k := by
      rw [hys]
      refine Nat.le_trans (List.length_filter_le _ _) ?_
      rw [List.length_take]
      exact Nat.min_le_left _ _
    obtain ⟨m, hm⟩ : ∃ z, ys.length = z := ⟨_, rfl⟩
    rw [hm] at hrow hyl ⊢
    have HM := Lib.hid hm
    have HY := Lib.hid hys
    have HROW := Lib.hid hrow
    have HBW := Lib.hid hbw
    have HYL := Lib.hid hyl
    clear hm hys hrow hbw hyl
    by_cases hlt : k < N
    · obtain ⟨g, y, rfl, hky, _, _, hcell, hgl, _⟩ := Tm.row_int HO.out hlt
      have hc0 := (HBW.out.cell (p := ⟨g, k, none⟩) hgl).trans hcell
      have htk : ks.take (k + 1) = ks.take k ++ [y] := by rw [List.take_add_one, hky]; rfl
      by_cases hyx : y = x
      · have hb : ((y : Int) != (x : Int)) = false := by rw [hyx]; simp
        have HNX : Hid (ys = (ks.take (k + 1)).filter (fun q => q != x)) := Lib.hid (by
          rw [htk, List.filter_append, ← HY.out, hyx]
          simp)
        clear hky hcell hgl htk hyx
        go_wp2_with fail
        go_roundg (gk - 1)
        case measure => omega
        case rel => exact ⟨k + 1, ys, by omega, by first | rfl | go_num | (simp; try omega), HNX.out, by rw [HM.out]; exact HROW.out, HBW.out⟩
      · have hb : ((y : Int) != (x : Int)) = true := by
          rw [bne_iff_ne]
          omega
        have HNX : Hid (ys ++ [y] = (ks.take (k + 1)).filter (fun q => q != x)) := Lib.hid (by
          rw [htk, List.filter_append, ← HY.out]
          simp [hyx])
        have hml : m ≤ 4096 := by have := HL4.out; have := HYL.out; omega
        have hownx : ∀ O, (wo.alloc O).ownsRow w.heap.size 3 1 (.slice va m vc) m (Tm.ints ys) := fun O => Tm.row_kept HROW.out (fun q _ hl => Lib.alloc_old _ _ _ hl)
        have HOWNX := Lib.hid hownx
        have HSZX : Hid (∀ O, w.heap.size ≤ (wo.alloc O).heap.size) := Lib.hid (fun O => by have := HBW.out.size; simp; omega)
        clear hky hcell hgl htk hyx hownx
        go_wp2_with (at_builtin; refine Ls.wpList_append _ rfl _ _ 29 rfl w.heap.size 3 i8 (.int .i64 0) 1 8 Tryz.underlying29 hi8 hz8 hs8 hy8 rfl (by decide) (.slice va m vc) m (Tm.ints ys) (by rfl) (HOWNX.out _) (.slice (some ⟨wo.heap.size, 0, none⟩) 1 1) 1 [.int .i64 y] (by rfl) (.inr ⟨_, _, rfl, rfl, World.news_of_block (heap_alloc_new _ _)⟩) (by intro u hu; simp only [List.mem_cons, List.not_mem_nil, or_false] at hu; rcases hu with rfl; rfl) (by simp only [maxLen]; omega) (by omega) (HSZX.out _) ?_)
        intro v7 w7 hown7 hgr7 hfr7
        have HNEXT : Hid (w7.ownsRow w.heap.size 3 1 v7 (ys ++ [y]).length (Tm.ints (ys ++ [y])) ∧ Below w.heap.size w w7) := Lib.hid (by
          refine ⟨by rw [Tm.ints_snoc, List.length_append, HM.out]; exact hown7, ?_⟩
          exact (HBW.out.alloc HBW.out.size _).grown hgr7 (HSZX.out _) (fun q hq => (HROW.out.lt q hq).1))
        obtain ⟨a7, c7, rfl⟩ := Tm.sl_of hown7
        clear hown7 hgr7 hfr7 hml
        go_wp2_with fail
        go_roundg (gk - 1)
        case measure => omega
        case rel => exact ⟨k + 1, ys ++ [y], by omega, by first | rfl | go_num | (simp; try omega), HNX.out, HNEXT.out.1, HNEXT.out.2⟩
    · have hk2 : k = N := by omega
      subst hk2
      have HEND : Hid (wo.ownsRow w.heap.size 3 1 (.slice va m vc) (ks.filter (fun q => q != x)).length (Tm.ints (ks.filter (fun q => q != x)))) := Lib.hid (by
        have h1 := HY.out
        rw [List.take_of_length_le (by rw [HN.out]; exact Nat.le_refl _)] at h1
        rw [← h1, HM.out]
        exact HROW.out)
      go_wp2_with fail
      go_ret
      exact ⟨_, rfl, HEND.out, HBW.out⟩
end Go.Proofs.YtdjllmogejkimaaGreatDoor
namespace Go.Proofs.YtdjllmogejkimaaGreatDoor
open Go.RowKit Go.Lib
open Go.Sort (SWO PermIn SortedIn)

/-- Which entries a range over the map has given. -/
structure Tm.Gone (L : List Tm.Row) (seen : Array Nat) (js : List (Fin L.length)) : Prop where
  nd : js.Nodup
  sn : seen.toList = js.map (fun i => L[i].e.born)
theorem Tm.Gone.nil (L : List Tm.Row) : Tm.Gone L #[] [] := ⟨List.nodup_nil, rfl⟩
theorem Tm.Gone.le {L : List Tm.Row} {seen : Array Nat} {js : List (Fin L.length)} (h : Tm.Gone L seen js) : js.length ≤ L.length := by
  have := List.Nodup.length_le_of_subset h.nd (fun a _ => List.mem_finRange a)
  simpa using this
theorem Tm.born_inj {L : List Tm.Row} (hb : L.Pairwise (fun a b => a.e.born ≠ b.e.born)) {i j : Fin L.length} (h : L[i].e.born = L[j].e.born) : i = j := by
  rw [List.pairwise_iff_getElem] at hb
  rcases Nat.lt_trichotomy i.val j.val with k | k | k
  · exact absurd h (hb i.val j.val i.isLt j.isLt k)
  · exact Fin.ext k
  · exact absurd h.symm (hb j.val i.val j.isLt i.isLt k)
theorem Tm.Gone.mem {L : List Tm.Row} {seen : Array Nat} {js : List (Fin L.length)} (hb : L.Pairwise (fun a b => a.e.born ≠ b.e.born)) (h : Tm.Gone L seen js) (i : Fin L.length) : seen.contains L[i].e.born = true ↔ i ∈ js := by
  rw [Array.contains_iff_mem, ← Array.mem_toList_iff, h.sn, List.mem_map]
  exact ⟨fun ⟨j, hj, e⟩ => Tm.born_inj hb e ▸ hj, fun hi => ⟨i, hi, rfl⟩⟩
theorem Tm.Gone.step {L : List Tm.Row} {seen : Array Nat} {js : List (Fin L.length)} {es : Array MapEntry} {x : MapEntry} (he : es.toList = Tm.ents (L.map (·.e))) (hb : L.Pairwise (fun a b => a.e.born ≠ b.e.born)) (h : Tm.Gone L seen js) (hx : x ∈ (leftOf es seen).toList) :
    ∃ i : Fin L.length, x = Tm.ent L[i].e ∧ Tm.Gone L (seen.push x.born) (js ++ [i]) := by
  unfold leftOf at hx
  rw [Array.toList_filter, List.mem_filter, he] at hx
  obtain ⟨hm, hn⟩ := hx
  unfold Tm.ents at hm
  rw [List.map_map, List.mem_map] at hm
  obtain ⟨row, hr, rfl⟩ := hm
  obtain ⟨j, hj, rfl⟩ := List.mem_iff_getElem.1 hr
  refine ⟨⟨j, hj⟩, rfl, ?_, ?_⟩
  · rw [List.nodup_append]
    refine ⟨h.nd, by simp, fun a ha b hb2 e => ?_⟩
    rw [List.mem_singleton] at hb2
    subst hb2
    subst e
    have := (h.mem hb ⟨j, hj⟩).2 ha
    simp only [Bool.not_eq_true'] at hn
    have h2 : seen.contains L[j].e.born = false := hn
    have h3 : seen.contains L[j].e.born = true := this
    rw [h2] at h3
    cases h3
  · rw [Array.toList_push, h.sn, List.map_append]
    rfl
theorem Tm.Gone.all {L : List Tm.Row} {seen : Array Nat} {js : List (Fin L.length)} {es : Array MapEntry} (he : es.toList = Tm.ents (L.map (·.e))) (hb : L.Pairwise (fun a b => a.e.born ≠ b.e.born)) (h : Tm.Gone L seen js) (h0 : (leftOf es seen).size = 0) : js.Perm (List.finRange L.length) := by
  rw [List.perm_ext_iff_of_nodup h.nd (List.nodup_finRange _)]
  intro i
  refine ⟨fun _ => List.mem_finRange i, fun _ => ?_⟩
  rw [← h.mem hb i]
  cases hc : seen.contains L[i].e.born with
  | true => rfl
  | false =>
    have hm : Tm.ent L[i].e ∈ (leftOf es seen).toList := by
      unfold leftOf
      rw [Array.toList_filter, List.mem_filter, he]
      refine ⟨?_, ?_⟩
      · unfold Tm.ents
        rw [List.map_map, List.mem_map]
        exact ⟨L[i], List.getElem_mem _, rfl⟩
      · show (!seen.contains L[i].e.born) = true
        rw [hc]; rfl
    have : (leftOf es seen).toList = [] := List.eq_nil_of_length_eq_zero (by simpa using h0)
    rw [this] at hm
    cases hm
/-- What the sorting compares: when they came. -/
def Tm.cf (L : List Tm.Row) (i j : Fin L.length) : Int := (L[i].came : Int) - L[j].came
theorem Tm.cf_lt {L : List Tm.Row} (hc : L.Pairwise (fun a b => a.came < b.came)) (i j : Fin L.length) : ltOf (Tm.cf L) i j = decide (i < j) := by
  rw [List.pairwise_iff_getElem] at hc
  unfold ltOf Tm.cf
  rcases Nat.lt_trichotomy i.val j.val with k | k | k
  · have := hc i.val j.val i.isLt j.isLt k
    rw [decide_eq_true (show i < j from k), decide_eq_true_eq]
    show (L[i.val].came : Int) - L[j.val].came < 0
    omega
  · have e : i = j := Fin.ext k
    subst e
    simp
  · have := hc j.val i.val j.isLt i.isLt k
    have h4 : ¬ i.val < j.val := by omega
    rw [decide_eq_false (show ¬ i < j from h4), decide_eq_false_iff_not]
    show ¬ (L[i.val].came : Int) - L[j.val].came < 0
    omega
theorem Tm.cf_order {L : List Tm.Row} (hc : L.Pairwise (fun a b => a.came < b.came)) : SWO (ltOf (Tm.cf L)) where
  irrefl x := by rw [Tm.cf_lt hc]; simp
  trans x y z h1 h2 := by rw [Tm.cf_lt hc] at *; simp only [decide_eq_true_eq] at *; exact Nat.lt_trans h1 h2
  ntrans x y z h1 h2 := by
    rw [Tm.cf_lt hc] at *
    simp only [decide_eq_false_iff_not] at *
    have h3 : ¬ x.val < y.val := h1
    have h4 : ¬ y.val < z.val := h2
    have h5 : ¬ x.val < z.val := by omega
    exact h5
theorem Tm.sorted {L : List Tm.Row} (hc : L.Pairwise (fun a b => a.came < b.came)) {d d' : Array (Fin L.length)} [Inhabited (Fin L.length)] (hd : d.toList.Perm (List.finRange L.length)) (hp : PermIn 0 d.size d d') (hs : SortedIn (ltOf (Tm.cf L)) 0 d.size d') : d'.toList = List.finRange L.length := by
  obtain ⟨h1, _, h3⟩ := hp
  have e1 : d.extract 0 d.size = d := by simp
  have e2 : d'.extract 0 d.size = d' := by rw [← h1]; simp
  rw [e1, e2] at h3
  refine List.Perm.eq_of_pairwise (le := fun a b : Fin L.length => a ≤ b) (fun a b _ _ x y => ?_) ?_ ?_ (h3.trans hd)
  · have x' : a.val ≤ b.val := x
    have y' : b.val ≤ a.val := y
    exact Fin.ext (by omega)
  · rw [List.pairwise_iff_getElem]
    intro i j hi hj hij
    have hi' : i < d'.size := by simpa using hi
    have hj' : j < d'.size := by simpa using hj
    have := hs i j (Nat.zero_le _) hij (by omega)
    rw [Tm.cf_lt hc, getElem!_pos _ j hj', getElem!_pos _ i hi'] at this
    simp only [decide_eq_false_iff_not] at this
    have h6 : ¬ (d'[j]).val < (d'[i]).val := this
    have h7 : (d'[i]).val ≤ (d'[j]).val := by omega
    exact h7
  · exact (List.pairwise_lt_finRange _).imp (fun {a b} h => Nat.le_of_lt h)
end Go.Proofs.YtdjllmogejkimaaGreatDoor
namespace Go.Proofs.YtdjllmogejkimaaGreatDoor
open Go.RowKit Go.Lib Go.Shelf
open Go.Sort (SWO PermIn SortedIn putRow putCells mapBlock onCells grow heap_grow_old Holds)

/-- An entry's pointer. -/
def Tm.ptr (L : List Tm.Row) (i : Fin L.length) : Value := .pointer (some ⟨L[i].e.x, 0, none⟩)
theorem Tm.heap_sorted {α : Type} [Inhabited α] (enc : α → Value) {w : World} {g n : Nat} {e : TypeId} {os : Array Obj} {cur : Array Value} (d : Array α) (hb : w.heap[g]? = some (.cells cur e (0, 0))) : (sortWorld enc w g 0 n d os).heap[g]? = some (.cells (putCells enc 0 d cur) e (0, 0)) := by
  have hg : g < w.heap.size := (Array.getElem?_eq_some_iff.1 hb).1
  unfold sortWorld
  rw [heap_grow_old _ _ (by simpa using hg)]
  simp [putRow, mapBlock, Sort.ahead, Array.getElem?_modify, hb, onCells]
theorem Tm.sort_grown {α : Type} [Inhabited α] (enc : α → Value) {w : World} {g n : Nat} {os : Array Obj} (d : Array α) : w.grownBy (sortWorld enc w g 0 n d os) (some g) := by
  unfold sortWorld
  refine ⟨rfl, rfl, rfl, by simp, fun k hk hne => ?_⟩
  rw [heap_grow_old _ _ (by simpa using hk)]
  have : g ≠ k := fun e => hne (by rw [e])
  simp [putRow, mapBlock, Sort.ahead, Array.getElem?_modify, this]
theorem Tm.take_put {α : Type} [Inhabited α] (enc : α → Value) (cur : Array Value) (ts : List α) (h : ts.length ≤ cur.size) : (putCells enc 0 ts.toArray cur).toList.take ts.length = ts.map enc := by
  apply List.ext_getElem?
  intro j
  by_cases hj : j < ts.length
  · rw [List.getElem?_take_of_lt hj, Array.getElem?_toList]
    simp [putCells, hj, show j < cur.size by omega]
  · rw [List.getElem?_take_eq_none (by omega), List.getElem?_eq_none (by simp; omega)]
set_option maxHeartbeats 1000000 in
/-- What the sorting compares two entries by. -/
theorem Tm.cmp_any (x y cx cy : Nat) (W : World) (hx : W.cell? ⟨x, 22, none⟩ = some (.int .i64 cx)) (hy : W.cell? ⟨y, 22, none⟩ = some (.int .i64 cy)) (h1 : cx < 4611686018427387904) (h2 : cy < 4611686018427387904) :
    Calls Tryz.prog 23 #[.pointer (some ⟨x, 0, none⟩), .pointer (some ⟨y, 0, none⟩)] W fun e w' => e = .returned (.int .i64 ((cx : Int) - (cy : Int))) ∧ ∃ q, w' = W.drewN q := by
  have hw : IntKind.i64.wrap ((cx : Int) - (cy : Int)) = (cx : Int) - (cy : Int) := by rw [IntKind.wrap_i64]; omega
  clear h1 h2
  go_enter Tryz.func23, Tryz.ntmps23
  go_wp2_with fail
  go_quiet (fail)
  go_wp2
  go_ret
  exact ⟨rfl, _, rfl⟩
set_option maxHeartbeats 1000000 in
theorem Tm.sort_any (L : List Tm.Row) (W : World) (B : Nat) (v : Value) (js : List (Fin L.length)) (hc : L.Pairwise (fun a b => a.came < b.came)) (hla : ∀ row ∈ L, row.came < 4611686018427387904) (hz : L.length ≤ 1000000) (hp : js.Perm (List.finRange L.length))
    (hent : ∀ row ∈ L, (∃ C : Array Value, W.heap[row.e.x]? = some (.cells C 68 (0, 0)) ∧ C[22]? = some (.int .i64 row.came)) ∧ row.e.x < B) (ho : W.ownsRow B 64 1 v L.length (js.map (Tm.ptr L))) :
    Calls Tryz.prog 22 #[v, .func (.func 23) #[] #[]] W fun e w' => e = .returned (.tuple #[]) ∧ w'.ownsRow B 64 1 v L.length ((List.finRange L.length).map (Tm.ptr L)) ∧ W.grownBy w' v.ownBlock := by
  have hjl : js.length = L.length := by have := hp.length_eq; simpa using this
  by_cases h0 : L.length = 0
  · have hjs : js = [] := List.eq_nil_of_length_eq_zero (by omega)
    have hfr : List.finRange L.length = [] := List.eq_nil_of_length_eq_zero (by simp [h0])
    have ho2 := ho
    rw [hjs] at ho2
    obtain ⟨ad, cap, rfl⟩ : ∃ ad cap, v = .slice ad 0 cap := by
      rcases ho.2 with ⟨rfl, _⟩ | ⟨g, cap, cur, rfl, _⟩
      · exact ⟨none, 0, rfl⟩
      · exact ⟨_, cap, by rw [h0]⟩
    refine (AnyF.slices_SortFunc_none (P := Tryz.prog) { Tryz.laysSortF with } ad cap _ W).mono ?_
    rintro e w' ⟨rfl, rfl⟩
    refine ⟨rfl, by rw [hfr]; exact ho2, ⟨rfl, rfl, rfl, Nat.le_refl _, fun _ _ _ => rfl⟩⟩
  · rcases ho.2 with ⟨rfl, hh⟩ | ⟨g, cap, cur, rfl, hbg, hgc, hnc, hcm, hcs, htake⟩
    · exact absurd hh h0
    · have hI : Inhabited (Fin L.length) := ⟨⟨0, by omega⟩⟩
      obtain ⟨d, hd⟩ : ∃ z, z = js.toArray := ⟨_, rfl⟩
      have hds : d.size = L.length := by rw [hd]; simpa using hjl
      have hdl : d.toList = js := by rw [hd]
      have hgl : g < W.heap.size := (Array.getElem?_eq_some_iff.1 hgc).1
      have hH : Holds (Tm.ptr L) W g 0 d := by
        intro j hj
        have hjj : j < js.length := by omega
        have e1 : cur[j]? = some (Tm.ptr L d[j]!) := by
          have h1 := congrArg (fun l => l[j]?) htake
          simp only [Nat.mul_one] at h1
          rw [List.getElem?_take_of_lt (by omega), Array.getElem?_toList, List.getElem?_map, List.getElem?_eq_getElem hjj] at h1
          rw [h1, getElem!_pos d j hj]
          simp [hd]
        rw [Nat.zero_add]
        exact ⟨(Rt.cell_of hgc j).trans e1, Rt.frozen_of hgc j⟩
      have hcmp : CmpLays1 Tryz.prog 23 #[] (Tm.ptr L) (Tm.cf L) g 0 d.size W := by
        refine CmpReads.lays (fun m os dk hdk i j => ?_)
        have hg := Tm.sort_grown (Tm.ptr L) (w := W) (g := g) (n := m) (os := os) dk
        have hcell : ∀ i : Fin L.length, (sortWorld (Tm.ptr L) W g 0 m dk os).cell? ⟨L[i].e.x, 22, none⟩ = some (.int .i64 L[i].came) := fun i => by
          obtain ⟨⟨C, h1, h2⟩, h3⟩ := hent L[i] (List.getElem_mem _)
          have hl : L[i].e.x < W.heap.size := (Array.getElem?_eq_some_iff.1 h1).1
          have h4 := (hg.block L[i].e.x hl (fun e => by simp only [Option.some.injEq] at e; omega)).trans h1
          exact (Rt.cell_of h4 22).trans h2
        exact Tm.cmp_any L[i].e.x L[j].e.x L[i].came L[j].came _ (hcell i) (hcell j) (hla _ (List.getElem_mem _)) (hla _ (List.getElem_mem _))
      have eg : ∀ args w, (callFunc 23 args).run Tryz.prog w = .ok (.enter 23 args) w := enters_of Tryz.func23 (by kernel_rfl) rfl
      have hS := Any.slices_SortFunc Tryz.laysSortF (Tm.ptr L) (fun _ => rfl) (Tm.cf L) (Tm.cf_order hc) 23 #[] g 0 cap d W eg hcmp hH hgl (by omega)
      rw [hds] at hS
      refine Calls.mono hS ?_
      rintro e w' ⟨rfl, d', n, os, hperm, hsort, rfl⟩
      have hfin := Tm.sorted hc (by rw [hdl]; exact hp) (by rw [hds]; exact hperm) (by rw [hds]; exact hsort)
      have hd's : d' = (List.finRange L.length).toArray := by rw [← hfin]
      refine ⟨rfl, ⟨by simp, .inr ⟨g, cap, _, rfl, hbg, Tm.heap_sorted (Tm.ptr L) d' hgc, hnc, hcm, by simp [putCells, hcs], ?_⟩⟩, Tm.sort_grown (Tm.ptr L) d'⟩
      rw [Nat.mul_one, hd's]
      have := Tm.take_put (Tm.ptr L) cur (List.finRange L.length) (by simp; omega)
      rw [List.length_finRange] at this
      exact this
end Go.Proofs.YtdjllmogejkimaaGreatDoor
namespace Go.Proofs.YtdjllmogejkimaaGreatDoor
open Go.RowKit

/-- The value reads as n bools. -/
def Bl.In (w : World) (v : Value) (n : Nat) (B : Nat → Bool) : Prop := ∃ ad cap, v = .slice ad n cap ∧ n ≤ cap ∧ cap ≤ maxLen ∧ (0 < n → ∃ b off, ad = some ⟨b, off, none⟩ ∧ b < w.heap.size ∧ ∀ j, j < n → w.cell? ⟨b, off + j, none⟩ = some (.bool (B j)))
theorem Bl.open {H : Type} {enc : TypeId × Value → H} {P : Program} {w : World} {base : Nat} {held : Bool} {t e : TypeId} {v : Value} {d : DataW H} {ps : List MemPlace} (ht : P.underlying t = some (.slice e)) (he : P.underlying e = some .bool) (hc : P.cellsOf e = 1)
    (hv : ∃ a len cap, v = .slice a len cap) (hj : DataW.Trod enc P w base (fun _ => true) held t v d ps) : ∃ n B, Bl.In w v n B := by
  obtain ⟨a0, len, cap, rfl⟩ := hv
  obtain ⟨fuel, hf⟩ := hj
  rcases Go.Deep.open_bools ht he hc hf with ⟨hcs, _⟩ | ⟨a, len', cap', B, hcs, _, hl, hm, _, hcell⟩
  · simp only [Value.cells, List.cons.injEq, Value.slice.injEq, and_true] at hcs
    obtain ⟨rfl, rfl, rfl⟩ := hcs
    exact ⟨0, fun _ => false, none, 0, rfl, Nat.le_refl _, by decide, fun h => absurd h (Nat.lt_irrefl 0)⟩
  · have hva : (Value.slice a0 len cap) = .slice (some a) len' cap' := by simpa [Value.cells] using hcs
    refine ⟨len', B, some a, cap', hva, hl, hm, fun h0 => ?_⟩
    have h1 := hcell 0 (by omega)
    obtain ⟨b, off, spot⟩ := a
    have hsp : spot = none := by
      cases spot with
      | none => rfl
      | some s =>
        exfalso
        unfold World.cell? Addr.add at h1
        split at h1 <;> simp at h1
    subst hsp
    have hadd : ∀ j, (⟨b, off, none⟩ : Addr).add j = ⟨b, off + j, none⟩ := fun j => by unfold Addr.add; split <;> simp_all
    refine ⟨b, off, rfl, ?_, fun j hj => by rw [← hadd]; exact hcell j (by omega)⟩
    rw [hadd] at h1
    exact World.block_lt_of_cell? w _ h1

theorem Wt.tab_of {W : World} {name : String} {k : IntKind} {zs : List Int} {g : Nat} {t e : TypeId} {n : Nat} {d : DataW Unit}
    (hg : Tryz.prog.globalNamed name = some g) (hty : (Tryz.prog.globals[g]?).map (·.type) = some t) (ht : Tryz.prog.underlying t = some (.array n e)) (he : Tryz.prog.underlying e = some (.int k)) (hce : Tryz.prog.cellsOf e = 1) (hct : Tryz.prog.cellsOf t = n)
    (hd : d = Lib.tabData k zs) (h : Lib.VarReads Tryz.prog W name d) : Lib.TabIs Tryz.prog W name k zs := by
  obtain ⟨g', t', cs, fuel, p, hg', ht', hvar, hr⟩ := h
  obtain rfl := Option.some.inj (hg.symm.trans hg')
  obtain rfl := Option.some.inj (hty.symm.trans ht')
  subst hd
  unfold Lib.TabIs
  rw [hvar, ← Lib.cells_of_tab ht he hce hct hr]
def Wt.dB64 : List Int := [0, 1, 56, 2, 57, 49, 28, 3, 61, 58, 42, 50, 38, 29, 17, 4, 62, 47, 59, 36, 45, 43, 51, 22, 53, 39, 33, 30, 24, 18, 12, 5, 63, 55, 48, 27, 60, 41, 37, 16, 46, 35, 44, 21, 52, 32, 23, 11, 54, 26, 40, 15, 34, 20, 31, 10, 25, 14, 19, 9, 13, 8, 7, 6]
theorem Wt.bits_of {W : World} (h : Lib.VarReads Tryz.prog W "math/bits.deBruijn64tab" Rows.laid_math_bits_deBruijn64tab) : Wt.Bits W :=
  (Wt.tab_of (zs := Wt.dB64) (k := .u8) (g := 5) (t := 205) (e := 5) (n := 64) (by kernel_rfl) (by kernel_rfl) (by kernel_rfl) Tryz.underlying5 (by kernel_rfl) (by kernel_rfl) (by kernel_rfl) h).cell (by kernel_rfl) 15 (by decide)
theorem Wt.pow_of {W : World} (h : Lib.VarReads Tryz.prog W "internal/strconv.uint64pow10" Rows.laid_internal_strconv_uint64pow10) : Lib.TabIs Tryz.prog W "internal/strconv.uint64pow10" .u64 Lib.pow10Tab :=
  Wt.tab_of (g := 2) (t := 202) (e := 110) (n := 20) (by kernel_rfl) (by kernel_rfl) (by kernel_rfl) (by kernel_rfl) (by kernel_rfl) (by kernel_rfl) (by kernel_rfl) h
end Go.Proofs.YtdjllmogejkimaaGreatDoor
