/-
  cond.own of any part whose fields are sound: the same, of new memory.
  What cond.Join's two loops keep.
  Arguments that are conditions, opened.
  sextantref16.Check of any parts whose texts are short: that of the program.
  cond.first of parts whose types there are.
  sextantref16.first of parts that Check takes.
  cond.Join of any lists of parts.
  cond.Find of any parts.
  sextantref16.Find of any parts whose texts are short: what the program's answers.
  sextantref16.Join of any lists of parts whose texts are short.
-/
import Derived.Deep.AppendLies
import Derived.Deep.RegionLaw
import Derived.Deep.LoopGhost
import Derived.Laws.OwnMore
import Derived.Test.YtikmebkfdpbidaaGreatDoorPj
import Derived.Test.YtikmebkfdpbidaaGreatDoorTrCopyP
import Derived.Test.YtikmebkfdpbidaaGreatDoorPa
import Derived.Test.YtikmebkfdpbidaaGreatDoorPi
namespace Go.Proofs.YtikmebkfdpbidaaGreatDoor
open Go.RowKit
set_option linter.unusedVariables false
set_option linter.unusedSimpArgs false

theorem Ls.own_below {w w' : World} {B B2 sz : Nat} {t : TypeId} {v : Value} {n : Nat} {xs : List Value} (h : w.ownsRow B t sz v n xs) (hb : Below B2 w w') (hB : w.heap.size ≤ B2) : w'.ownsRow B t sz v n xs := by
  refine ⟨h.1, ?_⟩
  rcases h.2 with hv | ⟨g, cap, cur, hv, hB', hg, rest⟩
  · exact .inl hv
  · have hlt := (Array.getElem?_eq_some_iff.1 hg).1
    exact .inr ⟨g, cap, cur, hv, hB', by rw [hb.block g (by omega)]; exact hg, rest⟩
theorem Ls.own_slice {w : World} {B sz : Nat} {t : TypeId} {v : Value} {n : Nat} {xs : List Value} (h : w.ownsRow B t sz v n xs) : ∃ a c, v = .slice a n c := by
  rcases h.2 with ⟨rfl, rfl⟩ | ⟨g, cap, cur, hv, _⟩
  · exact ⟨_, _, rfl⟩
  · exact ⟨_, _, hv⟩
theorem Sp.info : (Tryz.prog.info? 53).map (fun i => (i.zero, i.size, i.bytes)) = some (some (.agg #[.int .i64 0, .slice none 0 0]), 2, 32) := by kernel_rfl
/-- The state of own's loop. -/
structure Sp.OwnSt (w : World) (s : Sp) (wr : World) (k : Nat) (vo : Value) (xs : List Value) : Prop where
  row : Tr.Row (w.heap.size + 3) wr vo (s.f.take k) xs
  blk : Tr.Blk wr (w.heap.size + 2) #[.int .i64 s.t, vo]
  res : ∃ cr, Tr.Blk wr (w.heap.size + 1) cr ∧ cr.size = 2
  bel : Below w.heap.size w wr
  lt : w.heap.size + 3 ≤ wr.heap.size
theorem Sp.OwnSt.next {w : World} {s : Sp} {wo : World} {k : Nat} {vo : Value} {xs : List Value} (h : Sp.OwnSt w s wo k vo xs) {o o2 : Obj} {w6 w7 : World} {tk : Tr} {C6 : Array Value} {v7 : Value} (htk : s.f[k]? = some tk)
    (h6 : Below (wo.alloc o).heap.size (wo.alloc o) w6) (hI : Tr.In w6 (fun q => (wo.alloc o).heap.size ≤ q) tk (.agg C6)) (hown : w7.ownsRow (w.heap.size + 3) 30 11 v7 (k + 1) (xs ++ C6.toList)) (hg : (w6.alloc o2).grownBy w7 vo.ownBlock) (hf : Ls.Fresh (w6.alloc o2) vo v7) :
    ∃ x W8, w7.cell? ⟨w.heap.size + 2, 1, none⟩ = some x ∧ w7.frozen? ⟨w.heap.size + 2, 1, none⟩ = false ∧ w7.setCell ⟨w.heap.size + 2, 1, none⟩ v7 = W8 ∧ Hid (Sp.OwnSt w s W8 (k + 1) v7 (xs ++ C6.toList)) := by
  have hlt := (List.getElem?_eq_some_iff.1 htk).1
  have hlen : (s.f.take k).length = k := by rw [List.length_take]; omega
  have hsz : (wo.alloc o).heap.size = wo.heap.size + 1 := by simp
  have hb1 : Below wo.heap.size wo w6 := ((Below.refl _ _).alloc (Nat.le_refl _) o).trans (h6.mono (by omega))
  have hb2 : Below wo.heap.size wo (w6.alloc o2) := hb1.alloc hb1.size o2
  have hlt3 := h.lt
  have hne : ∀ q, q < w.heap.size + 3 → q < wo.heap.size → w7.heap[q]? = wo.heap[q]? := fun q h1 h2 => (hg.block q (by have := hb2.size; omega) (fun e => by have := (h.row.1.lt q e.symm).1; omega)).trans (hb2.block q h2)
  have hblk7 : Tr.Blk w7 (w.heap.size + 2) #[.int .i64 s.t, vo] := h.blk.kept (hne _ (by omega) h.blk.lt)
  obtain ⟨x, W8, g8, z8, s8, hB8, hz8, ho8, hos8⟩ := hblk7.put 1 (by simp) v7
  have hI2 : Tr.In (w6.alloc o2) (fun q => wo.heap.size ≤ q) tk (.agg C6) := Tr.In.mono (fun q hq => by omega) _ _ (Tr.In.below hI ((Below.refl _ _).alloc (Nat.le_refl _) o2) (Nat.le_refl _))
  have hrow := h.row.push hb2 (by omega) hI2 (by rw [hlen]; exact hown) hg hf
  have hbel : Below w.heap.size w w7 := (h.bel.trans (hb2.mono (by omega))).grown hg (by have := hb2.size; omega) (fun q hq => by have := (h.row.1.lt q hq).1; omega)
  refine ⟨x, W8, g8, z8, s8, Lib.hid ⟨?_, ?_, ?_, ?_, ?_⟩⟩
  · have htake : s.f.take (k + 1) = s.f.take k ++ [tk] := by rw [List.take_add_one, htk]; rfl
    rw [htake]
    refine ⟨?_, fun j t hj => ?_⟩
    · refine ⟨hrow.1.1, ?_⟩
      rcases hrow.1.2 with hv | ⟨g, cap, cur, hv, hB', hgc, rest⟩
      · exact .inl hv
      · exact .inr ⟨g, cap, cur, hv, hB', by rw [ho8 g (by omega)]; exact hgc, rest⟩
    · obtain ⟨C, h1, h2⟩ := hrow.2 j t hj
      exact ⟨C, Tr.In.kept ⟨by omega, fun q hq hl => ho8 q (by omega)⟩ _ _ h1, h2⟩
  · have e : (#[.int .i64 s.t, vo] : Array Value).set! 1 v7 = #[.int .i64 s.t, v7] := rfl
    rw [e] at hB8
    exact hB8
  · obtain ⟨cr, h1, h2⟩ := h.res
    exact ⟨cr, h1.kept ((ho8 _ (by omega)).trans (hne _ (by omega) h1.lt)), h2⟩
  · exact ⟨hos8.1.trans hbel.os, hos8.2.1.trans hbel.tape, hos8.2.2.trans hbel.output, by have := hbel.size; omega, fun q hq => (ho8 q (by omega)).trans (hbel.block q hq)⟩
  · have := hb2.size
    have := hg.size
    omega
set_option maxHeartbeats 8000000 in
set_option maxRecDepth 1000000 in
theorem Sp.own_any (s : Sp) (S : Nat → Prop) (fv : Value) (w : World) (h : Tr.LIn w S s.f fv) (hs : ∀ t ∈ s.f, Tr.sound t = true) (hlen : s.f.length ≤ 1000) :
    Calls Tryz.prog 52 #[.agg #[.int .i64 s.t, fv]] w fun e w' => ∃ fv', e = .returned (.agg #[.int .i64 s.t, fv']) ∧ Tr.LIn w' (fun q => w.heap.size ≤ q) s.f fv' ∧ Below w.heap.size w w' := by
  obtain ⟨fa, fc, rfl, _, _⟩ := Tr.Sl.slice h
  have HH := Lib.hid h
  have HS := Lib.hid hs
  obtain ⟨i0, hi, hz0, hz1, hz2⟩ := info_parts Tr.infoD
  obtain ⟨W2, hW2, q0, q1, q2, hsz, hb0⟩ := Rt.three w (.cells #[.int .i64 s.t, .slice fa s.f.length fc] 53) (.cells #[.int .i64 0, .slice none 0 0] 53) (.cells #[.int .i64 s.t, .slice none 0 0] 53)
  have HST : Hid (Sp.OwnSt w s W2 0 (.slice none 0 0) []) := Lib.hid ⟨Tr.Row.nil _ _, ⟨_, q2⟩, ⟨_, ⟨_, q1⟩, rfl⟩, hb0, by omega⟩
  have HW2 := Lib.hid hW2
  clear h hs q0 q1 q2 hb0 hsz hW2
  go_enter Tryz.func52, Tryz.ntmps52
  go_wp2_with fail
  go_loopg [12] s.f.length (fun g i wr => ∃ (k : Nat) (vo : Value) (xs : List Value), k + g = s.f.length ∧ i = .int .i64 k ∧ Sp.OwnSt w s wr k vo xs)
  case atStart =>
    have h0 := HST.out
    rw [← HW2.out] at h0
    exact ⟨0, _, _, by omega, rfl, h0⟩
  case round =>
    obtain ⟨k, vo, xs, hkg, rfl, hst⟩ := hrel
    obtain ⟨wo, hwo⟩ : ∃ z, z = wr := ⟨_, rfl⟩
    subst hwo
    clear HST HW2
    have hlk : (s.f.take k).length = k := by rw [List.length_take]; omega
    obtain ⟨oa, oc, rfl⟩ : ∃ a c, vo = .slice a k c := by
      obtain ⟨a, c, e⟩ := Ls.own_slice hst.row.1
      exact ⟨a, c, by rw [e, hlk]⟩
    have HO := Lib.hid hst
    clear hst
    by_cases hlt : k < s.f.length
    · obtain ⟨tk, htk⟩ : ∃ t, s.f[k]? = some t := ⟨_, List.getElem?_eq_getElem hlt⟩
      obtain ⟨b, off, rfl, _, _, _, hblt, hSb, hall⟩ := Tr.Sl.at HH.out (by omega)
      obtain ⟨Ck, hIk, hMk⟩ := Tr.All.at _ _ _ hall k tk htk
      rw [Nat.mul_comm 11 k] at hMk
      have hMk4 := hMk.kept (Tr.Kept.all HO.out.bel (Nat.le_refl _)) hSb hblt
      have KT := fun w' hI => Tr.Copy_any tk S (.agg Ck) w' hI (HS.out tk (List.mem_of_getElem? htk))
      have hIA : ∀ o, Tr.In (wo.alloc o).drew S tk (.agg Ck) := fun o => Tr.In.below (Tr.In.below hIk HO.out.bel (Nat.le_refl _)) (((Below.refl _ _).alloc (Nat.le_refl _) o).drew) (Nat.le_refl _)
      obtain ⟨he, le, ab3, ab4, ab6, ab7, ab9, ab10, nb3, nb4, nb6, nb7, nb9, nb10, cb3, cb4, cb6, cb7, cb9, cb10, eCb, ebt, hbH, hbL⟩ := Tr.In.form2 hIk
      subst eCb
      obtain ⟨O, hO⟩ : ∃ z, z = Obj.cells (Tr.cells he (.slice ab3 nb3 cb3) (.slice ab4 nb4 cb4) (.slice ab6 nb6 cb6) (.slice ab7 nb7 cb7) (.slice ab9 nb9 cb9) (.slice ab10 nb10 cb10)) 30 := ⟨_, rfl⟩
      have HOB := Lib.hid hO
      unfold Tr.cells at KT hMk4
      obtain ⟨e0, e1, e2, e3, e4, e5, e6, e7, e8, e9, e10⟩ := Tr.Mem.cells hMk4
      have hvo : ∀ o w', Below (wo.alloc o).heap.size (wo.alloc o) w' → w'.cell? ⟨w.heap.size + 2, 1, none⟩ = some (.slice oa k oc) ∧ w'.ownsRow (w.heap.size + 3) 30 11 (.slice oa k oc) k xs ∧ w.heap.size + 3 ≤ w'.heap.size := fun o w' hb => by
        have hlt2 := HO.out.blk.lt
        have hb1 : Below wo.heap.size wo w' := ((Below.refl _ _).alloc (Nat.le_refl _) o).trans (hb.mono (by simp))
        refine ⟨(hb1.cell (p := ⟨w.heap.size + 2, 1, none⟩) hlt2).trans ((HO.out.blk.cell 1).trans rfl), ?_, by have := HO.out.lt; have := hb1.size; omega⟩
        have := Ls.own_below HO.out.row.1 hb1 (Nat.le_refl _)
        rw [hlk] at this
        exact this
      have hv0 : ∀ o, (wo.alloc o).drew.cell? ⟨w.heap.size + 2, 1, none⟩ = some (.slice oa k oc) := fun o => (hvo o _ ((Below.refl _ _).drew)).1
      have HVO := Lib.hid hvo
      have HKT := Lib.hid KT
      have HIA := Lib.hid hIA
      have HTK := Lib.hid htk
      clear hIk hMk hMk4 hall htk ebt hbH hbL hblt hSb KT hIA hvo hO hlk
      go_wp2_with fail
      go_region_law (first
        | (refine Ls.step_append _ (by rfl) _ _ 28 (by rfl) (w.heap.size + 3) 30 i0 Tr.zeroV 11 192 Tryz.underlying28 hi hz0 hz1 hz2 rfl (by decide) (.slice oa k oc) k xs (by rfl) ((HVO.out O _ (HA.out.1.alloc HA.out.1.size _)).2.1) (.slice (some ⟨w6.heap.size, 0, none⟩) 1 1) 1 [.int .i64 hf.k, .int .i64 hf.n, .bool hf.s1, .slice ar3 nr3 cr3, .slice ar4 nr4 cr4, .bool hf.s2, .slice ar6 nr6 cr6, .slice ar7 nr7 cr7, .string hf.x, .slice ar9 nr9 cr9, .slice ar10 nr10 cr10] (by rfl) (.inr ⟨_, _, rfl, rfl, World.news_of_block (heap_alloc_new _ _)⟩) (by intro u hu; simp only [List.mem_cons, List.not_mem_nil, or_false] at hu; rcases hu with rfl | rfl | rfl | rfl | rfl | rfl | rfl | rfl | rfl | rfl | rfl <;> rfl) (by simp only [maxLen]; omega) (by omega) ((HVO.out O _ (HA.out.1.alloc HA.out.1.size _)).2.2) ?_
           intro v7 w7 hown7 hgr7 hfr7
           obtain ⟨a7, c7, rfl⟩ := Ls.own_slice hown7
           obtain ⟨x7, W8, g7, z7, s7, HN⟩ := HO.out.next (o := O) HTK.out HA.out.1 HA.out.2 hown7 hgr7 hfr7
           clear hown7 hgr7 hfr7)
        | (go_simp
           go_at_call 44
           refine (HKT.out _ (HIA.out _)).mono ?_
           rintro x w6 ⟨C6, rfl, hI6, hb6⟩
           have hb6' : Below (wo.alloc O).heap.size (wo.alloc O) w6 := by
             rw [HOB.out]
             exact ((Below.refl _ _).drew).trans hb6
           have hv6 := (HVO.out _ _ hb6').1
           have hv7 : ∀ o2, (w6.alloc o2).cell? ⟨w.heap.size + 2, 1, none⟩ = some (.slice oa k oc) := fun o2 => (HVO.out O _ (hb6'.alloc hb6'.size o2)).1
           obtain ⟨hf, lf, ar3, ar4, ar6, ar7, ar9, ar10, nr3, nr4, nr6, nr7, nr9, nr10, cr3, cr4, cr6, cr7, cr9, cr10, eC6, et6, _, _⟩ := Tr.In.form2 hI6
           subst eC6
           have HA := Lib.hid (And.intro hb6' (show Tr.In w6 (fun q => (wo.alloc O).heap.size ≤ q) tk (.agg (Tr.cells hf (.slice ar3 nr3 cr3) (.slice ar4 nr4 cr4) (.slice ar6 nr6 cr6) (.slice ar7 nr7 cr7) (.slice ar9 nr9 cr9) (.slice ar10 nr10 cr10))) by rw [HOB.out]; exact hI6))
           unfold Tr.cells
           clear hI6 hb6 hb6' et6))
      all_goals
        go_wp2_with fail
        go_roundg (gk - 1)
        case measure => omega
        case rel => exact ⟨k + 1, _, _, by omega, by first | rfl | go_num | (simp; try omega), HN.out⟩
    · have hk : k = s.f.length := by omega
      subst hk
      have hrow := HO.out.row
      rw [List.take_length] at hrow
      obtain ⟨cr, hcr, hcrs⟩ := HO.out.res
      have c0 := HO.out.blk.cell 0
      have c1 := HO.out.blk.cell 1
      obtain ⟨x0, x1, X1, X2, ⟨g0, z0, s0⟩, ⟨g1, z1, s1⟩, r0, r1, HX⟩ := Sp.ret2 HO.out.bel hcr hcrs (by omega) (.int .i64 s.t) (.slice oa s.f.length oc)
      have HR := Lib.hid hrow
      clear hrow hcr hcrs
      go_wp2_with fail
      refine bodyPost_ret (v := .agg #[.int .i64 s.t, .slice oa s.f.length oc]) (by simp [results, Tryz.results52, go_sem, r0, r1]) rfl ⟨_, rfl, ?_, HX.out.1⟩
      exact (HR.out.lin.kept (w' := X2) ⟨by have := HX.out.2.1; omega, fun q hq hl => HX.out.2.2 q (by omega)⟩).mono (fun q hq => by omega)
end Go.Proofs.YtikmebkfdpbidaaGreatDoor
namespace Go.Proofs.YtikmebkfdpbidaaGreatDoor
open Go.RowKit
set_option linter.unusedVariables false

/-- Lists of parts in memory. -/
def Sp.LLIn (w : World) (S : Nat → Prop) (ls : List (List Sp)) (v : Value) : Prop := Tr.Sl w S v ls.length (fun b off => ∀ k l, ls[k]? = some l → ∃ lv, w.cell? ⟨b, off + k, none⟩ = some lv ∧ Sp.LIn w S l lv)
theorem Sp.At.tail {w : World} {S : Nat → Prop} {s : Sp} {l : List Sp} {b off : Nat} (h : Sp.At w S (s :: l) b off) : Sp.At w S l b (off + 2) := fun k t hk => by
  obtain ⟨fv, h1, h2, h3⟩ := h (k + 1) t (by simpa using hk)
  refine ⟨fv, ?_, ?_, h3⟩
  · rw [show off + 2 + k * 2 = off + (k + 1) * 2 by omega]; exact h1
  · rw [show off + 2 + k * 2 + 1 = off + (k + 1) * 2 + 1 by omega]; exact h2
theorem Sp.fld_one {w : World} {S : Nat → Prop} {l : List Tr} {fv : Value} (h : Tr.LIn w S l fv) : fv.oneCell' = true := by
  obtain ⟨a, c, rfl, _⟩ := Tr.Sl.slice h
  rfl
/-- The cells of the parts. -/
theorem Sp.At.news {w : World} {S : Nat → Prop} : ∀ (l : List Sp) (b off : Nat), Sp.At w S l b off → ∃ news : List Value, news.length = l.length * 2 ∧ (∀ j u, news[j]? = some u → w.cell? ⟨b, off + j, none⟩ = some u) ∧ (∀ u ∈ news, u.oneCell' = true) ∧
    (∀ j s, l[j]? = some s → ∃ fv, news[j * 2]? = some (.int .i64 s.t) ∧ news[j * 2 + 1]? = some fv ∧ Tr.LIn w S s.f fv)
  | [], _, _, _ => ⟨[], rfl, fun j u h => by simp at h, fun u h => by simp at h, fun j s h => by simp at h⟩
  | s :: r, b, off, h => by
    obtain ⟨news, h1, h2, h3, h4⟩ := Sp.At.news r b (off + 2) h.tail
    obtain ⟨fv, e1, e2, e3⟩ := h 0 s rfl
    refine ⟨.int .i64 s.t :: fv :: news, by simp only [List.length_cons, h1]; omega, ?_, ?_, ?_⟩
    · intro j u hj
      match j, hj with
      | 0, hj => simp only [List.getElem?_cons_zero, Option.some.injEq] at hj; subst hj; simpa using e1
      | 1, hj => simp only [List.getElem?_cons_succ, List.getElem?_cons_zero, Option.some.injEq] at hj; subst hj; simpa using e2
      | j + 2, hj =>
        simp only [List.getElem?_cons_succ] at hj
        rw [show off + (j + 2) = off + 2 + j by omega]
        exact h2 j u hj
    · intro u hu
      rcases List.mem_cons.1 hu with rfl | hu
      · rfl
      · rcases List.mem_cons.1 hu with rfl | hu
        · exact Sp.fld_one e3
        · exact h3 u hu
    · intro j t hj
      match j, hj with
      | 0, hj =>
        simp only [List.getElem?_cons_zero, Option.some.injEq] at hj
        subst hj
        exact ⟨fv, rfl, rfl, e3⟩
      | j + 1, hj =>
        obtain ⟨f2, g1, g2, g3⟩ := h4 j t (by simpa using hj)
        exact ⟨f2, by rw [show (j + 1) * 2 = j * 2 + 2 by omega]; simpa using g1, by rw [show (j + 1) * 2 + 1 = j * 2 + 1 + 2 by omega]; simpa using g2, g3⟩
theorem Sp.add_off (b off j : Nat) : (⟨b, off, none⟩ : Addr).add j = ⟨b, off + j, none⟩ := by unfold Addr.add; split <;> simp_all
theorem Sp.LIn.news {w w' : World} {S : Nat → Prop} {l : List Sp} {v : Value} (h : Sp.LIn w S l v) (hb : Below w.heap.size w w') : ∃ news : List Value, Ls.Src w' 2 v l.length news ∧ (∀ u ∈ news, u.oneCell' = true) ∧
    (∀ j s, l[j]? = some s → ∃ fv, news[j * 2]? = some (.int .i64 s.t) ∧ news[j * 2 + 1]? = some fv ∧ Tr.LIn w S s.f fv) := by
  have hnil : l.length = 0 → ∀ j s, l[j]? = some s → ∃ fv, ([] : List Value)[j * 2]? = some (.int .i64 s.t) ∧ ([] : List Value)[j * 2 + 1]? = some fv ∧ Tr.LIn w S s.f fv := by
    intro h0 j s hj
    have := (List.getElem?_eq_some_iff.1 hj).1
    omega
  rcases h with ⟨rfl, h0⟩ | ⟨a, cap, rfl, h0⟩ | ⟨h0, b, off, cap, rfl, _, _, hlt, _, hA⟩
  · exact ⟨[], .inl ⟨rfl, h0, rfl⟩, fun u h => by simp at h, hnil h0⟩
  · exact ⟨[], .inr ⟨a, cap, by rw [h0], by rw [h0]; rfl, fun j u h => by simp at h⟩, fun u h => by simp at h, hnil h0⟩
  · obtain ⟨news, h1, h2, h3, h4⟩ := Sp.At.news l b off hA
    refine ⟨news, .inr ⟨⟨b, off, none⟩, cap, rfl, h1, fun j u hj => ?_⟩, h3, h4⟩
    rw [Sp.add_off]
    exact (hb.cell (p := ⟨b, off + j, none⟩) hlt).trans (h2 j u hj)
/-- The state of Join's first loop. -/
structure Sp.JoinSt (w : World) (S : Nat → Prop) (all : List Sp) (wr : World) (vo : Value) (xs : List Value) : Prop where
  own : wr.ownsRow w.heap.size 53 2 vo all.length xs
  els : ∀ j s, all[j]? = some s → ∃ fv, xs[j * 2]? = some (.int .i64 s.t) ∧ xs[j * 2 + 1]? = some fv ∧ Tr.LIn w S s.f fv
  bel : Below w.heap.size w wr
theorem Sp.JoinSt.next {w : World} {S : Nat → Prop} {all l : List Sp} {wr w' : World} {vo v' : Value} {xs news : List Value} (h : Sp.JoinSt w S all wr vo xs) (hn : ∀ j s, l[j]? = some s → ∃ fv, news[j * 2]? = some (.int .i64 s.t) ∧ news[j * 2 + 1]? = some fv ∧ Tr.LIn w S s.f fv)
    (hown : w'.ownsRow w.heap.size 53 2 v' (all.length + l.length) (xs ++ news)) (hg : wr.grownBy w' vo.ownBlock) : Sp.JoinSt w S (all ++ l) w' v' (xs ++ news) := by
  refine ⟨by rw [List.length_append]; exact hown, fun j s hj => ?_, h.bel.grown hg h.bel.size (fun q hq => (h.own.lt q hq).1)⟩
  have hl := h.own.1
  rcases Nat.lt_or_ge j all.length with h1 | h1
  · rw [List.getElem?_append_left h1] at hj
    obtain ⟨fv, e1, e2, e3⟩ := h.els j s hj
    exact ⟨fv, by rw [List.getElem?_append_left (by omega)]; exact e1, by rw [List.getElem?_append_left (by omega)]; exact e2, e3⟩
  · rw [List.getElem?_append_right h1] at hj
    obtain ⟨fv, e1, e2, e3⟩ := hn _ s hj
    refine ⟨fv, ?_, ?_, e3⟩
    · rw [List.getElem?_append_right (by omega), ← e1]; congr 1; omega
    · rw [List.getElem?_append_right (by omega), ← e2]; congr 1; omega
/-- The state of Join's second loop. -/
structure Sp.JoinSt2 (w : World) (S : Nat → Prop) (all : List Sp) (wr : World) (i : Nat) (g : Nat) (cur : Array Value) : Prop where
  blk : Tr.Blk wr g cur
  csz : all.length * 2 ≤ cur.size
  low : w.heap.size ≤ g
  els : ∀ j s, all[j]? = some s → ∃ fv, cur[j * 2]? = some (.int .i64 s.t) ∧ cur[j * 2 + 1]? = some fv ∧ ((j < i ∧ Tr.LIn wr (fun q => w.heap.size ≤ q ∧ q ≠ g) s.f fv) ∨ (i ≤ j ∧ Tr.LIn w S s.f fv))
  bel : Below w.heap.size w wr
theorem Sp.JoinSt.open {w : World} {S : Nat → Prop} {all : List Sp} {wr : World} {vo : Value} {xs : List Value} (h : Sp.JoinSt w S all wr vo xs) (h0 : 0 < all.length) : ∃ g cap cur, vo = .slice (some ⟨g, 0, none⟩) all.length cap ∧ all.length ≤ cap ∧ cap ≤ maxLen ∧ Sp.JoinSt2 w S all wr 0 g cur := by
  rcases h.own.2 with ⟨_, e⟩ | ⟨g, cap, cur, hv, hbg, hgc, hnc, hcm, hcs, htake⟩
  · omega
  · refine ⟨g, cap, cur, hv, hnc, hcm, ⟨⟨_, hgc⟩, by omega, hbg, fun j s hj => ?_, h.bel⟩⟩
    have hlt := (List.getElem?_eq_some_iff.1 hj).1
    obtain ⟨fv, e1, e2, e3⟩ := h.els j s hj
    have hx : ∀ (i : Nat) (u : Value), xs[i]? = some u → cur[i]? = some u := by
      intro i u hi
      rw [← htake, List.getElem?_take] at hi
      split at hi
      · simpa using hi
      · cases hi
    exact ⟨fv, hx _ _ e1, hx _ _ e2, .inr ⟨Nat.zero_le _, e3⟩⟩
/-- The row, read as parts. -/
theorem Sp.JoinSt.lin {w : World} {S : Nat → Prop} {all : List Sp} {wr : World} {vo : Value} {xs : List Value} (h : Sp.JoinSt w S all wr vo xs) : Sp.LIn wr (fun _ => True) all vo := by
  rcases h.own.2 with ⟨rfl, e⟩ | ⟨g0, cap0, cur0, hv0, _⟩
  · exact .inl ⟨rfl, e⟩
  · rcases Nat.eq_zero_or_pos all.length with h0 | h0
    · exact .inr (.inl ⟨_, _, by rw [hv0, h0], h0⟩)
    · obtain ⟨g, cap, cur, rfl, hc1, hc2, h2⟩ := h.open h0
      refine .inr (.inr ⟨h0, g, 0, cap, rfl, hc1, by simp only [maxLen] at hc2; omega, h2.blk.lt, trivial, fun k s hk => ?_⟩)
      obtain ⟨fv, e1, e2, e3⟩ := h2.els k s hk
      refine ⟨fv, ?_, ?_, ?_⟩
      · rw [Nat.zero_add, h2.blk.cell]; exact e1
      · rw [Nat.zero_add, h2.blk.cell]; exact e2
      · rcases e3 with ⟨_, e3⟩ | ⟨_, e3⟩
        · exact e3.mono (fun _ _ => trivial)
        · exact (e3.below h.bel (Nat.le_refl _)).mono (fun _ _ => trivial)
theorem Sp.JoinSt2.lin {w : World} {S : Nat → Prop} {all : List Sp} {wr : World} {g cap : Nat} {cur : Array Value} (h : Sp.JoinSt2 w S all wr all.length g cur) (h0 : 0 < all.length) (hc : all.length ≤ cap) (hm : cap ≤ maxLen) : Sp.LIn wr (fun q => w.heap.size ≤ q) all (.slice (some ⟨g, 0, none⟩) all.length cap) := by
  refine .inr (.inr ⟨h0, g, 0, cap, rfl, hc, by simp only [maxLen] at hm; omega, h.blk.lt, h.low, fun k s hk => ?_⟩)
  have hlt := (List.getElem?_eq_some_iff.1 hk).1
  obtain ⟨fv, e1, e2, e3⟩ := h.els k s hk
  refine ⟨fv, ?_, ?_, ?_⟩
  · rw [Nat.zero_add, h.blk.cell]; exact e1
  · rw [Nat.zero_add, h.blk.cell]; exact e2
  · rcases e3 with ⟨_, e3⟩ | ⟨_, e3⟩
    · exact e3.mono (fun q hq => hq.1)
    · omega
/-- One part is replaced by its copy. -/
theorem Sp.JoinSt2.next {w : World} {S : Nat → Prop} {all : List Sp} {wo : World} {i g : Nat} {cur : Array Value} (h : Sp.JoinSt2 w S all wo i g cur) {s : Sp} (hs : all[i]? = some s) {o : Obj} {w2 : World} {f2 : Value} (hb : Below (wo.alloc o).heap.size (wo.alloc o) w2) (hL : Tr.LIn w2 (fun q => (wo.alloc o).heap.size ≤ q) s.f f2) :
    ∃ x0 x1 X1 X2, (w2.cell? ⟨g, i * 2, none⟩ = some x0 ∧ w2.frozen? ⟨g, i * 2, none⟩ = false ∧ w2.setCell ⟨g, i * 2, none⟩ (.int .i64 s.t) = X1) ∧ (X1.cell? ⟨g, i * 2 + 1, none⟩ = some x1 ∧ X1.frozen? ⟨g, i * 2 + 1, none⟩ = false ∧ X1.setCell ⟨g, i * 2 + 1, none⟩ f2 = X2) ∧ Hid (∃ cur', Sp.JoinSt2 w S all X2 (i + 1) g cur') := by
  have hlt := (List.getElem?_eq_some_iff.1 hs).1
  have hsz : (wo.alloc o).heap.size = wo.heap.size + 1 := by simp
  have hb1 : Below wo.heap.size wo w2 := ((Below.refl _ _).alloc (Nat.le_refl _) o).trans (hb.mono (by omega))
  have hgl := h.blk.lt
  have hcs := h.csz
  have hz := hb1.size
  obtain ⟨x0, x1, X1, X2, cur', p0, p1, HX⟩ := (h.blk.kept (hb1.block g hgl)).put2 (i * 2) (by omega) (.int .i64 s.t) f2
  obtain ⟨hBX, hsX, hzX, hoX, hc0, hc1, hcX, hosX⟩ := HX.out
  refine ⟨x0, x1, X1, X2, p0, p1, Lib.hid ⟨cur', hBX, by omega, h.low, fun j t hj => ?_, ?_⟩⟩
  · rcases Nat.lt_trichotomy j i with hji | hji | hji
    · obtain ⟨fv, e1, e2, e3⟩ := h.els j t hj
      refine ⟨fv, (hcX _ (.inl (by omega))).trans e1, (hcX _ (.inl (by omega))).trans e2, .inl ⟨by omega, ?_⟩⟩
      rcases e3 with ⟨_, e3⟩ | ⟨h9, _⟩
      · exact e3.kept ⟨by omega, fun q hq hl => (hoX q hq.2).trans (hb1.block q hl)⟩
      · omega
    · subst hji
      rw [hs] at hj
      cases hj
      refine ⟨f2, hc0, hc1, .inl ⟨by omega, ?_⟩⟩
      have hlow := h.low
      have hw := h.bel.size
      exact (hL.kept (w' := X2) ⟨by omega, fun q hq hl => hoX q (by omega)⟩).mono (fun q hq => ⟨by omega, by omega⟩)
    · obtain ⟨fv, e1, e2, e3⟩ := h.els j t hj
      refine ⟨fv, (hcX _ (.inr (by omega))).trans e1, (hcX _ (.inr (by omega))).trans e2, .inr ⟨by omega, ?_⟩⟩
      rcases e3 with ⟨h9, _⟩ | ⟨_, e3⟩
      · omega
      · exact e3
  · have hbel := h.bel.trans (hb1.mono h.bel.size)
    have hlow := h.low
    exact ⟨hosX.1.trans hbel.os, hosX.2.1.trans hbel.tape, hosX.2.2.trans hbel.output, by have := hbel.size; omega, fun q hq => (hoX q (by omega)).trans (hbel.block q hq)⟩
end Go.Proofs.YtikmebkfdpbidaaGreatDoor
namespace Go.Proofs.YtikmebkfdpbidaaGreatDoor
open Go.RowKit Go.ChangeShapes Go.WideShapes
set_option linter.unusedVariables false
set_option linter.unusedSimpArgs false

theorem Up.cellsM : Tryz.prog.cellsOf 53 = 2 := by kernel_rfl
theorem Up.cellsMs : Tryz.prog.cellsOf 47 = 1 := by kernel_rfl
/-- Parts whose texts are short. -/
def Sp.txt (l : List Sp) : Prop := ∀ s ∈ l, Tr.txtL s.f
theorem Sp.txt_nil : Sp.txt [] := fun s h => by simp at h
theorem Up.data {H : Type} {enc : TypeId × Value → H} {w : World} {base : Nat} {spare : Nat → Bool} {held : Bool} {N : Nat} (hN0 : N ≤ 1048576) {fuel : Nat} {cs : List Value} {x : DataW H × List MemPlace} (h : DataW.trod enc Tryz.prog w base spare held fuel 28 cs = some x) (hN : Rows.uptoBulk x.1 ≤ N) :
    ∃ v l, cs = [v] ∧ Tr.LIn w (fun _ => True) l v ∧ l.length ≤ N ∧ Tr.txtL l := by
  rcases Up.slice (N := N) Tryz.underlying28 Up.cellsD (by decide) h hN with e | ⟨len, cap, n', hn', hl, hm, hle, hh⟩
  · exact ⟨_, [], e, .inl ⟨rfl, rfl⟩, Nat.zero_le _, Tr.txtL_nil⟩
  · rcases hh with ⟨_, a, e⟩ | ⟨hp, b, off, e, hb, hel⟩
    · exact ⟨_, [], e, .inr (.inl ⟨_, _, rfl, rfl⟩), Nat.zero_le _, Tr.txtL_nil⟩
    · obtain ⟨l, hl1, hl2⟩ := Up.choose (P := fun i t => ∃ C : Array Value, Tr.In w (fun _ => True) t (.agg C) ∧ Tr.Mem w b (off + i * 11) C ∧ Tr.txt t) len (fun i hi => by
        obtain ⟨y, es, hby, hd, hes, hcell⟩ := hel i hi
        obtain ⟨t, C, rfl, hI, hX⟩ := Up.datum hN0 n' es y hd hby
        exact ⟨t, C, hI, fun j hj => by
          obtain ⟨u, q1, q2⟩ := hcell j hj
          exact ⟨u, by rw [← Array.getElem?_toList]; exact q1, q2⟩, hX⟩)
      refine ⟨_, l, e, .inr (.inr ⟨by omega, b, off, cap, by rw [hl1], by omega, by simp only [maxLen] at hm; omega, hb, trivial, Tr.All.of l b off (fun k t hk => ?_)⟩), by omega, Tr.txtL_of (fun k t hk => by obtain ⟨C, _, _, q3⟩ := hl2 k t hk; exact q3)⟩
      obtain ⟨C, q1, q2, _⟩ := hl2 k t hk
      exact ⟨C, q1, by rw [Nat.mul_comm 11 k]; exact q2⟩
set_option maxRecDepth 100000 in
theorem Up.simple {H : Type} {enc : TypeId × Value → H} {w : World} {base : Nat} {spare : Nat → Bool} {held : Bool} {N : Nat} (hN0 : N ≤ 1048576) {fuel : Nat} {cs : List Value} {x : DataW H × List MemPlace} (h : DataW.trod enc Tryz.prog w base spare held fuel 53 cs = some x) (hN : Rows.uptoBulk x.1 ≤ N) :
    ∃ (s : Sp) (fv : Value), cs = [.int .i64 s.t, fv] ∧ Tr.LIn w (fun _ => True) s.f fv ∧ Tr.txtL s.f := by
  obtain ⟨xs, n, hfu, hx, hcl, hlen, hf⟩ := DataW.trod_struct Tryz.underlying53 h
  obtain ⟨y0, y1, rfl⟩ := Up.list2 hlen
  obtain ⟨c0, c1, rfl⟩ := Up.list2 (hcl.trans Up.cellsM)
  have hN2 : Rows.uptoBulkAll [y0.1, y1.1] + 1 ≤ N := by rw [← Up.agg]; rw [hx] at hN; exact hN
  have m1 := Up.mem (l := [y0.1, y1.1]) (d := y1.1) (by simp)
  have h0 : DataW.trod enc Tryz.prog w base spare held n 3 (([c0, c1].drop 0).take (Tryz.prog.cellsOf 3)) = some y0 := hf 0 _ rfl
  have h1 : DataW.trod enc Tryz.prog w base spare held n 28 (([c0, c1].drop 1).take (Tryz.prog.cellsOf 28)) = some y1 := hf 1 _ rfl
  rw [Up.cellsI] at h0
  rw [Up.cellsL] at h1
  obtain ⟨k, e0, _, wk⟩ := DataW.trod_int Tryz.underlying3 h0
  obtain ⟨v1, l, e1, hL, _, hX⟩ := Up.data hN0 h1 (by omega)
  simp only [List.drop_zero, List.take_succ_cons, List.take_zero, List.drop_succ_cons, List.cons.injEq, and_true] at e0 e1
  subst e0 e1
  exact ⟨⟨k, l⟩, _, rfl, hL, hX⟩
theorem Up.simples {H : Type} {enc : TypeId × Value → H} {w : World} {base : Nat} {spare : Nat → Bool} {held : Bool} {N : Nat} (hN0 : N ≤ 1048576) {fuel : Nat} {cs : List Value} {x : DataW H × List MemPlace} (h : DataW.trod enc Tryz.prog w base spare held fuel 47 cs = some x) (hN : Rows.uptoBulk x.1 ≤ N) :
    ∃ v l, cs = [v] ∧ Sp.LIn w (fun _ => True) l v ∧ l.length ≤ N ∧ Sp.txt l := by
  rcases Up.slice (N := N) Tryz.underlying47 Up.cellsM (by decide) h hN with e | ⟨len, cap, n', hn', hl, hm, hle, hh⟩
  · exact ⟨_, [], e, .inl ⟨rfl, rfl⟩, Nat.zero_le _, Sp.txt_nil⟩
  · rcases hh with ⟨_, a, e⟩ | ⟨hp, b, off, e, hb, hel⟩
    · exact ⟨_, [], e, .inr (.inl ⟨_, _, rfl, rfl⟩), Nat.zero_le _, Sp.txt_nil⟩
    · obtain ⟨l, hl1, hl2⟩ := Up.choose (P := fun i (s : Sp) => ∃ fv, w.cell? ⟨b, off + i * 2, none⟩ = some (.int .i64 s.t) ∧ w.cell? ⟨b, off + i * 2 + 1, none⟩ = some fv ∧ Tr.LIn w (fun _ => True) s.f fv ∧ Tr.txtL s.f) len (fun i hi => by
        obtain ⟨y, es, hby, hd, hes, hcell⟩ := hel i hi
        obtain ⟨s, fv, rfl, hL, hX⟩ := Up.simple hN0 hd hby
        obtain ⟨u0, q0, r0⟩ := hcell 0 (by decide)
        obtain ⟨u1, q1, r1⟩ := hcell 1 (by decide)
        simp only [List.getElem?_cons_zero, List.getElem?_cons_succ, Option.some.injEq] at q0 q1
        subst q0 q1
        exact ⟨s, _, r0, r1, hL, hX⟩)
      exact ⟨_, l, e, .inr (.inr ⟨by omega, b, off, cap, by rw [hl1], by omega, by simp only [maxLen] at hm; omega, hb, trivial, fun k s hk => by obtain ⟨fv, q0, q1, q2, _⟩ := hl2 k s hk; exact ⟨fv, q0, q1, q2⟩⟩), by omega, fun s hs => by obtain ⟨k, hk⟩ := List.getElem?_of_mem hs; obtain ⟨_, _, _, _, q3⟩ := hl2 k s hk; exact q3⟩
theorem Up.flat {N : Nat} : ∀ (ls : List (List Sp)), (∀ l ∈ ls, l.length ≤ N) → ls.flatten.length ≤ ls.length * N
  | [], _ => by simp
  | a :: r, h => by
    have h1 := Up.flat r (fun l hl => h l (List.mem_cons_of_mem _ hl))
    have h2 := h a (List.mem_cons_self ..)
    rw [List.flatten_cons, List.length_append, List.length_cons, Nat.succ_mul]
    omega
theorem Up.lists {H : Type} {enc : TypeId × Value → H} {w : World} {base : Nat} {spare : Nat → Bool} {held : Bool} {N : Nat} (hN0 : N ≤ 1048576) {fuel : Nat} {cs : List Value} {x : DataW H × List MemPlace} (h : DataW.trod enc Tryz.prog w base spare held fuel 46 cs = some x) (hN : Rows.uptoBulk x.1 ≤ N) :
    ∃ v ls, cs = [v] ∧ Sp.LLIn w (fun _ => True) ls v ∧ ls.length ≤ N ∧ ls.flatten.length ≤ N * N ∧ (∀ l ∈ ls, Sp.txt l) := by
  rcases Up.slice (N := N) Tryz.underlying46 Up.cellsMs (by decide) h hN with e | ⟨len, cap, n', hn', hl, hm, hle, hh⟩
  · exact ⟨_, [], e, .inl ⟨rfl, rfl⟩, Nat.zero_le _, by simp, fun l hl => by simp at hl⟩
  · rcases hh with ⟨_, a, e⟩ | ⟨hp, b, off, e, hb, hel⟩
    · exact ⟨_, [], e, .inr (.inl ⟨_, _, rfl, rfl⟩), Nat.zero_le _, by simp, fun l hl => by simp at hl⟩
    · obtain ⟨ls, hl1, hl2⟩ := Up.choose (P := fun i (l : List Sp) => (l.length ≤ N ∧ Sp.txt l) ∧ ∃ lv, w.cell? ⟨b, off + i, none⟩ = some lv ∧ Sp.LIn w (fun _ => True) l lv) len (fun i hi => by
        obtain ⟨y, es, hby, hd, hes, hcell⟩ := hel i hi
        obtain ⟨v, l, rfl, hL, hlN, hX⟩ := Up.simples hN0 hd hby
        obtain ⟨u0, q0, r0⟩ := hcell 0 (by decide)
        simp only [List.getElem?_cons_zero, Option.some.injEq] at q0
        subst q0
        rw [Nat.mul_one, Nat.add_zero] at r0
        exact ⟨l, ⟨hlN, hX⟩, _, r0, hL⟩)
      refine ⟨_, ls, e, .inr (.inr ⟨by omega, b, off, cap, by rw [hl1], by omega, by simp only [maxLen] at hm; omega, hb, trivial, fun k l hk => (hl2 k l hk).2⟩), by omega, ?_, fun l hl => by obtain ⟨k, hk⟩ := List.getElem?_of_mem hl; exact (hl2 k l hk).1.2⟩
      have h1 := Up.flat (N := N) ls (fun l hl => by
        obtain ⟨k, hk, rfl⟩ := List.getElem_of_mem hl
        exact (hl2 k _ (List.getElem?_eq_getElem hk)).1.1)
      exact Nat.le_trans h1 (Nat.mul_le_mul_right _ (by omega))
section
variable {H : Type} {enc : TypeId × Value → H} {w : World} {base : Nat} {spare : Nat → Bool} {held : Bool} {N : Nat} {v : Value} {d : DataW H} {p : List MemPlace}
theorem Up.simplesT (hN0 : N ≤ 1048576) (hv : ∃ a len cap, v = .slice a len cap) (h : DataW.Trod enc Tryz.prog w base spare held 47 v d p) (hN : Rows.uptoBulk d ≤ N) : ∃ l, Sp.LIn w (fun _ => True) l v ∧ l.length ≤ N := by
  obtain ⟨a, len, cap, rfl⟩ := hv
  obtain ⟨fuel, hf⟩ := h
  obtain ⟨v', l, e, h1, h2, _⟩ := Up.simples hN0 hf hN
  have e2 : v' = .slice a len cap := by simpa [Value.cells] using e.symm
  subst e2
  exact ⟨l, h1, h2⟩
theorem Up.listsT (hN0 : N ≤ 1048576) (hv : ∃ a len cap, v = .slice a len cap) (h : DataW.Trod enc Tryz.prog w base spare held 46 v d p) (hN : Rows.uptoBulk d ≤ N) : ∃ ls, Sp.LLIn w (fun _ => True) ls v ∧ ls.length ≤ N ∧ ls.flatten.length ≤ N * N ∧ (∀ l ∈ ls, Sp.txt l) := by
  obtain ⟨a, len, cap, rfl⟩ := hv
  obtain ⟨fuel, hf⟩ := h
  obtain ⟨v', ls, e, h1, h2, h3, h4⟩ := Up.lists hN0 hf hN
  have e2 : v' = .slice a len cap := by simpa [Value.cells] using e.symm
  subst e2
  exact ⟨ls, h1, h2, h3, h4⟩
end
set_option maxRecDepth 100000 in
theorem Up.treeT {H : Type} {enc : TypeId × Value → H} {w : World} {base b0 : Nat} {r : Reach} {spare : Nat → Bool} {held : Bool} {N : Nat} {v : Value} {d : DataW H} {p : List MemPlace} (hN0 : N ≤ 1048576) (hv : Value.okWide Tryz.prog w r b0 30 v) (h : DataW.Trod enc Tryz.prog w base spare held 30 v d p) (hN : Rows.uptoBulk d ≤ N) : ∃ t, Tr.In w (fun _ => True) t v := by
  obtain ⟨cs, rfl, hsz⟩ := okWide_struct Tryz.underlying30 hv
  obtain ⟨fuel, hf⟩ := h
  obtain ⟨t, C, e, h1, _⟩ := Up.datum hN0 fuel _ _ hf hN
  have e2 : cs = C := Array.toList_inj.1 (by simpa [Value.cells] using e)
  subst e2
  exact ⟨t, h1⟩
end Go.Proofs.YtikmebkfdpbidaaGreatDoor
namespace Go.Proofs.YtikmebkfdpbidaaGreatDoor
open Go.RowKit
set_option linter.unusedVariables false
set_option linter.unusedSimpArgs false

theorem Cr.nm_sz : ∀ k, k < 20 → (Co.nm k).size ≠ 0 := by
  intro k hk
  rcases (show k = 0 ∨ k = 1 ∨ k = 2 ∨ k = 3 ∨ k = 4 ∨ k = 5 ∨ k = 6 ∨ k = 7 ∨ k = 8 ∨ k = 9 ∨ k = 10 ∨ k = 11 ∨ k = 12 ∨ k = 13 ∨ k = 14 ∨ k = 15 ∨ k = 16 ∨ k = 17 ∨ k = 18 ∨ k = 19 by omega) with rfl | rfl | rfl | rfl | rfl | rfl | rfl | rfl | rfl | rfl | rfl | rfl | rfl | rfl | rfl | rfl | rfl | rfl | rfl | rfl
  all_goals decide
theorem Cr.nm_ne (k : Nat) (hk : k < 20) : (Co.nm k).toList.isEmpty = false := (Tr.str_ne (Cr.nm_sz k hk)).2
set_option maxHeartbeats 1000000 in
set_option maxRecDepth 1000000 in
theorem Cr.Check_any (l : List Sp) (S : Nat → Prop) (v : Value) (w : World) (h : Sp.LIn w S l v) (hT : Tr.Tabs w) (hx : Sp.txt l) :
    Calls Tryz.prog 27 #[v] w fun e w' => e = .returned (.int .i64 (Sp.chk l)) ∧ Below w.heap.size w w' := by
  obtain ⟨ad, cap, rfl, hcap, _⟩ := h.slice
  have HH := Lib.hid h
  have HT := Lib.hid hT
  have HX := Lib.hid hx
  clear h hT hx
  rcases Nat.lt_or_ge 16 l.length with h16 | h16
  · have hgt : (l.length : Int) > 16 := by omega
    have hans : Sp.chk l = 4 := by unfold Sp.chk; rw [if_pos h16]
    rw [hans]
    go_enter Tryz.func27, Tryz.ntmps27
    go_wp2_with fail
    go_ret
    exact ⟨rfl, Below.refl _ _⟩
  have hans : Sp.chk l = Sp.chkL l := by unfold Sp.chk; rw [if_neg (by omega)]
  rw [hans]
  have hgt : ¬ ((l.length : Int) > 16) := by omega
  clear hans
  go_enter Tryz.func27, Tryz.ntmps27
  go_wp2_with fail
  go_loopg [3] l.length (fun g i wr => ∃ k : Nat, k + g = l.length ∧ i = .int .i64 k ∧ Sp.chkL l = Sp.chkL (l.drop k) ∧ Below w.heap.size w wr)
  case atStart => exact ⟨0, by omega, rfl, rfl, Below.refl _ _⟩
  case round =>
    obtain ⟨k, hkg, rfl, hans, hbw⟩ := hrel
    obtain ⟨wo, hwo⟩ : ∃ z, z = wr := ⟨_, rfl⟩
    subst hwo
    have HWR := Lib.hid hbw
    clear hbw
    by_cases hlt : k < l.length
    · obtain ⟨s, hs⟩ : ∃ s, l[k]? = some s := ⟨_, List.getElem?_eq_getElem hlt⟩
      rw [Sp.chkL_at hs] at hans
      have HANS := Lib.hid hans
      obtain ⟨b, off, fv, rfl, hblt, _, c0, c1, hf⟩ := HH.out.at hs
      obtain ⟨fa, fc, rfl, hfc, _⟩ := Tr.Sl.slice hf
      have HFX := Lib.hid hf
      have HTX := Lib.hid (HX.out s (List.mem_of_getElem? hs))
      have HC : Hid (∀ w', Below w.heap.size w w' → w'.cell? ⟨b, off + k * 2, none⟩ = some (.int .i64 s.t) ∧ w'.cell? ⟨b, off + k * 2 + 1, none⟩ = some (.slice fa s.f.length fc)) := Lib.hid (fun w' hb => ⟨(hb.cell (p := ⟨b, off + k * 2, none⟩) hblt).trans c0, (hb.cell (p := ⟨b, off + k * 2 + 1, none⟩) hblt).trans c1⟩)
      obtain ⟨c0, c1⟩ := HC.out _ HWR.out
      have KN := fun w => Co.refName_any s.t w
      clear hf hs hans hfc hblt
      cases hthr : Co.thr s.t
      · have hone := Sp.one_none hthr
        rw [hthr] at KN
        simp only [if_true, if_false, Bool.false_eq_true] at KN
        go_wp2_with fail
        refine (KN _).mono ?_
        rintro x w2 ⟨rfl, hb2⟩
        have HB2 := Lib.hid (HWR.out.trans (hb2.mono HWR.out.size))
        clear hb2 KN c0 c1
        go_wp2_with fail
        go_ret
        exact ⟨by rw [HANS.out, hone, if_neg (by decide)]; rfl, HB2.out⟩
      · have hth2 := of_decide_eq_true hthr
        rw [hthr] at KN
        simp only [if_true] at KN
        obtain ⟨tk, htk, htk2⟩ : ∃ z : Nat, s.t = z ∧ z < 20 := ⟨s.t.toNat, by omega, by omega⟩
        have hnf0 := Co.nf_range tk htk2
        have HEQ : Hid (Co.nf s.t.toNat = Co.nf tk) := Lib.hid (by rw [htk]; rfl)
        rw [htk] at HC c0 KN
        rw [Int.toNat_natCast] at KN
        have hne := Cr.nm_ne tk htk2
        have KF := fun w => Cr.fields_in tk htk2 w
        generalize Co.nf tk = nf at *
        generalize Co.nm tk = nm at *
        go_wp2_with fail
        refine (KN _).mono ?_
        rintro x w2 ⟨rfl, hb2⟩
        have hbw2 := HWR.out.trans (hb2.mono HWR.out.size)
        have HB2 := Lib.hid hbw2
        clear KN c0 c1 hb2
        obtain ⟨c0, c1⟩ := HC.out _ hbw2
        clear hbw2
        by_cases hnf : (s.f.length : Int) = nf
        · subst hnf
          have HNF : Hid (Co.nf s.t.toNat = s.f.length) := Lib.hid HEQ.out
          go_wp2_with fail
          go_quiet (first | (go_at_call 61; refine Calls.quiet_of_same (KF _)))
          have HB3 := Lib.hid (below_drewN HB2.out nq)
          clear c0 c1 KF
          go_wp2_with fail
          go_loopg [4] s.f.length (fun g i wz => ∃ j : Nat, j + g = s.f.length ∧ i = .int .i64 j ∧ (∀ t ∈ s.f.take j, Tr.sound t = true) ∧ Below w.heap.size w wz)
          case atStart => exact ⟨0, by omega, rfl, fun t h => by simp at h, HB3.out⟩
          case round =>
            obtain ⟨j, hj, rfl, hall, hbz⟩ := hrel
            obtain ⟨c0, c1⟩ := HC.out _ hbz
            have HBZ := Lib.hid hbz
            have HALL := Lib.hid hall
            obtain ⟨wy, hwy⟩ : ∃ z, z = wr := ⟨_, rfl⟩
            subst hwy
            clear hbz hall
            by_cases hjm : j < s.f.length
            · obtain ⟨tj, htj⟩ : ∃ t, s.f[j]? = some t := ⟨_, List.getElem?_eq_getElem hjm⟩
              obtain ⟨b2, off2, rfl, _, _, _, hb2lt, hS2, hall2⟩ := Tr.Sl.at HFX.out (by omega)
              obtain ⟨Cj, hIj, hMj⟩ := Tr.All.at _ _ _ hall2 j tj htj
              rw [Nat.mul_comm 11 j] at hMj
              have hMj4 := hMj.kept (Tr.Kept.all HBZ.out (Nat.le_refl _)) hS2 hb2lt
              have KS := Rd.Sound_any tj S (.agg Cj) wy (Tr.In.below hIj HBZ.out (Nat.le_refl _)) (HT.out.since HBZ.out (Nat.le_refl _)) (Tr.txtL_at HTX.out htj)
              obtain ⟨he, le, ab3, ab4, ab6, ab7, ab9, ab10, nb3, nb4, nb6, nb7, nb9, nb10, cb3, cb4, cb6, cb7, cb9, cb10, eCb, ebt, hbH, hbL⟩ := Tr.In.form2 hIj
              subst eCb
              unfold Tr.cells at KS hMj4
              obtain ⟨e0, e1, e2, e3, e4, e5, e6, e7, e8, e9, e10⟩ := Tr.Mem.cells hMj4
              have HTJ := Lib.hid htj
              clear hIj hMj hMj4 hall2 htj ebt hbH hbL hb2lt hS2
              cases hsd : Tr.sound tj
              · rw [hsd] at KS
                go_wp2_with fail
                refine KS.mono ?_
                rintro x w5 ⟨rfl, hb5⟩
                have HB5 := Lib.hid (HBZ.out.trans (hb5.mono HBZ.out.size))
                clear hb5 KS e0 e1 e2 e3 e4 e5 e6 e7 e8 e9 e10
                go_wp2_with fail
                go_ret
                refine ⟨?_, HB5.out⟩
                have hall3 : s.f.all Tr.sound = false := by
                  cases hx : s.f.all Tr.sound
                  · rfl
                  · have := List.all_eq_true.1 hx tj (List.mem_of_getElem? HTJ.out)
                    rw [hsd] at this
                    exact absurd this (by decide)
                rw [HANS.out, Sp.one_form hthr HNF.out hall3, if_neg (by decide)]
                rfl
              · rw [hsd] at KS
                go_wp2_with fail
                refine KS.mono ?_
                rintro x w5 ⟨rfl, hb5⟩
                have HB5 := Lib.hid (HBZ.out.trans (hb5.mono HBZ.out.size))
                clear hb5 KS e0 e1 e2 e3 e4 e5 e6 e7 e8 e9 e10
                go_wp2_with fail
                go_roundg (gk - 1)
                case measure => omega
                case rel =>
                  refine ⟨j + 1, by omega, by first | rfl | go_num | (simp; try omega), fun t ht => ?_, HB5.out⟩
                  rw [List.take_add_one, HTJ.out] at ht
                  rcases List.mem_append.1 ht with ht | ht
                  · exact HALL.out t ht
                  · simp at ht
                    subst ht
                    exact hsd
            · have hj2 : j = s.f.length := by omega
              have hone : Sp.one s = 0 := Sp.one_sound hthr HNF.out (List.all_eq_true.2 (fun t ht => HALL.out t (by rw [hj2, List.take_length]; exact ht)))
              have HONE := Lib.hid hone
              clear hone
              go_wp2_with fail
              go_roundg (l.length - (k + 1))
              case measure => omega
              case rel => exact ⟨k + 1, by omega, by first | rfl | go_num | (simp; try omega), by rw [HANS.out, if_pos HONE.out], HBZ.out⟩
        · have hone : Sp.one s = 1 := Sp.one_arg hthr (by rw [HEQ.out]; exact fun e => hnf e.symm)
          have hnf2 : ((s.f.length : Int) != nf) = true := by simpa using hnf
          go_wp2_with fail
          go_quiet (first | (go_at_call 61; refine Calls.quiet_of_same (KF _)))
          have HB3 := Lib.hid (below_drewN HB2.out nq)
          go_wp2_with fail
          go_ret
          exact ⟨by rw [HANS.out, hone, if_neg (by decide)]; rfl, HB3.out⟩
    · have hk : k = l.length := by omega
      subst hk
      go_wp2_with fail
      go_ret
      exact ⟨by rw [hans, List.drop_length]; rfl, HWR.out⟩
end Go.Proofs.YtikmebkfdpbidaaGreatDoor
namespace Go.Proofs.YtikmebkfdpbidaaGreatDoor
open Go.RowKit
set_option linter.unusedVariables false
set_option linter.unusedSimpArgs false

/-- The first part of a type. -/
def Sp.fst (l : List Sp) (of : Int) : Option Sp := l.find? (fun s => Co.under s.t of)
theorem Sp.fst_at {l : List Sp} {of : Int} {k : Nat} {s : Sp} (hk : l[k]? = some s) : Sp.fst (l.drop k) of = if Co.under s.t of = true then some s else Sp.fst (l.drop (k + 1)) of := by
  obtain ⟨hlt, he⟩ := List.getElem?_eq_some_iff.1 hk
  unfold Sp.fst
  rw [List.drop_eq_getElem_cons hlt, he, List.find?_cons]
  cases Co.under s.t of <;> rfl
theorem Sp.fst_mem {l : List Sp} {of : Int} {s : Sp} (h : Sp.fst l of = some s) : s ∈ l ∧ Co.under s.t of = true := ⟨List.mem_of_find?_eq_some h, by have := List.find?_some h; simpa using this⟩
/-- What first answers. -/
def Sp.FirstV (w' : World) (S : Nat → Prop) (v : Value) : Option Sp → Prop
  | some s => ∃ fv, v = .tuple #[.agg #[.int .i64 s.t, fv], .bool true] ∧ Tr.LIn w' S s.f fv
  | none => v = .tuple #[.agg #[.int .i64 0, .slice none 0 0], .bool false]
set_option maxHeartbeats 8000000 in
set_option maxRecDepth 1000000 in
theorem Sp.first_any (l : List Sp) (of : Int) (S : Nat → Prop) (v : Value) (w : World) (h : Sp.LIn w S l v) (hthr : ∀ s ∈ l, Co.thr s.t = true) (hlen : l.length ≤ 16) :
    Calls Tryz.prog 56 #[v, .int .i64 of] w fun e w' => ∃ r, e = .returned r ∧ Sp.FirstV w' S r (Sp.fst l of) ∧ Below w.heap.size w w' := by
  obtain ⟨ad, cap, rfl, hcap, _⟩ := h.slice
  have HH := Lib.hid h
  have HTH := Lib.hid hthr
  clear h hthr
  have hq0 : ∀ o, (w.alloc o).heap[w.heap.size]? = some o := fun o => heap_alloc_new w o
  have hb0 : ∀ o, Below w.heap.size w (w.alloc o) := fun o => (Below.refl _ _).alloc (Nat.le_refl _) _
  have HB0 := Lib.hid hb0
  have HQ0 := Lib.hid hq0
  clear hb0 hq0
  go_enter Tryz.func56, Tryz.ntmps56
  go_wp2_with fail
  go_loopg [10] l.length (fun g i wr => ∃ k : Nat, k + g = l.length ∧ i = .int .i64 k ∧ Sp.fst l of = Sp.fst (l.drop k) of ∧ Below (w.heap.size + 1) (w.alloc (.cells #[.int .i64 0, .slice none 0 0] 53)) wr)
  case atStart => exact ⟨0, by omega, rfl, rfl, Below.refl _ _⟩
  case round =>
    obtain ⟨k, hkg, rfl, hans, hbw⟩ := hrel
    obtain ⟨wo, hwo⟩ : ∃ z, z = wr := ⟨_, rfl⟩
    subst hwo
    have q4 := (hbw.block w.heap.size (by omega)).trans (HQ0.out _)
    have HWR := Lib.hid ((HB0.out _).trans (hbw.mono (by omega)))
    have HBW := Lib.hid hbw
    have hzo : w.heap.size < wo.heap.size := (Array.getElem?_eq_some_iff.1 q4).1
    have Q4 := Lib.hid q4
    clear hbw q4
    by_cases hlt : k < l.length
    · obtain ⟨s, hs⟩ : ∃ s, l[k]? = some s := ⟨_, List.getElem?_eq_getElem hlt⟩
      rw [Sp.fst_at hs] at hans
      obtain ⟨b, off, fv, rfl, hblt, _, c0, c1, hf⟩ := HH.out.at hs
      obtain ⟨fa, fc, rfl, hfc, _⟩ := Tr.Sl.slice hf
      have HFX := Lib.hid hf
      replace c0 := (HWR.out.cell (p := ⟨b, off + k * 2, none⟩) hblt).trans c0
      replace c1 := (HWR.out.cell (p := ⟨b, off + k * 2 + 1, none⟩) hblt).trans c1
      have hth := HTH.out s (List.mem_of_getElem? hs)
      have hth2 := of_decide_eq_true hth
      have KU := fun w => Co.under_any s.t.toNat (by omega) of w
      rw [show ((s.t.toNat : Nat) : Int) = s.t by omega] at KU
      have HANS := Lib.hid hans
      have hq1 : ∀ o, (wo.alloc o).heap[wo.heap.size]? = some o := fun o => heap_alloc_new wo o
      have hb1 : ∀ o, Below wo.heap.size wo (wo.alloc o) := fun o => (Below.refl _ _).alloc (Nat.le_refl _) _
      have hsz1 : ∀ o, (wo.alloc o).heap.size = wo.heap.size + 1 := by intro o; simp
      clear hf hs hans hfc hth hth2 hblt
      cases hun : Co.under s.t of
      · rw [hun] at KU
        go_wp2_with fail
        refine (KU _).mono ?_
        rintro x w2 ⟨rfl, hb2⟩
        have HB2 := Lib.hid (HBW.out.trans (((hb1 _).trans (hb2.mono (by rw [hsz1]; omega))).mono (by omega)))
        clear hb2 hq1 hb1 hsz1 KU c0 c1
        go_wp2_with fail
        go_roundg (gk - 1)
        case measure => omega
        case rel => exact ⟨k + 1, by omega, by first | rfl | go_num | (simp; try omega), by rw [HANS.out, hun]; rfl, HB2.out⟩
      · rw [hun] at KU
        have hfst : Sp.fst l of = some s := by rw [HANS.out, hun]; rfl
        go_wp2_with fail
        refine (KU _).mono ?_
        rintro x w2 ⟨rfl, hb2⟩
        have HB2 := Lib.hid ((hb1 _).trans (hb2.mono (by rw [hsz1]; omega)))
        have q5 := (hb2.block wo.heap.size (by rw [hsz1]; omega)).trans (hq1 _)
        have d0 := Co.cell_of q5 0
        have d1 := Co.cell_of q5 1
        have q6 := (HB2.out.block w.heap.size hzo).trans Q4.out
        obtain ⟨x0, x1, X1, X2, cur', ⟨f0, z0, e0⟩, ⟨f1, z1, e1⟩, HX⟩ := Tr.Blk.put2 ⟨_, q6⟩ 0 (by simp) (.int .i64 s.t) (.slice fa s.f.length fc)
        obtain ⟨hBX, hsX, hzX, hoX, hc0, hc1, _, hosX⟩ := HX.out
        simp only [Nat.zero_add] at f1 z1 e1 hc1
        have hbel2 := HWR.out.trans (HB2.out.mono (Nat.le_of_lt hzo))
        have HBEL : Hid (Below w.heap.size w X2) := Lib.hid ⟨hosX.1.trans hbel2.os, hosX.2.1.trans hbel2.tape, hosX.2.2.trans hbel2.output, by have := hbel2.size; omega, fun q hq => (hoX q (by omega)).trans (hbel2.block q hq)⟩
        have r0 := (hBX.cell 0).trans hc0
        have r1 := (hBX.cell 1).trans hc1
        clear hb2 hq1 hb1 hsz1 KU c0 c1 q5 q6 hBX hsX hzX hoX hc0 hc1 hosX HX hbel2
        go_wp2_with fail
        refine bodyPost_ret (v := .tuple #[.agg #[.int .i64 s.t, .slice fa s.f.length fc], .bool true]) (by simp [results, Tryz.results56, go_sem, r0, r1]) rfl ⟨_, rfl, by rw [hfst]; exact ⟨_, rfl, HFX.out.below HBEL.out (Nat.le_refl _)⟩, HBEL.out⟩
    · have hk : k = l.length := by omega
      subst hk
      have hnone : Sp.fst l of = none := by rw [hans, List.drop_length]; rfl
      obtain ⟨x0, x1, X1, X2, cur', ⟨f0, z0, e0⟩, ⟨f1, z1, e1⟩, HX⟩ := Tr.Blk.put2 ⟨_, Q4.out⟩ 0 (by simp) (.int .i64 0) (.slice none 0 0)
      obtain ⟨hBX, hsX, hzX, hoX, hc0, hc1, _, hosX⟩ := HX.out
      simp only [Nat.zero_add] at f1 z1 e1 hc1
      have HBEL : Hid (Below w.heap.size w X2) := Lib.hid ⟨hosX.1.trans HWR.out.os, hosX.2.1.trans HWR.out.tape, hosX.2.2.trans HWR.out.output, by have := HWR.out.size; omega, fun q hq => (hoX q (by omega)).trans (HWR.out.block q hq)⟩
      have r0 := (hBX.cell 0).trans hc0
      have r1 := (hBX.cell 1).trans hc1
      clear hBX hsX hzX hoX hc0 hc1 hosX HX hans
      go_wp2_with fail
      refine bodyPost_ret (v := .tuple #[.agg #[.int .i64 0, .slice none 0 0], .bool false]) (by simp [results, Tryz.results56, go_sem, r0, r1]) rfl ⟨_, rfl, by rw [hnone]; rfl, HBEL.out⟩
end Go.Proofs.YtikmebkfdpbidaaGreatDoor
namespace Go.Proofs.YtikmebkfdpbidaaGreatDoor
open Go.RowKit
set_option linter.unusedVariables false
set_option linter.unusedSimpArgs false

/-- The place of the first part under a type; -1: there is none. -/
def Cr.place : List Sp → Int → Int → Int
  | [], _, _ => -1
  | s :: r, of, k => if Co.under s.t of = true then k else Cr.place r of (k + 1)
theorem Cr.place_at {l : List Sp} {k : Nat} {s : Sp} (hk : l[k]? = some s) (of i : Int) : Cr.place (l.drop k) of i = if Co.under s.t of = true then i else Cr.place (l.drop (k + 1)) of (i + 1) := by
  obtain ⟨hlt, he⟩ := List.getElem?_eq_some_iff.1 hk
  rw [List.drop_eq_getElem_cons hlt, he]; rfl
/-- Where it is, and what is there. -/
theorem Cr.place_fst (of : Int) : ∀ (l : List Sp) (k : Nat), (Sp.fst l of = none ∧ Cr.place l of k = -1) ∨ ∃ j s, l[j]? = some s ∧ Sp.fst l of = some s ∧ Cr.place l of k = ((k + j : Nat) : Int)
  | [], k => .inl ⟨rfl, rfl⟩
  | a :: r, k => by
    by_cases h : Co.under a.t of = true
    · refine .inr ⟨0, a, rfl, ?_, ?_⟩
      · unfold Sp.fst; rw [List.find?_cons_of_pos (by simpa using h)]
      · unfold Cr.place; rw [if_pos h]; simp
    · have e1 : Sp.fst (a :: r) of = Sp.fst r of := by unfold Sp.fst; rw [List.find?_cons_of_neg (by simpa using h)]
      have e2 : Cr.place (a :: r) of k = Cr.place r of ((k + 1 : Nat) : Int) := by
        show (if Co.under a.t of = true then (k : Int) else Cr.place r of ((k : Int) + 1)) = _
        rw [if_neg h]; rfl
      rw [e1, e2]
      rcases Cr.place_fst of r (k + 1) with ⟨h1, h2⟩ | ⟨j, s, h1, h2, h3⟩
      · exact .inl ⟨h1, h2⟩
      · exact .inr ⟨j + 1, s, by simpa using h1, h2, by rw [h3]; congr 1; omega⟩
set_option maxHeartbeats 1000000 in
set_option maxRecDepth 1000000 in
theorem Cr.first_any (l : List Sp) (of : Int) (S : Nat → Prop) (v : Value) (w : World) (h : Sp.LIn w S l v) (hthr : ∀ s ∈ l, Co.thr s.t = true) (hof : 0 ≤ of) (hlen : l.length ≤ 16) :
    Calls Tryz.prog 58 #[v, .int .i64 of] w fun e w' => e = .returned (.int .i64 (Cr.place l of 0)) ∧ Below w.heap.size w w' := by
  obtain ⟨ad, cap, rfl, hcap, _⟩ := h.slice
  have HH := Lib.hid h
  have HTH := Lib.hid hthr
  obtain ⟨R, hR⟩ : ∃ z, z = Cr.place l of 0 := ⟨_, rfl⟩
  rw [← hR]
  have HR := Lib.hid hR
  clear h hthr hR
  go_enter Tryz.func58, Tryz.ntmps58
  go_wp2_with fail
  go_loopg [5] l.length (fun g i wr => ∃ k : Nat, k + g = l.length ∧ i = .int .i64 k ∧ R = Cr.place (l.drop k) of k ∧ Below w.heap.size w wr)
  case atStart => exact ⟨0, by omega, rfl, HR.out, Below.refl _ _⟩
  case round =>
    obtain ⟨k, hkg, rfl, hans, hbw⟩ := hrel
    obtain ⟨wo, hwo⟩ : ∃ z, z = wr := ⟨_, rfl⟩
    subst hwo
    have HWR := Lib.hid hbw
    clear hbw
    by_cases hlt : k < l.length
    · obtain ⟨s, hs⟩ : ∃ s, l[k]? = some s := ⟨_, List.getElem?_eq_getElem hlt⟩
      rw [Cr.place_at hs] at hans
      obtain ⟨b, off, fv, rfl, hblt, _, c0, c1, hf⟩ := HH.out.at hs
      replace c0 := (HWR.out.cell (p := ⟨b, off + k * 2, none⟩) hblt).trans c0
      have hth := HTH.out s (List.mem_of_getElem? hs)
      have hth2 := of_decide_eq_true hth
      have KU := fun w => Co.refUnder_in s.t.toNat (by omega) of hof w
      rw [show ((s.t.toNat : Nat) : Int) = s.t by omega] at KU
      have HANS := Lib.hid hans
      clear hf hs hans hth hth2 hblt c1
      cases hun : Co.under s.t of
      · rw [hun] at KU
        go_wp2_with fail
        refine (KU _).mono ?_
        rintro x w2 ⟨rfl, hb2⟩
        have HB2 := Lib.hid (HWR.out.trans (hb2.mono HWR.out.size))
        clear hb2 KU c0
        go_wp2_with fail
        go_roundg (gk - 1)
        case measure => omega
        case rel => exact ⟨k + 1, by omega, by first | rfl | go_num | (simp; try omega), by rw [HANS.out, hun]; rfl, HB2.out⟩
      · rw [hun] at KU
        have hR : R = k := by rw [HANS.out, hun]; rfl
        subst hR
        go_wp2_with fail
        refine (KU _).mono ?_
        rintro x w2 ⟨rfl, hb2⟩
        have HB2 := Lib.hid (HWR.out.trans (hb2.mono HWR.out.size))
        clear hb2 KU c0
        go_wp2_with fail
        go_ret
        exact ⟨rfl, HB2.out⟩
    · have hk : k = l.length := by omega
      subst hk
      have hnone : R = -1 := by rw [hans, List.drop_length]; rfl
      subst hnone
      go_wp2_with fail
      go_ret
      exact ⟨rfl, HWR.out⟩
end Go.Proofs.YtikmebkfdpbidaaGreatDoor
namespace Go.Proofs.YtikmebkfdpbidaaGreatDoor
open Go.RowKit
set_option linter.unusedVariables false
set_option linter.unusedSimpArgs false

theorem Sp.JoinSt.below {w : World} {S : Nat → Prop} {all : List Sp} {wr w' : World} {vo : Value} {xs : List Value} (h : Sp.JoinSt w S all wr vo xs) (hb : Below wr.heap.size wr w') : Sp.JoinSt w S all w' vo xs :=
  ⟨Ls.own_below h.own hb (Nat.le_refl _), h.els, h.bel.trans (hb.mono h.bel.size)⟩
theorem Sp.chk_sound {l : List Sp} (h : Sp.chk l = 0) {s : Sp} (hs : s ∈ l) : Co.thr s.t = true ∧ s.f.length ≤ 4 ∧ ∀ t ∈ s.f, Tr.sound t = true := by
  obtain ⟨h1, h2, h3⟩ := Sp.one_zero (Sp.chkL_zero.1 (Sp.chk_zero h).2 s hs)
  refine ⟨h1, ?_, h3⟩
  have h4 := of_decide_eq_true h1
  have := Co.nf_range s.t.toNat (by omega)
  omega
/-- What Join leaves. -/
def Sp.joined (l : List Sp) : List Sp := if Sp.chk l = 0 then l else []
set_option maxHeartbeats 2000000 in
set_option maxRecDepth 1000000 in
theorem Sp.Join_any (ls : List (List Sp)) (S : Nat → Prop) (v : Value) (w : World) (h : Sp.LLIn w S ls v) (hT : Tr.Tabs w) (hlen : ls.flatten.length ≤ 4000000000000) :
    Calls Tryz.prog 20 #[v] w fun e w' => ∃ vo, e = .returned (.tuple #[vo, .int .i64 (Sp.chk ls.flatten)]) ∧ Sp.LIn w' (fun q => w.heap.size ≤ q) (Sp.joined ls.flatten) vo ∧ Below w.heap.size w w' := by
  obtain ⟨ad, cap, rfl, hcap, _⟩ := Tr.Sl.slice h
  have HH := Lib.hid h
  have HT := Lib.hid hT
  obtain ⟨i0, hi, hz0, hz1, hz2⟩ := info_parts Sp.info
  clear h hT
  go_enter Tryz.func20, Tryz.ntmps20
  go_wp2_with fail
  go_loopg [4, 12] ls.length (fun g vo i wr => ∃ (k : Nat) (xs : List Value), k + g = ls.length ∧ i = .int .i64 k ∧ Sp.JoinSt w S (ls.take k).flatten wr vo xs)
  case atStart => exact ⟨0, [], by omega, rfl, World.ownsRow_nil _ _ _ _, fun j s h => by simp at h, Below.refl _ _⟩
  case round =>
    obtain ⟨k, xs, hkg, rfl, hst⟩ := hrel
    obtain ⟨wo, hwo⟩ : ∃ z, z = wr := ⟨_, rfl⟩
    subst hwo
    obtain ⟨A, hA⟩ : ∃ z, z = (ls.take k).flatten := ⟨_, rfl⟩
    rw [← hA] at hst
    obtain ⟨oa, oc, rfl⟩ := Ls.own_slice hst.own
    have HST := Lib.hid hst
    have HAF := Lib.hid hA
    clear hst hA
    by_cases hlt : k < ls.length
    · obtain ⟨l, hl⟩ : ∃ l, ls[k]? = some l := ⟨_, List.getElem?_eq_getElem hlt⟩
      obtain ⟨b, off, rfl, _, _, _, hblt, _, hall⟩ := Tr.Sl.at HH.out (by omega)
      obtain ⟨lv, c0, hL⟩ := hall k l hl
      replace c0 := (HST.out.bel.cell (p := ⟨b, off + k, none⟩) hblt).trans c0
      obtain ⟨la, lc, rfl, _, _⟩ := hL.slice
      have hsplit : (ls.take (k + 1)).flatten = A ++ l := by rw [HAF.out, List.take_add_one, hl]; simp
      have hbound : A.length + l.length ≤ 4000000000000 := by
        have e : ls.flatten = (ls.take (k + 1)).flatten ++ (ls.drop (k + 1)).flatten := by rw [← List.flatten_append, List.take_append_drop]
        have := congrArg List.length e
        rw [hsplit, List.length_append, List.length_append] at this
        omega
      obtain ⟨news, hsrc, hone, hn⟩ := hL.news HST.out.bel
      have HN := Lib.hid hn
      have HSP := Lib.hid hsplit
      clear hn hsplit hL hall hl hblt
      go_wp2_with (at_builtin; refine Ls.wpList_append _ rfl _ _ 47 rfl w.heap.size 53 i0 (.agg #[.int .i64 0, .slice none 0 0]) 2 32 Tryz.underlying47 hi hz0 hz1 hz2 rfl (by decide) _ _ xs rfl HST.out.own _ _ news rfl hsrc hone ?c1 ?c2 ?c3 ?_)
      case c1 => simp only [maxLen]; omega
      case c2 => omega
      case c3 => exact HST.out.bel.size
      intro v' w' hown hg _
      have hnext := HST.out.next HN.out hown hg
      rw [← HSP.out] at hnext
      have HNX := Lib.hid hnext
      obtain ⟨na, nc, rfl⟩ := Ls.own_slice hown
      clear hnext hown hg hsrc hone c0
      go_wp2_with fail
      go_roundg (gk - 1)
      case measure => omega
      case rel => exact ⟨k + 1, _, by omega, by first | rfl | go_num | (simp; try omega), HNX.out⟩
    · have hk : k = ls.length := by omega
      subst hk
      obtain ⟨all, hall⟩ : ∃ z, z = A := ⟨_, rfl⟩
      subst hall
      have hall : Hid (all = ls.flatten) := Lib.hid (by rw [HAF.out, List.take_length])
      have hchk := Sp.Check_any all _ _ wo HST.out.lin (HT.out.since HST.out.bel (Nat.le_refl _))
      go_wp2_with fail
      refine hchk.mono ?_
      rintro x w2 ⟨rfl, hb2⟩
      have hst2 := HST.out.below hb2
      have HST2 := Lib.hid hst2
      clear hchk hb2 hst2
      by_cases hc : Sp.chk all = 0
      · have HC := Lib.hid hc
        have hform : 0 < all.length → ∃ g cur, oa = some ⟨g, 0, none⟩ ∧ all.length ≤ oc ∧ oc ≤ maxLen ∧ Sp.JoinSt2 w S all w2 0 g cur := fun h0 => by
          obtain ⟨g, cap, cur, hv, h1, h2, h3⟩ := HST2.out.open h0
          simp only [Value.slice.injEq] at hv
          obtain ⟨rfl, _, rfl⟩ := hv
          exact ⟨g, cur, rfl, h1, h2, h3⟩
        have HF := Lib.hid hform
        have hl16 : all.length ≤ 16 := (Sp.chk_zero hc).1
        rw [hc]
        clear hform
        go_wp2_with fail
        go_loopg [27] all.length (fun g i wr => ∃ k : Nat, k + g = all.length ∧ i = .int .i64 k ∧ Below w.heap.size w wr ∧ (0 < all.length → ∃ g cur, oa = some ⟨g, 0, none⟩ ∧ all.length ≤ oc ∧ oc ≤ maxLen ∧ Sp.JoinSt2 w S all wr k g cur))
        case atStart => exact ⟨0, by omega, rfl, HST2.out.bel, HF.out⟩
        case round =>
          obtain ⟨k, hkg, rfl, hbel, hst⟩ := hrel
          obtain ⟨wp, hwp⟩ : ∃ z, z = wr := ⟨_, rfl⟩
          subst hwp
          have HB := Lib.hid hbel
          by_cases hlt : k < all.length
          · obtain ⟨g, cur, rfl, hcp, hcm, hs2⟩ := hst (by omega)
            obtain ⟨s, hs⟩ : ∃ s, all[k]? = some s := ⟨_, List.getElem?_eq_getElem hlt⟩
            obtain ⟨fv, e1, e2, e3⟩ := hs2.els k s hs
            have hF : Tr.LIn w S s.f fv := by
              rcases e3 with ⟨h9, _⟩ | ⟨_, h9⟩
              · omega
              · exact h9
            have c0 := (hs2.blk.cell (k * 2)).trans e1
            have c1 := (hs2.blk.cell (k * 2 + 1)).trans e2
            obtain ⟨fa, fc, rfl, _, _⟩ := Tr.Sl.slice hF
            obtain ⟨_, hfl, hsd⟩ := Sp.chk_sound HC.out (List.mem_of_getElem? hs)
            have KO := fun o => Sp.own_any s S (.slice fa s.f.length fc) (wp.alloc o) ((hF.below hbel (Nat.le_refl _)).below ((Below.refl _ _).alloc (Nat.le_refl _) o) (Nat.le_refl _)) hsd (by omega)
            have HS2 := Lib.hid hs2
            have HSS := Lib.hid hs
            have HCP := Lib.hid (And.intro hcp hcm)
            clear hs2 hs e1 e2 e3 hF hsd hst hbel hcp hcm
            go_wp2_with fail
            refine (KO _).mono ?_
            rintro x w5 ⟨f5, rfl, hL5, hb5⟩
            obtain ⟨fa5, fc5, rfl, _, _⟩ := Tr.Sl.slice hL5
            obtain ⟨x0, x1, X1, X2, ⟨g0, z0, s0⟩, ⟨g1, z1, s1⟩, HX⟩ := HS2.out.next HSS.out hb5 hL5
            clear c0 c1 KO hL5 hb5
            go_wp2_with fail
            go_roundg (gk - 1)
            case measure => omega
            case rel =>
              obtain ⟨cur', hX⟩ := HX.out
              exact ⟨k + 1, by omega, by first | rfl | go_num | (simp; try omega), hX.bel, fun _ => ⟨g, cur', rfl, HCP.out.1, HCP.out.2, hX⟩⟩
          · have hk : k = all.length := by omega
            subst hk
            have hres : Sp.LIn wp (fun q => w.heap.size ≤ q) all (.slice oa all.length oc) := by
              rcases Nat.eq_zero_or_pos all.length with h0 | h0
              · rcases HST2.out.own.2 with ⟨e, _⟩ | ⟨g, cap, cur, e, _⟩
                · rw [e]; exact .inl ⟨rfl, h0⟩
                · rw [e]; exact .inr (.inl ⟨_, _, by rw [h0], h0⟩)
              · obtain ⟨g, cur, rfl, h1, h2, h3⟩ := hst h0
                exact h3.lin h0 h1 h2
            have HR := Lib.hid hres
            clear hres hst hbel
            go_wp2_with fail
            go_ret2
            exact ⟨.slice oa all.length oc, by rw [← hall.out, HC.out]; rfl, by rw [← hall.out]; unfold Sp.joined; rw [if_pos HC.out]; exact HR.out, HB.out⟩
      · have hb := HST2.out.bel
        have HB := Lib.hid hb
        have hne : (Sp.chk all == 0) = false := by simpa using hc
        have hne2 : (Sp.chk all != 0) = true := by simpa using hc
        clear hb
        go_wp2_with fail
        go_ret2
        exact ⟨.slice none 0 0, by rw [← hall.out]; rfl, by rw [← hall.out]; unfold Sp.joined; rw [if_neg hc]; exact Sp.LIn.nil _ _, HB.out⟩
end Go.Proofs.YtikmebkfdpbidaaGreatDoor
namespace Go.Proofs.YtikmebkfdpbidaaGreatDoor
open Go.RowKit
set_option linter.unusedVariables false
set_option linter.unusedSimpArgs false

/-- What Find answers. -/
def Sp.find (l : List Sp) (of : Int) : Sp × Int :=
  if Sp.chk l ≠ 0 then (⟨0, []⟩, Sp.chk l) else if Co.thr of = false then (⟨0, []⟩, 1) else match Sp.fst l of with
    | none => (⟨0, []⟩, 7)
    | some s => (s, 0)
set_option maxHeartbeats 2000000 in
set_option maxRecDepth 1000000 in
theorem Sp.Find_any (l : List Sp) (of : Int) (S : Nat → Prop) (v : Value) (w : World) (h : Sp.LIn w S l v) (hT : Tr.Tabs w) :
    Calls Tryz.prog 24 #[v, .int .i64 of] w fun e w' => ∃ fv, e = .returned (.tuple #[.agg #[.int .i64 (Sp.find l of).1.t, fv], .int .i64 (Sp.find l of).2]) ∧ Tr.LIn w' (fun q => w.heap.size ≤ q) (Sp.find l of).1.f fv ∧ Below w.heap.size w w' := by
  obtain ⟨ad, cap, rfl, hcap, _⟩ := h.slice
  have HH := Lib.hid h
  have hb1 : ∀ o, Below w.heap.size w (w.alloc o) := fun o => (Below.refl _ _).alloc (Nat.le_refl _) o
  have hq1 : ∀ o, (w.alloc o).heap[w.heap.size]? = some o := fun o => heap_alloc_new w o
  have hz1 : ∀ o, (w.alloc o).heap.size = w.heap.size + 1 := by intro o; simp
  have hchk := fun o => Sp.Check_any l S _ (w.alloc o) (h.below (hb1 o) (Nat.le_refl _)) (hT.since (hb1 o) (Nat.le_refl _))
  clear h hT
  go_enter Tryz.func24, Tryz.ntmps24
  go_wp2_with fail
  refine (hchk _).mono ?_
  rintro x w2 ⟨rfl, hb2⟩
  have q2 := (hb2.block w.heap.size (by rw [hz1]; omega)).trans (hq1 _)
  have HB2 := Lib.hid ((hb1 _).trans (hb2.mono (by rw [hz1]; omega)))
  have Q2 := Lib.hid q2
  have hlt2 : w.heap.size < w2.heap.size := (Array.getElem?_eq_some_iff.1 q2).1
  clear hb1 hq1 hz1 hchk hb2 q2
  by_cases hc : Sp.chk l = 0
  · rw [hc]
    have KF := fun w => Co.find_any of w
    have hb3 : ∀ o w', Below (w2.alloc o).heap.size (w2.alloc o) w' → Below w2.heap.size w2 w' := fun o w' hb => ((Below.refl _ _).alloc (Nat.le_refl _) o).trans (hb.mono (by simp))
    cases hthr : Co.thr of
    · have hans : Sp.find l of = (⟨0, []⟩, 1) := by unfold Sp.find; rw [if_neg (by rw [hc]; decide), if_pos hthr]
      have HANS := Lib.hid hans
      clear hans
      rw [hthr] at KF
      simp only [if_true, if_false, Bool.false_eq_true] at KF
      go_wp2_with fail
      refine (KF _).mono ?_
      rintro x w3 ⟨rfl, hb⟩
      have hbA : Below w.heap.size w (w3.alloc (.cells #[.string ⟨#[]⟩, .int .i64 0, .int .i64 0] 109)) := (HB2.out.trans (hb.mono HB2.out.size)).alloc (by have := hb.size; have := HB2.out.size; omega) _
      have hqA : (w3.alloc (.cells #[.string ⟨#[]⟩, .int .i64 0, .int .i64 0] 109)).heap[w.heap.size]? = some (.cells #[.int .i64 0, .slice none 0 0] 53 (0, 0)) := (Lib.alloc_old _ _ _ (by have := hb.size; omega)).trans ((hb.block _ hlt2).trans Q2.out)
      obtain ⟨x0, x1, X1, X2, ⟨g0, z0, s0⟩, ⟨g1, z1, s1⟩, r0, r1, HX⟩ := Sp.ret2 hbA ⟨_, hqA⟩ rfl (Nat.le_refl _) (.int .i64 0) (.slice none 0 0)
      clear hb KF hbA hqA hb3
      go_wp2_with fail
      refine bodyPost_ret (v := .tuple #[.agg #[.int .i64 0, .slice none 0 0], .int .i64 1]) (by simp [results, Tryz.results24, go_sem, r0, r1]) rfl ⟨_, by rw [HANS.out], by rw [HANS.out]; exact Tr.LIn.nil _ _, HX.out.1⟩
    · rw [hthr] at KF
      simp only [if_true] at KF
      obtain ⟨hl16, hall⟩ := Sp.chk_zero hc
      have HTH : Hid (∀ s ∈ l, Co.thr s.t = true) := Lib.hid (fun s hs => (Sp.chk_sound hc hs).1)
      have HSD : Hid (∀ s ∈ l, s.f.length ≤ 4 ∧ ∀ t ∈ s.f, Tr.sound t = true) := Lib.hid (fun s hs => (Sp.chk_sound hc hs).2)
      have HC := Lib.hid hc
      have HTR := Lib.hid hthr
      clear hall hc hthr
      go_wp2_with fail
      refine (KF _).mono ?_
      rintro x w3 ⟨rfl, hb⟩
      obtain ⟨O, hO⟩ : ∃ z, z = Obj.cells #[.string (Co.nm of.toNat), .int .i64 (Co.par of.toNat), .int .i64 (Co.fld of.toNat)] 109 := ⟨_, rfl⟩
      obtain ⟨w4, hw4⟩ : ∃ z, w3.alloc (.cells #[.string (Co.nm of.toNat), .int .i64 (Co.par of.toNat), .int .i64 (Co.fld of.toNat)] 109) = z := ⟨_, rfl⟩
      have hb4 : Below w2.heap.size w2 w4 := by rw [← hw4]; exact hb.alloc hb.size _
      have HB4 := Lib.hid hb4
      have hbw4 := HB2.out.trans (hb4.mono HB2.out.size)
      have HBW4 := Lib.hid hbw4
      have Q4 : Hid (w4.heap[w.heap.size]? = some (.cells #[.int .i64 0, .slice none 0 0] 53 (0, 0))) := Lib.hid ((hb4.block _ hlt2).trans Q2.out)
      have hlt4 : w.heap.size < w4.heap.size := by have := hb4.size; omega
      have KFI := Sp.first_any l of S _ w4 (HH.out.below hbw4 (Nat.le_refl _)) HTH.out hl16
      clear hO hb hb4 hbw4 hb3 KF
      go_wp2_with fail
      refine KFI.mono ?_
      rintro x w5 ⟨r, rfl, hr, hb5⟩
      have hbw5 := HBW4.out.trans (hb5.mono HBW4.out.size)
      have hq5 := (hb5.block _ hlt4).trans Q4.out
      have hlt5 : w.heap.size < w5.heap.size := by have := hb5.size; omega
      clear KFI hb5
      cases hf : Sp.fst l of with
      | none =>
        rw [hf] at hr
        have hrv : r = .tuple #[.agg #[.int .i64 0, .slice none 0 0], .bool false] := hr
        subst hrv
        have hans : Sp.find l of = (⟨0, []⟩, 7) := by unfold Sp.find; rw [if_neg (by rw [HC.out]; decide), if_neg (by rw [HTR.out]; decide), hf]
        have HANS := Lib.hid hans
        have hbA : Below w.heap.size w (w5.alloc (.cells #[.int .i64 0, .slice none 0 0] 53)) := hbw5.alloc hbw5.size _
        have hqA : (w5.alloc (.cells #[.int .i64 0, .slice none 0 0] 53)).heap[w.heap.size]? = some (.cells #[.int .i64 0, .slice none 0 0] 53 (0, 0)) := (Lib.alloc_old _ _ _ hlt5).trans hq5
        obtain ⟨x0, x1, X1, X2, ⟨g0, z0, s0⟩, ⟨g1, z1, s1⟩, r0, r1, HX⟩ := Sp.ret2 hbA ⟨_, hqA⟩ rfl (Nat.le_refl _) (.int .i64 0) (.slice none 0 0)
        clear hbA hqA hr hf hans hbw5 hq5
        go_wp2_with fail
        refine bodyPost_ret (v := .tuple #[.agg #[.int .i64 0, .slice none 0 0], .int .i64 7]) (by simp [results, Tryz.results24, go_sem, r0, r1]) rfl ⟨_, by rw [HANS.out], by rw [HANS.out]; exact Tr.LIn.nil _ _, HX.out.1⟩
      | some s =>
        rw [hf] at hr
        obtain ⟨fv, rfl, hL⟩ : ∃ fv, r = .tuple #[.agg #[.int .i64 s.t, fv], .bool true] ∧ Tr.LIn w5 S s.f fv := hr
        obtain ⟨fa, fc, rfl, _, _⟩ := Tr.Sl.slice hL
        have hans : Sp.find l of = (s, 0) := by unfold Sp.find; rw [if_neg (by rw [HC.out]; decide), if_neg (by rw [HTR.out]; decide), hf]
        have HANS := Lib.hid hans
        obtain ⟨hf4, hsd⟩ := HSD.out s (Sp.fst_mem hf).1
        have hbA : Below w5.heap.size w5 (w5.alloc (.cells #[.int .i64 s.t, .slice fa s.f.length fc] 53)) := (Below.refl _ _).alloc (Nat.le_refl _) _
        have KO := Sp.own_any s S _ _ (hL.below hbA (Nat.le_refl _)) hsd (by omega)
        have HBA := Lib.hid (hbw5.trans (hbA.mono hbw5.size))
        have Q6 : Hid ((w5.alloc (.cells #[.int .i64 s.t, .slice fa s.f.length fc] 53)).heap[w.heap.size]? = some (.cells #[.int .i64 0, .slice none 0 0] 53 (0, 0))) := Lib.hid ((Lib.alloc_old _ _ _ hlt5).trans hq5)
        clear hbA hf hans hbw5 hq5 hsd hL
        go_wp2_with fail
        refine KO.mono ?_
        rintro x w6 ⟨f6, rfl, hL6, hb6⟩
        obtain ⟨fa6, fc6, rfl, _, _⟩ := Tr.Sl.slice hL6
        have hbw6 := HBA.out.trans (hb6.mono HBA.out.size)
        have hq6 := (hb6.block w.heap.size (by have := HBA.out.size; simp; omega)).trans Q6.out
        obtain ⟨x0, x1, X1, X2, ⟨g0, z0, s0⟩, ⟨g1, z1, s1⟩, r0, r1, HX⟩ := Sp.ret2 hbw6 ⟨_, hq6⟩ rfl (Nat.le_refl _) (.int .i64 s.t) (.slice fa6 s.f.length fc6)
        have HL6 := Lib.hid hL6
        have HSZ := Lib.hid HBA.out.size
        clear KO hL6 hb6 hbw6 hq6
        go_wp2_with fail
        refine bodyPost_ret (v := .tuple #[.agg #[.int .i64 s.t, .slice fa6 s.f.length fc6], .int .i64 0]) (by simp [results, Tryz.results24, go_sem, r0, r1]) rfl ⟨.slice fa6 s.f.length fc6, by rw [HANS.out], ?_, HX.out.1⟩
        rw [HANS.out]
        have hlt6 : w.heap.size < (w5.alloc (.cells #[.int .i64 s.t, .slice fa s.f.length fc] 53)).heap.size := by simp; omega
        exact (HL6.out.kept (w' := X2) ⟨by have := HX.out.2.1; omega, fun q hq hl => HX.out.2.2 q (by have : _ ≤ q := hq; omega)⟩).mono (fun q hq => by have : _ ≤ q := hq; omega)
  · have hans : Sp.find l of = (⟨0, []⟩, Sp.chk l) := by unfold Sp.find; rw [if_pos hc]
    have HANS := Lib.hid hans
    clear hans
    have hne2 : (Sp.chk l != 0) = true := by simpa using hc
    obtain ⟨x0, x1, X1, X2, ⟨g0, z0, s0⟩, ⟨g1, z1, s1⟩, r0, r1, HX⟩ := Sp.ret2 HB2.out ⟨_, Q2.out⟩ rfl (Nat.le_refl _) (.int .i64 0) (.slice none 0 0)
    go_wp2_with fail
    refine bodyPost_ret (v := .tuple #[.agg #[.int .i64 0, .slice none 0 0], .int .i64 (Sp.chk l)]) (by simp [results, Tryz.results24, go_sem, r0, r1]) rfl ⟨_, by rw [HANS.out], by rw [HANS.out]; exact Tr.LIn.nil _ _, HX.out.1⟩
end Go.Proofs.YtikmebkfdpbidaaGreatDoor
namespace Go.Proofs.YtikmebkfdpbidaaGreatDoor
open Go.RowKit
set_option linter.unusedVariables false
set_option linter.unusedSimpArgs false

set_option maxHeartbeats 1000000 in
set_option maxRecDepth 1000000 in
theorem Cr.Find_any (l : List Sp) (of : Int) (S : Nat → Prop) (v : Value) (w : World) (h : Sp.LIn w S l v) (hT : Tr.Tabs w) (hx : Sp.txt l) :
    Calls Tryz.prog 25 #[v, .int .i64 of] w fun e w' => ∃ fv, e = .returned (.tuple #[.agg #[.int .i64 (Sp.find l of).1.t, fv], .int .i64 (Sp.find l of).2]) ∧ Tr.LIn w' S (Sp.find l of).1.f fv ∧ Below w.heap.size w w' := by
  obtain ⟨ad, cap, rfl, hcap, _⟩ := h.slice
  have HH := Lib.hid h
  have hb1 : ∀ o, Below w.heap.size w (w.alloc o) := fun o => (Below.refl _ _).alloc (Nat.le_refl _) o
  have hq1 : ∀ o, (w.alloc o).heap[w.heap.size]? = some o := fun o => heap_alloc_new w o
  have hz1 : ∀ o, (w.alloc o).heap.size = w.heap.size + 1 := by intro o; simp
  have hchk := fun o => Cr.Check_any l S _ (w.alloc o) (h.below (hb1 o) (Nat.le_refl _)) (hT.since (hb1 o) (Nat.le_refl _)) hx
  clear h hT hx
  go_enter Tryz.func25, Tryz.ntmps25
  go_wp2_with fail
  refine (hchk _).mono ?_
  rintro x w2 ⟨rfl, hb2⟩
  have q2 := (hb2.block w.heap.size (by rw [hz1]; omega)).trans (hq1 _)
  have HB2 := Lib.hid ((hb1 _).trans (hb2.mono (by rw [hz1]; omega)))
  have Q2 := Lib.hid q2
  have hlt2 : w.heap.size < w2.heap.size := (Array.getElem?_eq_some_iff.1 q2).1
  clear hb1 hq1 hz1 hchk hb2 q2
  by_cases hc : Sp.chk l = 0
  · rw [hc]
    have KN := fun w => Co.refName_any of w
    cases hthr : Co.thr of
    · have hans : Sp.find l of = (⟨0, []⟩, 1) := by unfold Sp.find; rw [if_neg (by rw [hc]; decide), if_pos hthr]
      have HANS := Lib.hid hans
      clear hans
      rw [hthr] at KN
      simp only [if_true, if_false, Bool.false_eq_true] at KN
      go_wp2_with fail
      refine (KN _).mono ?_
      rintro x w3 ⟨rfl, hb⟩
      have hbA : Below w.heap.size w w3 := HB2.out.trans (hb.mono HB2.out.size)
      obtain ⟨x0, x1, X1, X2, ⟨g0, z0, s0⟩, ⟨g1, z1, s1⟩, r0, r1, HX⟩ := Sp.ret2 hbA ⟨_, (hb.block _ hlt2).trans Q2.out⟩ rfl (Nat.le_refl _) (.int .i64 0) (.slice none 0 0)
      clear hb KN hbA
      go_wp2_with fail
      refine bodyPost_ret (v := .tuple #[.agg #[.int .i64 0, .slice none 0 0], .int .i64 1]) (by simp [results, Tryz.results25, go_sem, r0, r1]) rfl ⟨_, by rw [HANS.out], by rw [HANS.out]; exact Tr.LIn.nil _ _, HX.out.1⟩
    · rw [hthr] at KN
      simp only [if_true] at KN
      obtain ⟨hl16, hall⟩ := Sp.chk_zero hc
      have hth2 := of_decide_eq_true hthr
      have hne := Cr.nm_ne of.toNat (by omega)
      have HTH : Hid (∀ s ∈ l, Co.thr s.t = true) := Lib.hid (fun s hs => (Sp.chk_sound hc hs).1)
      have HC := Lib.hid hc
      have HTR := Lib.hid hthr
      have HOF : Hid (0 ≤ of) := Lib.hid hth2.1
      generalize Co.nm of.toNat = nm at *
      clear hall hc hthr hth2
      go_wp2_with fail
      refine (KN _).mono ?_
      rintro x w3 ⟨rfl, hb⟩
      have hbw3 := HB2.out.trans (hb.mono HB2.out.size)
      have HBW3 := Lib.hid hbw3
      have Q3 : Hid (w3.heap[w.heap.size]? = some (.cells #[.int .i64 0, .slice none 0 0] 53 (0, 0))) := Lib.hid ((hb.block _ hlt2).trans Q2.out)
      have hlt3 : w.heap.size < w3.heap.size := by have := hb.size; omega
      have KFI := Cr.first_any l of S _ w3 (HH.out.below hbw3 (Nat.le_refl _)) HTH.out HOF.out hl16
      clear hb hbw3 KN
      rcases Cr.place_fst of l 0 with ⟨hf, hp⟩ | ⟨j, s, hj, hf, hp⟩
      · have hp2 : Cr.place l of 0 = -1 := by simpa using hp
        rw [hp2] at KFI
        have hans : Sp.find l of = (⟨0, []⟩, 7) := by unfold Sp.find; rw [if_neg (by rw [HC.out]; decide), if_neg (by rw [HTR.out]; decide), hf]
        have HANS := Lib.hid hans
        clear hp hp2 hf hans
        go_wp2_with fail
        refine KFI.mono ?_
        rintro x w5 ⟨rfl, hb5⟩
        obtain ⟨x0, x1, X1, X2, ⟨g0, z0, s0⟩, ⟨g1, z1, s1⟩, r0, r1, HX⟩ := Sp.ret2 (HBW3.out.trans (hb5.mono HBW3.out.size)) ⟨_, (hb5.block _ hlt3).trans Q3.out⟩ rfl (Nat.le_refl _) (.int .i64 0) (.slice none 0 0)
        clear hb5 KFI
        go_wp2_with fail
        refine bodyPost_ret (v := .tuple #[.agg #[.int .i64 0, .slice none 0 0], .int .i64 7]) (by simp [results, Tryz.results25, go_sem, r0, r1]) rfl ⟨_, by rw [HANS.out], by rw [HANS.out]; exact Tr.LIn.nil _ _, HX.out.1⟩
      · have hp2 : Cr.place l of 0 = (j : Int) := by simpa using hp
        rw [hp2] at KFI
        have hans : Sp.find l of = (s, 0) := by unfold Sp.find; rw [if_neg (by rw [HC.out]; decide), if_neg (by rw [HTR.out]; decide), hf]
        have HANS := Lib.hid hans
        have hjl : j < l.length := (List.getElem?_eq_some_iff.1 hj).1
        have HJ := Lib.hid hj
        clear hp hp2 hf hans hj
        go_wp2_with fail
        refine KFI.mono ?_
        rintro x w5 ⟨rfl, hb5⟩
        have hbw5 := HBW3.out.trans (hb5.mono HBW3.out.size)
        have HBW5 := Lib.hid hbw5
        have hq5 := (hb5.block _ hlt3).trans Q3.out
        obtain ⟨b, off, fv, rfl, hblt, _, c0, c1, hf⟩ := HH.out.at HJ.out
        obtain ⟨fa, fc, rfl, hfc, _⟩ := Tr.Sl.slice hf
        replace c0 := (hbw5.cell (p := ⟨b, off + j * 2, none⟩) hblt).trans c0
        replace c1 := (hbw5.cell (p := ⟨b, off + j * 2 + 1, none⟩) hblt).trans c1
        obtain ⟨x0, x1, X1, X2, ⟨g0, z0, s0⟩, ⟨g1, z1, s1⟩, r0, r1, HX⟩ := Sp.ret2 hbw5 ⟨_, hq5⟩ rfl (Nat.le_refl _) (.int .i64 s.t) (.slice fa s.f.length fc)
        have HF := Lib.hid (hf.below HX.out.1 (Nat.le_refl _))
        clear hb5 KFI hf hbw5 hq5 hblt hfc
        go_wp2_with fail
        refine bodyPost_ret (v := .tuple #[.agg #[.int .i64 s.t, .slice fa s.f.length fc], .int .i64 0]) (by simp [results, Tryz.results25, go_sem, r0, r1]) rfl ⟨.slice fa s.f.length fc, by rw [HANS.out], by rw [HANS.out]; exact HF.out, HX.out.1⟩
  · have hans : Sp.find l of = (⟨0, []⟩, Sp.chk l) := by unfold Sp.find; rw [if_pos hc]
    have HANS := Lib.hid hans
    clear hans
    have hne2 : (Sp.chk l != 0) = true := by simpa using hc
    obtain ⟨x0, x1, X1, X2, ⟨g0, z0, s0⟩, ⟨g1, z1, s1⟩, r0, r1, HX⟩ := Sp.ret2 HB2.out ⟨_, Q2.out⟩ rfl (Nat.le_refl _) (.int .i64 0) (.slice none 0 0)
    go_wp2_with fail
    refine bodyPost_ret (v := .tuple #[.agg #[.int .i64 0, .slice none 0 0], .int .i64 (Sp.chk l)]) (by simp [results, Tryz.results25, go_sem, r0, r1]) rfl ⟨_, by rw [HANS.out], by rw [HANS.out]; exact Tr.LIn.nil _ _, HX.out.1⟩
end Go.Proofs.YtikmebkfdpbidaaGreatDoor
namespace Go.Proofs.YtikmebkfdpbidaaGreatDoor
open Go.RowKit
set_option linter.unusedVariables false
set_option linter.unusedSimpArgs false

theorem Sp.txt_flat {ls : List (List Sp)} (h : ∀ l ∈ ls, Sp.txt l) : Sp.txt ls.flatten := fun s hs => by
  obtain ⟨l, hl, hsl⟩ := List.mem_flatten.1 hs
  exact h l hl s hsl
set_option maxHeartbeats 1000000 in
set_option maxRecDepth 1000000 in
theorem Cr.Join_any (ls : List (List Sp)) (S : Nat → Prop) (v : Value) (w : World) (h : Sp.LLIn w S ls v) (hT : Tr.Tabs w) (hx : ∀ l ∈ ls, Sp.txt l) (hlen : ls.flatten.length ≤ 4000000000000) :
    Calls Tryz.prog 21 #[v] w fun e w' => ∃ vo, e = .returned (.tuple #[vo, .int .i64 (Sp.chk ls.flatten)]) ∧ Sp.LIn w' (fun _ => True) (Sp.joined ls.flatten) vo ∧ Below w.heap.size w w' := by
  obtain ⟨ad, cap, rfl, hcap, _⟩ := Tr.Sl.slice h
  have HH := Lib.hid h
  have HT := Lib.hid hT
  have HX := Lib.hid (Sp.txt_flat hx)
  obtain ⟨i0, hi, hz0, hz1, hz2⟩ := info_parts Sp.info
  clear h hT hx
  go_enter Tryz.func21, Tryz.ntmps21
  go_wp2_with fail
  go_loopg [4, 5] ls.length (fun g vo i wr => ∃ (k : Nat) (xs : List Value), k + g = ls.length ∧ i = .int .i64 k ∧ Sp.JoinSt w S (ls.take k).flatten wr vo xs)
  case atStart => exact ⟨0, [], by omega, rfl, World.ownsRow_lit w #[] 0 (Nat.le_refl _) (by decide) rfl, fun j s h => by simp at h, (Below.refl _ _).alloc (Nat.le_refl _) _⟩
  case round =>
    obtain ⟨k, xs, hkg, rfl, hst⟩ := hrel
    obtain ⟨wo, hwo⟩ : ∃ z, z = wr := ⟨_, rfl⟩
    subst hwo
    obtain ⟨A, hA⟩ : ∃ z, z = (ls.take k).flatten := ⟨_, rfl⟩
    rw [← hA] at hst
    obtain ⟨oa, oc, rfl⟩ := Ls.own_slice hst.own
    have HST := Lib.hid hst
    have HAF := Lib.hid hA
    clear hst hA
    by_cases hlt : k < ls.length
    · obtain ⟨l, hl⟩ : ∃ l, ls[k]? = some l := ⟨_, List.getElem?_eq_getElem hlt⟩
      obtain ⟨b, off, rfl, _, _, _, hblt, _, hall⟩ := Tr.Sl.at HH.out (by omega)
      obtain ⟨lv, c0, hL⟩ := hall k l hl
      replace c0 := (HST.out.bel.cell (p := ⟨b, off + k, none⟩) hblt).trans c0
      obtain ⟨la, lc, rfl, _, _⟩ := hL.slice
      have hsplit : (ls.take (k + 1)).flatten = A ++ l := by rw [HAF.out, List.take_add_one, hl]; simp
      have hbound : A.length + l.length ≤ 4000000000000 := by
        have e : ls.flatten = (ls.take (k + 1)).flatten ++ (ls.drop (k + 1)).flatten := by rw [← List.flatten_append, List.take_append_drop]
        have := congrArg List.length e
        rw [hsplit, List.length_append, List.length_append] at this
        omega
      obtain ⟨news, hsrc, hone, hn⟩ := hL.news HST.out.bel
      have HN := Lib.hid hn
      have HSP := Lib.hid hsplit
      clear hn hsplit hL hall hl hblt
      go_wp2_with (at_builtin; refine Ls.wpList_append _ rfl _ _ 47 rfl w.heap.size 53 i0 (.agg #[.int .i64 0, .slice none 0 0]) 2 32 Tryz.underlying47 hi hz0 hz1 hz2 rfl (by decide) _ _ xs rfl HST.out.own _ _ news rfl hsrc hone ?c1 ?c2 ?c3 ?_)
      case c1 => simp only [maxLen]; omega
      case c2 => omega
      case c3 => exact HST.out.bel.size
      intro v' w' hown hg _
      have hnext := HST.out.next HN.out hown hg
      rw [← HSP.out] at hnext
      have HNX := Lib.hid hnext
      obtain ⟨na, nc, rfl⟩ := Ls.own_slice hown
      clear hnext hown hg hsrc hone c0
      go_wp2_with fail
      go_roundg (gk - 1)
      case measure => omega
      case rel => exact ⟨k + 1, _, by omega, by first | rfl | go_num | (simp; try omega), HNX.out⟩
    · have hk : k = ls.length := by omega
      subst hk
      obtain ⟨all, hall⟩ : ∃ z, z = A := ⟨_, rfl⟩
      subst hall
      have hall : Hid (all = ls.flatten) := Lib.hid (by rw [HAF.out, List.take_length])
      have hchk := Cr.Check_any all _ _ wo HST.out.lin (HT.out.since HST.out.bel (Nat.le_refl _)) (by rw [hall.out]; exact HX.out)
      go_wp2_with fail
      refine hchk.mono ?_
      rintro x w2 ⟨rfl, hb2⟩
      have hst2 := HST.out.below hb2
      have HST2 := Lib.hid hst2
      clear hchk hb2 hst2
      by_cases hc : Sp.chk all = 0
      · have HC := Lib.hid hc
        have hres := HST2.out.lin
        have HR := Lib.hid hres
        have HB := Lib.hid HST2.out.bel
        rw [hc]
        clear hres hc
        go_wp2_with fail
        go_ret2
        exact ⟨.slice oa all.length oc, by rw [← hall.out, HC.out]; rfl, by rw [← hall.out]; unfold Sp.joined; rw [if_pos HC.out]; exact HR.out, HB.out⟩
      · have HB := Lib.hid HST2.out.bel
        have hne2 : (Sp.chk all != 0) = true := by simpa using hc
        go_wp2_with fail
        go_ret2
        exact ⟨.slice none 0 0, by rw [← hall.out]; rfl, by rw [← hall.out]; unfold Sp.joined; rw [if_neg hc]; exact Sp.LIn.nil _ _, HB.out⟩
end Go.Proofs.YtikmebkfdpbidaaGreatDoor
