/-
  sextantref16.Same at equal parts.
  datum.Copy of a leaf.
  cond.Check and cond.first of a condition whose parts hold no field, or one leaf.
  cond.first of a condition, where it finds one.
  lists.none, join, fit, of leaves.
  lists.Of of no data.
  lists.Items of the empty list.
-/
import Derived.StillTailTactics
import Derived.BigQuiet
import Derived.Laws.AppendOwn
import Derived.Test.YtikmebkfdpbidaaGreatDoorSmSameP
import Derived.Test.YtikmebkfdpbidaaGreatDoorPj
import Derived.Test.YtikmebkfdpbidaaGreatDoorPh
import Derived.Test.YtikmebkfdpbidaaGreatDoorPa
namespace Go.Proofs.YtikmebkfdpbidaaGreatDoor
open Go.RowKit
set_option linter.unusedVariables false
set_option linter.unusedSimpArgs false

set_option maxHeartbeats 1000000 in
set_option maxRecDepth 1000000 in
theorem Cr.same (l : List Sp) (S S' : Nat → Prop) (v v' : Value) (w : World) (h : Sp.LIn w S l v) (h' : Sp.LIn w S' l v') :
    Calls Tryz.prog 23 #[v, v'] w fun e w' => e = .returned (.bool true) ∧ Below w.heap.size w w' := by
  obtain ⟨p10, d10, rfl, hcap10, hmax10⟩ := h.slice
  obtain ⟨r10, g10, rfl, _, _⟩ := h'.slice
  have HLL := Lib.hid (And.intro h h')
  have hlen : l.length ≤ 9223372036854775807 := by
    rcases hmax10 with h0 | h0 <;> omega
  clear h h' hcap10 hmax10
  go_enter Tryz.func23, Tryz.ntmps23
  go_wp2_with fail
  go_loopg [5] l.length (fun g i wr => ∃ k : Nat, k + g = l.length ∧ i = .int .i64 k ∧ Below w.heap.size w wr)
  case atStart => exact ⟨0, by omega, rfl, Below.refl _ _⟩
  case round =>
    obtain ⟨k, hkl, rfl, hb⟩ := hrel
    obtain ⟨wp, hwp⟩ : ∃ z, z = wr := ⟨_, rfl⟩
    subst hwp
    have HB3 := Lib.hid hb
    by_cases hlt : k < l.length
    · obtain ⟨s, hs⟩ : ∃ s, l[k]? = some s := ⟨_, List.getElem?_eq_getElem hlt⟩
      obtain ⟨b, off, fv, rfl, hblt, _, c0, c1, hf⟩ := HLL.out.1.at hs
      obtain ⟨b2, off2, fv2, rfl, hblt2, _, i0, i1, hf2⟩ := HLL.out.2.at hs
      obtain ⟨fa, fc, rfl, _, _⟩ := Tr.Sl.slice hf
      obtain ⟨fa2, fc2, rfl, _, _⟩ := Tr.Sl.slice hf2
      have hbwd : Below w.heap.size w wp.drew := hb.drew
      replace c0 := (hbwd.cell (p := ⟨b, off + k * 2, none⟩) hblt).trans c0
      replace c1 := (hbwd.cell (p := ⟨b, off + k * 2 + 1, none⟩) hblt).trans c1
      replace i0 := (hbwd.cell (p := ⟨b2, off2 + k * 2, none⟩) hblt2).trans i0
      replace i1 := (hbwd.cell (p := ⟨b2, off2 + k * 2 + 1, none⟩) hblt2).trans i1
      have HKT := Lib.hid (Sm.all s.f _ _ _ _ wp.drew (hf.below hbwd (Nat.le_refl _)) (hf2.below hbwd (Nat.le_refl _)))
      clear hf hf2 hs hblt hblt2 hb hbwd
      go_wp2_with fail
      go_still_tail 22, (by kernel_rfl)
      change wpList _ _ _ _ _ wp.drew
      have HBD : Hid (Below w.heap.size w wp.drew) := Lib.hid HB3.out.drew
      go_wp2_with fail
      refine HKT.out.mono ?_
      rintro x w5 ⟨rfl, hb5⟩
      have HB5 := Lib.hid (HBD.out.trans (hb5.mono HBD.out.size))
      clear hb5
      go_wp2_with fail
      go_roundg (gk - 1)
      case measure => omega
      case rel => exact ⟨k + 1, by omega, by first | rfl | go_num | (simp; try omega), HB5.out⟩
    · have hk : k = l.length := by omega
      subst hk
      clear hb
      go_wp2_with fail
      go_ret
      exact ⟨rfl, HB3.out⟩
end Go.Proofs.YtikmebkfdpbidaaGreatDoor
namespace Go.Proofs.YtikmebkfdpbidaaGreatDoor
open Go.RowKit
set_option linter.unusedVariables false

theorem Dt.below4 (w : World) (o1 o2 o3 o4 : Obj) : Below w.heap.size w ((((w.alloc o1).alloc o2).alloc o3).alloc o4) :=
  ((((Below.refl _ _).alloc (Nat.le_refl _) _).alloc (by simp) _).alloc (by simp; omega) _).alloc (by simp; omega) _
set_option maxHeartbeats 4000000 in
set_option maxRecDepth 1000000 in
theorem Dt.Copy_leaf (k : Int) (s : ByteArray) (lst : Value) (hk : Dt.kindOk k s) (hl : ∃ ad cap, lst = .slice ad 0 cap) (w : World) :
    Calls Tryz.prog 44 #[Dt.leaf k s lst] w fun e w' => (∃ ad cap, e = .returned (Dt.leaf k s (.slice ad 0 cap))) ∧ Below w.heap.size w w' := by
  have h3 : (k == 3) = false := by
    rcases hk with ⟨rfl, _⟩ | ⟨rfl, _⟩ | rfl | rfl <;> rfl
  have h8 : (k == 8) = false := by
    rcases hk with ⟨rfl, _⟩ | ⟨rfl, _⟩ | rfl | rfl <;> rfl
  have h3b : ¬ (k = 3) := by
    rcases hk with ⟨rfl, _⟩ | ⟨rfl, _⟩ | rfl | rfl <;> decide
  have h8b : ¬ (k = 8) := by
    rcases hk with ⟨rfl, _⟩ | ⟨rfl, _⟩ | rfl | rfl <;> decide
  obtain ⟨ad, cap, rfl⟩ := hl
  have hmk : ∀ w : World, (Instr.makeSlice 28 (.int .i64 0) (.int .i64 0)).run Tryz.prog w = .ok (.slice (some ⟨w.heap.size, 0, none⟩) 0 0) (w.alloc (.cells #[] 30)) := fun w => by kernel_rfl
  unfold Dt.leaf Dt.cells
  go_enter Tryz.func44, Tryz.ntmps44
  go_wp2_with fail
  go_loopw [4] (fun i wr => i = .pointer (some ⟨w.heap.size + 2, 0, none⟩) ∧ wr = ((w.alloc (.cells #[.int .i64 k, .int .i64 0, .bool false, .slice none 0 0, .slice none 0 0, .bool false, .slice none 0 0, .slice none 0 0, .string s, .slice none 0 0, .slice ad 0 cap] 30)).alloc (.cells #[.int .i64 0, .int .i64 0, .bool false, .slice none 0 0, .slice none 0 0, .bool false, .slice none 0 0, .slice none 0 0, .string ⟨#[]⟩, .slice none 0 0, .slice none 0 0] 30)).alloc (.cells #[.int .i64 k, .int .i64 0, .bool false, .slice none 0 0, .slice none 0 0, .bool false, .slice none 0 0, .slice none 0 0, .string s, .slice none 0 0, .slice ad 0 cap] 30)) (fun _ _ => 0)
  case atStart => exact ⟨rfl, rfl⟩
  case round =>
    obtain ⟨rfl, rfl⟩ := hrel
    go_wp2_with fail
    go_loopw [50] (fun i wr => i = .int .i64 0 ∧ wr = (((w.alloc (.cells #[.int .i64 k, .int .i64 0, .bool false, .slice none 0 0, .slice none 0 0, .bool false, .slice none 0 0, .slice none 0 0, .string s, .slice none 0 0, .slice ad 0 cap] 30)).alloc (.cells #[.int .i64 0, .int .i64 0, .bool false, .slice none 0 0, .slice none 0 0, .bool false, .slice none 0 0, .slice none 0 0, .string ⟨#[]⟩, .slice none 0 0, .slice none 0 0] 30)).alloc (.cells #[.int .i64 k, .int .i64 0, .bool false, .slice none 0 0, .slice none 0 0, .bool false, .slice none 0 0, .slice none 0 0, .string s, .slice none 0 0, .slice ad 0 cap] 30)).alloc (.cells #[] 30)) (fun _ _ => 0)
    case atStart => exact ⟨rfl, rfl⟩
    case round =>
      obtain ⟨rfl, rfl⟩ := hrel
      go_wp2_with fail
      refine bodyPost_ret (v := .agg #[.int .i64 k, .int .i64 0, .bool false, .slice none 0 0, .slice none 0 0, .bool false, .slice none 0 0, .slice none 0 0, .string s, .slice none 0 0, .slice (some ⟨w.heap.size + 1 + 1 + 1, 0, none⟩) 0 0]) ?_ rfl ⟨⟨_, _, rfl⟩, ?_⟩
      · simp [results, Tryz.results44, go_sem]
      · exact Dt.below4 _ _ _ _ _
end Go.Proofs.YtikmebkfdpbidaaGreatDoor
namespace Go.Proofs.YtikmebkfdpbidaaGreatDoor
open Go.RowKit
set_option linter.unusedVariables false

/-- The fields of a part of a type: none, or a leaf. -/
def Co.Fld (w : World) (B : Nat) (t : Nat) (f : Value) : Prop :=
  (f = .slice none 0 0 ∧ Co.nf t = 0) ∨ (Co.nf t = 1 ∧ ∃ b k s ad cap, b < B ∧ f = .slice (some ⟨b, 0, none⟩) 1 1 ∧ w.heap[b]? = some (.cells (Dt.cells k s (.slice ad 0 cap)) 30 (0, 0)) ∧ Dt.kindOk k s ∧ Dt.valid s)
/-- A condition's parts, in memory that lies below B. -/
def Co.At (w : World) (B a n : Nat) (t : Nat → Nat) (f : Nat → Value) : Prop :=
  a < B ∧ ∀ i, i < n → t i < 20 ∧ w.cell? ⟨a, i * 2, none⟩ = some (.int .i64 (t i)) ∧ w.cell? ⟨a, i * 2 + 1, none⟩ = some (f i) ∧ Co.Fld w B (t i) (f i)
theorem Co.Fld.below {w w' : World} {B t : Nat} {f : Value} (h : Co.Fld w B t f) (hb : Below B w w') : Co.Fld w' B t f := by
  rcases h with h | ⟨h1, b, k, s, ad, cap, hlt, hf, hh, r⟩
  · exact .inl h
  · exact .inr ⟨h1, b, k, s, ad, cap, hlt, hf, (hb.block b hlt).trans hh, r⟩
theorem Co.At.below {w w' : World} {B a n : Nat} {t : Nat → Nat} {f : Nat → Value} (h : Co.At w B a n t f) (hb : Below B w w') : Co.At w' B a n t f :=
  ⟨h.1, fun i hi => ⟨(h.2 i hi).1, (hb.cell (p := ⟨a, i * 2, none⟩) h.1).trans (h.2 i hi).2.1, (hb.cell (p := ⟨a, i * 2 + 1, none⟩) h.1).trans (h.2 i hi).2.2.1, (h.2 i hi).2.2.2.below hb⟩⟩

theorem Co.Fld.slice {w : World} {B t : Nat} {f : Value} (h : Co.Fld w B t f) : ∃ ao n cap, f = .slice ao n cap ∧ Co.nf t = n ∧ n ≤ 1 := by
  rcases h with ⟨rfl, h⟩ | ⟨h, b, k, s, ad, cap, _, rfl, _⟩
  · exact ⟨none, 0, 0, rfl, h, by omega⟩
  · exact ⟨_, 1, 1, rfl, h, by omega⟩

set_option maxHeartbeats 4000000 in
set_option maxRecDepth 1000000 in
theorem Co.Check_ok (a n cap : Nat) (hn : n ≤ 16) (t : Nat → Nat) (f : Nat → Value) (w : World) (h : Co.At w w.heap.size a n t f) :
    Calls Tryz.prog 26 #[.slice (some ⟨a, 0, none⟩) n cap] w fun e w' => e = .returned (.int .i64 0) ∧ Below w.heap.size w w' := by
  have HH := Lib.hid h; clear h
  have hn16 : ¬ ((n : Int) > 16) := by omega
  go_enter Tryz.func26, Tryz.ntmps26
  go_wp2_with fail
  refine (Co.kinds_any _).mono ?_
  rintro x w1 ⟨rfl, hg, hb1⟩
  have HB1 := Lib.hid hb1
  have HG := Lib.hid hg
  have hz1 : w.heap.size < w1.heap.size := (Array.getElem?_eq_some_iff.1 hg).1
  clear hb1 hg
  go_wp2_with fail
  go_loopw [18] (fun i wr => ∃ k : Nat, i = .int .i64 k ∧ k ≤ n ∧ Below w1.heap.size w1 wr) (fun i _ => n - (intOf i).toNat)
  case atStart => exact ⟨0, rfl, Nat.zero_le _, Below.refl _ _⟩
  case round =>
    obtain ⟨k, rfl, hk, hbw⟩ := hrel
    obtain ⟨wo, hwo⟩ : ∃ z, z = wr := ⟨_, rfl⟩
    subst hwo
    have HBW := Lib.hid hbw
    have hzw := hbw.size
    have HWR := Lib.hid (HB1.out.trans (hbw.mono (Nat.le_of_lt hz1)))
    clear hbw
    by_cases hlt : k < n
    · obtain ⟨ht, c0, c1, hf⟩ := (HH.out.below HWR.out).2 k hlt
      have HF := Lib.hid hf
      obtain ⟨ao, m, cp, hfe, hm, hm1⟩ := hf.slice
      have HFE := Lib.hid hfe
      rw [hfe] at c1
      have KF := fun w => Co.find_in (t k) ht w
      have HM := Lib.hid hm
      clear hf hfe hm
      have hq0 : ∀ o, (wo.alloc o).heap[wo.heap.size]? = some o := fun o => heap_alloc_new wo o
      have hb0 : ∀ o, Below wo.heap.size wo (wo.alloc o) := fun o => (Below.refl _ _).alloc (Nat.le_refl _) _
      have hsz : ∀ o, (wo.alloc o).heap.size = wo.heap.size + 1 := by intro o; simp
      generalize t k = tk at *
      go_wp2_with fail
      refine (KF _).mono ?_
      rintro x w2 ⟨rfl, hb2⟩
      have q2 := (hb2.block wo.heap.size (by rw [hsz]; omega)).trans (hq0 _)
      have HB2 := Lib.hid ((hb0 _).trans (hb2.mono (by rw [hsz]; omega)))
      have hz2 : wo.heap.size < w2.heap.size := (Array.getElem?_eq_some_iff.1 q2).1
      have d0 := Co.cell_of q2 0
      have d1 := Co.cell_of q2 1
      clear hb2 hq0 hb0 hsz KF c0 c1
      go_wp2_with fail
      have HGW : Hid (w2.heap[w.heap.size]? = some (.cells Co.cells 109 (0, 0))) := Lib.hid ((HB2.out.block _ (by omega)).trans ((HBW.out.block _ hz1).trans HG.out))
      have Q2 := Lib.hid q2
      have hb0 : ∀ o, Below w2.heap.size w2 (w2.alloc o) := fun o => (Below.refl _ _).alloc (Nat.le_refl _) _
      have hnf := (rfl : Co.nf tk = Co.nfu 20 tk)
      have HNF := Lib.hid hnf
      clear hnf d0 d1 q2
      go_loopw [8, 9] (fun a i wq => ∃ (q : Nat) (s u : Int), a = .int .i64 s ∧ i = .int .i64 u ∧ -1 ≤ u ∧ u < q ∧ q ≤ 20 ∧ s + Co.nfu q u = Co.nf tk ∧ 0 ≤ s ∧ s ≤ 2 * (20 - q) ∧ Below w2.heap.size w2 wq) (fun _ i _ => (intOf i + 1).toNat)
      case atStart => exact ⟨20, 0, tk, rfl, rfl, by omega, by omega, Nat.le_refl _, (Int.zero_add _).trans HNF.out.symm, Int.le_refl _, by omega, hb0 _⟩
      case round =>
        obtain ⟨q, s, u, rfl, rfl, hu1, huq, hq, hs, hs0, hs1, hbq⟩ := hrel
        have HBQ := Lib.hid hbq
        clear hbq
        by_cases hu : u < 0
        · have hu2 : ¬ (u ≥ 0) := by omega
          rw [Co.nfu_stop _ _ hu, Int.add_zero, HM.out] at hs
          subst hs
          have q3 := (HBQ.out.block wo.heap.size hz2).trans Q2.out
          have e0 := Co.cell_of q3 0
          have e1 := Co.cell_of q3 1
          clear hs0 hs1 huq
          have hzq := HBQ.out.size
          have HWQ := Lib.hid (HWR.out.trans ((HB2.out.trans (HBQ.out.mono (Nat.le_of_lt hz2))).mono (Nat.le_trans (Nat.le_of_lt hz1) hzw)))
          clear q3
          go_wp2_with fail
          obtain ⟨wp, hwp⟩ : ∃ z, z = wr := ⟨_, rfl⟩
          subst hwp
          have hm0 : Hid (m = 0 ∨ m = 1) := Lib.hid (by omega)
          clear e0 e1
          go_loopw [54] (fun i wz => ∃ j : Nat, i = .int .i64 j ∧ j ≤ m ∧ Below wp.heap.size wp wz) (fun i _ => m - (intOf i).toNat)
          case atStart => exact ⟨0, rfl, Nat.zero_le _, Below.refl _ _⟩
          case round =>
            obtain ⟨j, rfl, hj, hbz⟩ := hrel
            have HBZ := Lib.hid hbz
            have hzz := hbz.size
            clear hbz
            by_cases hjm : j < m
            · obtain rfl : j = 0 := by omega
              rcases HF.out.below ((HB2.out.trans ((HBQ.out.trans (HBZ.out.mono hzq)).mono (Nat.le_of_lt hz2))).mono (by omega)) with ⟨hf, _⟩ | ⟨_, b, kd, sd, ad, cap, hlt2, hf, hh, hkd, hvd⟩
              · have := HFE.out.symm.trans hf
                simp only [Value.slice.injEq] at this
                omega
              · have := HFE.out.symm.trans hf
                simp only [Value.slice.injEq] at this
                obtain ⟨rfl, hm9, rfl⟩ := this
                have HM9 := Lib.hid hm9
                clear hm9
                have KS := Lib.hid (fun w => Dt.Sound_leaf kd sd (.slice ad 0 cap) hkd ⟨_, _, rfl⟩ hvd w)
                unfold Dt.cells at hh
                obtain ⟨c0, c1, c2, c3, c4, c5, c6, c7, c8, c9, c10⟩ := Dt.cells11 hh
                have hb0 : ∀ o, Below wr.heap.size wr (wr.alloc o) := fun o => (Below.refl _ _).alloc (Nat.le_refl _) _
                clear hh hkd hvd hf
                unfold Dt.leaf Dt.cells at KS
                go_wp2_with fail
                refine (KS.out _).mono ?_
                rintro x w5 ⟨rfl, hb5⟩
                have HB5 := Lib.hid (HBZ.out.trans (((hb0 _).trans (hb5.mono (by simp))).mono hzz))
                clear hb5 hb0 KS c0 c1 c2 c3 c4 c5 c6 c7 c8 c9 c10
                go_wp2_with fail
                go_roundw
                case rel => exact ⟨1, by first | rfl | go_num | simp, by omega, HB5.out⟩
                case measure => simp [intOf]; omega
            · obtain rfl : j = m := by omega
              have HEND := Lib.hid (show Below w1.heap.size w1 wr from HBW.out.trans ((HB2.out.trans ((HBQ.out.trans (HBZ.out.mono hzq)).mono (Nat.le_of_lt hz2))).mono hzw))
              go_wp2_with fail
              go_roundw
              case rel => exact ⟨k + 1, by first | rfl | go_num | (simp; try omega), by omega, HEND.out⟩
              case measure => simp [intOf]; omega
        · obtain ⟨v, rfl⟩ : ∃ v : Nat, u = v := ⟨u.toNat, by omega⟩
          obtain ⟨q, rfl⟩ : ∃ z : Nat, q = z + 1 := ⟨q - 1, by omega⟩
          rw [Co.nfu_step _ _ (by omega), Int.toNat_natCast] at hs
          obtain ⟨p1, p2⟩ := Co.par_lt v (by omega)
          obtain ⟨l1, l2⟩ := Co.fld_le v (by omega)
          obtain ⟨c0, c1, c2⟩ := Co.kind_cells ((HBQ.out.block _ (by omega)).trans HGW.out) v (by omega)
          have h3 : (v : Int) ≥ 0 := by omega
          have h4 : v < 20 := by omega
          have h5 : s + Co.fld v ≤ 40 := by omega
          have HA := Lib.hid (And.intro huq (And.intro hq (And.intro hs (And.intro hs0 hs1))))
          clear huq hq hs hs1 hu1 hu
          go_wp2_with fail
          go_roundw
          case rel =>
            obtain ⟨a1, a2, a3, a4, a5⟩ := HA.out
            exact ⟨q, s + Co.fld v, Co.par v, rfl, rfl, p1, by omega, by omega, by rw [← a3]; omega, by omega, by omega, HBQ.out⟩
          case measure => simp [intOf]; omega
    · go_wp2_with fail
      go_ret
      exact ⟨rfl, HWR.out⟩
end Go.Proofs.YtikmebkfdpbidaaGreatDoor
namespace Go.Proofs.YtikmebkfdpbidaaGreatDoor
open Go.RowKit
set_option linter.unusedVariables false
theorem Dt.store2 {w : World} {b : Nat} {v0 v1 : Value} {t : TypeId} (h : w.heap[b]? = some (.cells #[v0, v1] t (0, 0))) (u0 u1 : Value) :
    w.cell? ⟨b, 0, none⟩ = some v0 ∧
    w.frozen? ⟨b, 0, none⟩ = false ∧
    (w.setCell ⟨b, 0, none⟩ u0).cell? ⟨b, 1, none⟩ = some v1 ∧
    (w.setCell ⟨b, 0, none⟩ u0).frozen? ⟨b, 1, none⟩ = false ∧
    ((w.setCell ⟨b, 0, none⟩ u0).setCell ⟨b, 1, none⟩ u1).heap[b]? = some (.cells #[u0, u1] t (0, 0)) := by
  have h0 := h
  have h1 : (w.setCell ⟨b, 0, none⟩ u0).heap[b]? = some (.cells #[u0, v1] t (0, 0)) := Dt.setCells h0 0 u0
  have h2 : ((w.setCell ⟨b, 0, none⟩ u0).setCell ⟨b, 1, none⟩ u1).heap[b]? = some (.cells #[u0, u1] t (0, 0)) := Dt.setCells h1 1 u1
  exact ⟨Dt.cell_of h0 0, Dt.frozen_of h0 0, Dt.cell_of h1 1, Dt.frozen_of h1 1, h2⟩
theorem Dt.below_store2 {w0 w : World} {B b : Nat} (h : Below B w0 w) (hb : B ≤ b) (u0 u1 : Value) : Below B w0 ((w.setCell ⟨b, 0, none⟩ u0).setCell ⟨b, 1, none⟩ u1) := by
  have h0 := h
  have h1 := Dt.below_set h0 b 0 u0 hb
  have h2 := Dt.below_set h1 b 1 u1 hb
  exact h2
theorem Dt.put2 {w : World} {b : Nat} {v0 v1 : Value} {t : TypeId} (h : w.heap[b]? = some (.cells #[v0, v1] t (0, 0))) (u0 u1 : Value) :
    ∃ W1 W2 : World,
    (w.cell? ⟨b, 0, none⟩ = some v0 ∧ w.frozen? ⟨b, 0, none⟩ = false ∧ w.setCell ⟨b, 0, none⟩ u0 = W1 ∧ W1.heap.size = w.heap.size) ∧
    (W1.cell? ⟨b, 1, none⟩ = some v1 ∧ W1.frozen? ⟨b, 1, none⟩ = false ∧ W1.setCell ⟨b, 1, none⟩ u1 = W2 ∧ W2.heap.size = w.heap.size) ∧
    W2.heap[b]? = some (.cells #[u0, u1] t (0, 0)) ∧
    W2.heap.size = w.heap.size ∧
    (∀ q, q ≠ b → W2.heap[q]? = w.heap[q]?) ∧
    (∀ (B : Nat) (w0 : World), Below B w0 w → B ≤ b → Below B w0 W2) := by
  obtain ⟨f0, z0, f1, z1, g⟩ := Dt.store2 h u0 u1
  refine ⟨_, _, ⟨f0, z0, rfl, by simp⟩, ⟨f1, z1, rfl, by simp⟩, g, by simp, ?_, fun B w0 h0 hb => Dt.below_store2 h0 hb u0 u1⟩
  intro q hq
  rw [Below.heap_setCell _ ⟨b, 1, none⟩ _ q hq]
  rw [Below.heap_setCell _ ⟨b, 0, none⟩ _ q hq]

set_option maxHeartbeats 4000000 in
set_option maxRecDepth 1000000 in
theorem Co.first_at (a n cap : Nat) (hn : n ≤ 16) (t : Nat → Nat) (f : Nat → Value) (of : Int) (i : Nat) (hi : i < n) (hno : ∀ j, j < i → Co.under (t j) of = false) (hyes : Co.under (t i) of = true) (w : World) (h : Co.At w w.heap.size a n t f) :
    Calls Tryz.prog 56 #[.slice (some ⟨a, 0, none⟩) n cap, .int .i64 of] w fun e w' => e = .returned (.tuple #[.agg #[.int .i64 (t i), f i], .bool true]) ∧ Below w.heap.size w w' := by
  have HH := Lib.hid h; clear h
  have HNO := Lib.hid hno; clear hno
  have hq0 : ∀ o, (w.alloc o).heap[w.heap.size]? = some o := fun o => heap_alloc_new w o
  have hb0 : ∀ o, Below w.heap.size w (w.alloc o) := fun o => (Below.refl _ _).alloc (Nat.le_refl _) _
  have hsz : ∀ o, (w.alloc o).heap.size = w.heap.size + 1 := by intro o; simp
  have HB0 := Lib.hid hb0
  have HQ0 := Lib.hid hq0
  have HSZ := Lib.hid hsz
  clear hb0 hq0 hsz
  go_enter Tryz.func56, Tryz.ntmps56
  go_wp2_with fail
  go_loopw [10] (fun s wr => ∃ k : Nat, s = .int .i64 k ∧ k ≤ i ∧ Below (w.heap.size + 1) (w.alloc (.cells #[.int .i64 0, .slice none 0 0] 53)) wr) (fun s _ => n - (intOf s).toNat)
  case atStart => exact ⟨0, rfl, Nat.zero_le _, Below.refl _ _⟩
  case round =>
    obtain ⟨k, rfl, hk, hbw⟩ := hrel
    obtain ⟨wo, hwo⟩ : ∃ z, z = wr := ⟨_, rfl⟩
    subst hwo
    have q4 := (hbw.block w.heap.size (by omega)).trans (HQ0.out _)
    have HWR := Lib.hid ((HB0.out _).trans (hbw.mono (by omega)))
    have HBW := Lib.hid hbw
    have hzo : w.heap.size < wo.heap.size := (Array.getElem?_eq_some_iff.1 q4).1
    have Q4 := Lib.hid q4
    clear hbw q4
    have hlt : k < n := by omega
    obtain ⟨ht, c0, c1, hf⟩ := (HH.out.below HWR.out).2 k hlt
    obtain ⟨ao, m, cp, hfe, hm, hm1⟩ := hf.slice
    have HFE := Lib.hid hfe
    rw [hfe] at c1
    have KU := fun w => Co.under_any (t k) ht of w
    clear hf hfe hm
    have hq1 : ∀ o, (wo.alloc o).heap[wo.heap.size]? = some o := fun o => heap_alloc_new wo o
    have hb1 : ∀ o, Below wo.heap.size wo (wo.alloc o) := fun o => (Below.refl _ _).alloc (Nat.le_refl _) _
    have hsz1 : ∀ o, (wo.alloc o).heap.size = wo.heap.size + 1 := by intro o; simp
    rcases Nat.lt_or_ge k i with hki | hki
    · rw [HNO.out k hki] at KU
      generalize t k = tk at *
      go_wp2_with fail
      refine (KU _).mono ?_
      rintro x w2 ⟨rfl, hb2⟩
      have HB2 := Lib.hid (HBW.out.trans (((hb1 _).trans (hb2.mono (by rw [hsz1]; omega))).mono (by omega)))
      clear hb2 hq1 hb1 hsz1 KU c0 c1
      go_wp2_with fail
      go_roundw
      case rel => exact ⟨k + 1, by first | rfl | go_num | (simp; try omega), by omega, HB2.out⟩
      case measure => simp [intOf]; omega
    · obtain rfl : k = i := by omega
      rw [hyes] at KU
      clear hyes
      go_wp2_with fail
      refine (KU _).mono ?_
      rintro x w2 ⟨rfl, hb2⟩
      have HB2 := Lib.hid ((hb1 _).trans (hb2.mono (by rw [hsz1]; omega)))
      have q5 := (hb2.block wo.heap.size (by rw [hsz1]; omega)).trans (hq1 _)
      have d0 := Co.cell_of q5 0
      have d1 := Co.cell_of q5 1
      have q6 := (HB2.out.block w.heap.size hzo).trans Q4.out
      clear hb2 hq1 hb1 hsz1 KU c0 c1 q5
      obtain ⟨W1, W2, ⟨f0, z0, e0, s0⟩, ⟨f1, z1, e1, s1⟩, q7, hszz, _, hbb⟩ := Dt.put2 q6 (.int .i64 (t k)) (.slice ao m cp)
      have HE := Lib.hid (hbb w.heap.size w (HWR.out.trans (HB2.out.mono (Nat.le_of_lt hzo))) (Nat.le_refl _))
      have r0 := Co.cell_of q7 0
      have r1 := Co.cell_of q7 1
      clear hbb q6 q7 hszz
      go_wp2_with fail
      refine bodyPost_ret (v := .tuple #[.agg #[.int .i64 (t k), .slice ao m cp], .bool true]) ?_ rfl ⟨by rw [HFE.out], HE.out⟩
      simp [results, Tryz.results56, go_sem, r0, r1]
end Go.Proofs.YtikmebkfdpbidaaGreatDoor
namespace Go.Proofs.YtikmebkfdpbidaaGreatDoor
open Go.RowKit
set_option linter.unusedVariables false

def Dt.zero : Array Value := #[.int .i64 0, .int .i64 0, .bool false, .slice none 0 0, .slice none 0 0, .bool false, .slice none 0 0, .slice none 0 0, .string ⟨#[]⟩, .slice none 0 0, .slice none 0 0]
set_option maxHeartbeats 4000000 in
set_option maxRecDepth 1000000 in
theorem Dt.none_any (w : World) : Calls Tryz.prog 134 #[] w fun e w' => e = .returned (Dt.leaf 1 ⟨#[]⟩ (.slice none 0 0)) ∧ Below w.heap.size w w' := by
  unfold Dt.leaf Dt.cells
  go_enter Tryz.func134, Tryz.ntmps134
  go_wp2
  refine bodyPost_ret (v := .agg #[.int .i64 1, .int .i64 0, .bool false, .slice none 0 0, .slice none 0 0, .bool false, .slice none 0 0, .slice none 0 0, .string ⟨#[]⟩, .slice none 0 0, .slice none 0 0]) ?_ rfl ⟨rfl, ?_⟩
  · simp [results, Tryz.results134, go_sem]
  · exact (Below.refl _ _).alloc (Nat.le_refl _) _
set_option maxHeartbeats 4000000 in
set_option maxRecDepth 1000000 in
theorem Dt.join_nil (k : Int) (s : ByteArray) (lst : Value) (hl : ∃ ad cap, lst = .slice ad 0 cap) (w : World) : Calls Tryz.prog 133 #[.slice none 0 0, Dt.leaf k s lst] w fun e w' => e = .returned (Dt.leaf k s lst) ∧ Below w.heap.size w w' := by
  obtain ⟨ad, cap, rfl⟩ := hl
  unfold Dt.leaf Dt.cells
  go_enter Tryz.func133, Tryz.ntmps133
  go_wp2_with fail
  go_loopw [5] (fun i wr => i = .int .i64 (-1) ∧ wr = (w.alloc (.cells #[.int .i64 k, .int .i64 0, .bool false, .slice none 0 0, .slice none 0 0, .bool false, .slice none 0 0, .slice none 0 0, .string s, .slice none 0 0, .slice ad 0 cap] 30)).alloc (.cells #[.int .i64 0, .int .i64 0, .bool false, .slice none 0 0, .slice none 0 0, .bool false, .slice none 0 0, .slice none 0 0, .string ⟨#[]⟩, .slice none 0 0, .slice none 0 0] 30)) (fun _ _ => 0)
  case atStart => exact ⟨rfl, rfl⟩
  case round =>
    obtain ⟨rfl, rfl⟩ := hrel
    go_wp2_with fail
    refine bodyPost_ret (v := .agg #[.int .i64 k, .int .i64 0, .bool false, .slice none 0 0, .slice none 0 0, .bool false, .slice none 0 0, .slice none 0 0, .string s, .slice none 0 0, .slice ad 0 cap]) ?_ rfl ⟨rfl, ?_⟩
    · simp [results, Tryz.results133, go_sem]
    · exact ((Below.refl _ _).alloc (Nat.le_refl _) _).alloc (by simp) _

set_option maxHeartbeats 4000000 in
set_option maxRecDepth 1000000 in
theorem Dt.fit_leaf (k : Int) (s : ByteArray) (lst : Value) (hk : Dt.kindOk k s) (hl : ∃ ad cap, lst = .slice ad 0 cap) (hV : Dt.valid s) (w : World) :
    Calls Tryz.prog 132 #[Dt.leaf k s lst] w fun e w' => (∃ ad cap, e = .returned (.tuple #[Dt.leaf k s (.slice ad 0 cap), .int .i64 0])) ∧ Below w.heap.size w w' := by
  have KS := Lib.hid (fun w => Dt.Sound_leaf k s lst hk hl hV w)
  have KC := Lib.hid (fun w => Dt.Copy_leaf k s lst hk hl w)
  have hn1 : ∀ o o2, ((w.alloc o).alloc o2).heap[w.heap.size + 1]? = some o2 := by
    intro o o2
    have := heap_alloc_new (w.alloc o) o2
    rwa [show (w.alloc o).heap.size = w.heap.size + 1 by simp] at this
  have hn0 : ∀ o o2, ((w.alloc o).alloc o2).heap[w.heap.size]? = some o := by
    intro o o2
    rw [Lib.alloc_old _ _ _ (by simp)]
    exact heap_alloc_new w o
  have hsz : ∀ o o2, ((w.alloc o).alloc o2).heap.size = w.heap.size + 2 := by intro o o2; simp
  have hb0 : ∀ o o2, Below w.heap.size w ((w.alloc o).alloc o2) := fun o o2 => ((Below.refl _ _).alloc (Nat.le_refl _) _).alloc (by simp) _
  unfold Dt.leaf Dt.cells at *
  go_enter Tryz.func132, Tryz.ntmps132
  go_wp2_with fail
  refine (KS.out _).mono ?_
  rintro x w1 ⟨rfl, hb1⟩
  have q1 := (hb1.block w.heap.size (by rw [hsz]; omega)).trans (hn0 _ _)
  have q2 := (hb1.block (w.heap.size + 1) (by rw [hsz]; omega)).trans (hn1 _ _)
  have HB1 := Lib.hid ((hb0 _ _).trans (hb1.mono (by rw [hsz]; omega)))
  have hz1 := hb1.size
  rw [hsz] at hz1
  obtain ⟨c0, c1, c2, c3, c4, c5, c6, c7, c8, c9, c10⟩ := Dt.cells11 q1
  have Q2 := Lib.hid q2
  clear hb1 q1 q2 hn0 hn1 hb0 KS hsz
  go_wp2_with fail
  refine (KC.out _).mono ?_
  rintro x w2 ⟨⟨ad2, cap2, rfl⟩, hb2⟩
  have q2 := (hb2.block (w.heap.size + 1) (by omega)).trans Q2.out
  have HB2 := Lib.hid (HB1.out.trans (hb2.mono (by omega)))
  obtain ⟨f0, z0, f1, z1, f2, z2, f3, z3, f4, z4, f5, z5, f6, z6, f7, z7, f8, z8, f9, z9, f10, z10, q3⟩ := Dt.store11 q2 (.int .i64 k) (.int .i64 0) (.bool false) (.slice none 0 0) (.slice none 0 0) (.bool false) (.slice none 0 0) (.slice none 0 0) (.string s) (.slice none 0 0) (.slice ad2 0 cap2)
  have hend := Dt.below_store11 HB2.out (show w.heap.size ≤ w.heap.size + 1 by omega) (.int .i64 k) (.int .i64 0) (.bool false) (.slice none 0 0) (.slice none 0 0) (.bool false) (.slice none 0 0) (.slice none 0 0) (.string s) (.slice none 0 0) (.slice ad2 0 cap2)
  have HE := Lib.hid hend
  obtain ⟨r0, r1, r2, r3, r4, r5, r6, r7, r8, r9, r10⟩ := Dt.cells11 q3
  clear hb2 q2 q3 c0 c1 c2 c3 c4 c5 c6 c7 c8 c9 c10 hend
  go_wp2_with fail
  refine bodyPost_ret (v := .tuple #[.agg #[.int .i64 k, .int .i64 0, .bool false, .slice none 0 0, .slice none 0 0, .bool false, .slice none 0 0, .slice none 0 0, .string s, .slice none 0 0, .slice ad2 0 cap2], .int .i64 0]) ?_ rfl ⟨⟨_, _, rfl⟩, HE.out⟩
  simp [results, Tryz.results132, go_sem, r0, r1, r2, r3, r4, r5, r6, r7, r8, r9, r10]
end Go.Proofs.YtikmebkfdpbidaaGreatDoor
namespace Go.Proofs.YtikmebkfdpbidaaGreatDoor
open Go.RowKit
set_option linter.unusedVariables false

/-- To halt a walk ahead of the operation that writes a slot. -/
theorem Dt.at_dst (n : Nat) {P : Program} {ops : Array Oper} {Q : Exit → Act → World → Prop} {o : Oper} {rest : List Oper} {a : Act} {w : World} (hd : o.dst = some n) (h : wpList P ops Q (o :: rest) a w) : wpList P ops Q (o :: rest) a w := h
set_option maxHeartbeats 400000 in
set_option maxRecDepth 1000000 in
theorem Dt.Of_nil (w : World) : Calls Tryz.prog 86 #[.slice none 0 0] w fun e w' => (∃ ad cap, e = .returned (Dt.leaf 1 ⟨#[]⟩ (.slice ad 0 cap))) ∧ Below w.heap.size w w' := by
  have hV : Dt.valid ⟨#[]⟩ := fun w => Dt.valid_short [] (by decide) (by simp) w
  have KN := Lib.hid (fun w => Dt.none_any w)
  have KJ := Lib.hid (fun w => Dt.join_nil 1 ⟨#[]⟩ (.slice none 0 0) ⟨_, _, rfl⟩ w)
  have KF := Lib.hid (fun w => Dt.fit_leaf 1 ⟨#[]⟩ (.slice none 0 0) (.inl ⟨rfl, rfl⟩) ⟨_, _, rfl⟩ hV w)
  clear hV
  have hq0 : ∀ o, (w.alloc o).heap[w.heap.size]? = some o := fun o => heap_alloc_new w o
  have hb0 : ∀ o, Below w.heap.size w (w.alloc o) := fun o => (Below.refl _ _).alloc (Nat.le_refl _) _
  have hsz : ∀ o, (w.alloc o).heap.size = w.heap.size + 1 := by intro o; simp
  unfold Dt.leaf Dt.cells at *
  go_enter Tryz.func86, Tryz.ntmps86
  go_wp2_with fail
  refine (KN.out _).mono ?_
  rintro x w1 ⟨rfl, hb1⟩
  have q1 := (hb1.block w.heap.size (by rw [hsz]; omega)).trans (hq0 _)
  have HB1 := Lib.hid ((hb0 _).trans (hb1.mono (by rw [hsz]; omega)))
  have hz1 : w.heap.size < w1.heap.size := (Array.getElem?_eq_some_iff.1 q1).1
  have Q1 := Lib.hid q1
  clear hb1 q1 KN hq0 hb0 hsz
  go_wp2_with fail
  refine (KJ.out _).mono ?_
  rintro x w2 ⟨rfl, hb2⟩
  have q2 := (hb2.block w.heap.size hz1).trans Q1.out
  have HB2 := Lib.hid (HB1.out.trans (hb2.mono (by omega)))
  have hz2 : w.heap.size < w2.heap.size := (Array.getElem?_eq_some_iff.1 q2).1
  have Q2 := Lib.hid q2
  clear hb2 q2 KJ
  go_wp2_with fail
  refine (KF.out _).mono ?_
  rintro x w3 ⟨⟨ad, cap, rfl⟩, hb3⟩
  have q3 := (hb3.block w.heap.size hz2).trans Q2.out
  have HB3 := Lib.hid (HB2.out.trans (hb3.mono (by omega)))
  have hz3 : w.heap.size < w3.heap.size := (Array.getElem?_eq_some_iff.1 q3).1
  clear hb3 KF
  obtain ⟨W1, W2, W3, W4, W5, W6, W7, W8, W9, W10, W11, ⟨f0, z0, e0, s0⟩, ⟨f1, z1, e1, s1⟩, ⟨f2, z2, e2, s2⟩, ⟨f3, z3, e3, s3⟩, ⟨f4, z4, e4, s4⟩, ⟨f5, z5, e5, s5⟩, ⟨f6, z6, e6, s6⟩, ⟨f7, z7, e7, s7⟩, ⟨f8, z8, e8, s8⟩, ⟨f9, z9, e9, s9⟩, ⟨f10, z10, e10, s10⟩, q4, hsz, _, hbb⟩ := Dt.put11 q3 (.int .i64 1) (.int .i64 0) (.bool false) (.slice none 0 0) (.slice none 0 0) (.bool false) (.slice none 0 0) (.slice none 0 0) (.string ⟨#[]⟩) (.slice none 0 0) (.slice ad 0 cap)
  have HE := Lib.hid (hbb w.heap.size w HB3.out (Nat.le_refl _))
  have HSZ := Lib.hid hsz
  clear hbb hsz
  have R : ∀ o, (W11.alloc o).heap[w.heap.size]? = _ := fun o => (Lib.alloc_old _ _ _ (by rw [HSZ.out]; exact hz3)).trans q4
  have R0 := fun o => Dt.cell_of (R o) 0
  have R1 := fun o => Dt.cell_of (R o) 1
  have R2 := fun o => Dt.cell_of (R o) 2
  have R3 := fun o => Dt.cell_of (R o) 3
  have R4 := fun o => Dt.cell_of (R o) 4
  have R5 := fun o => Dt.cell_of (R o) 5
  have R6 := fun o => Dt.cell_of (R o) 6
  have R7 := fun o => Dt.cell_of (R o) 7
  have R8 := fun o => Dt.cell_of (R o) 8
  have R9 := fun o => Dt.cell_of (R o) 9
  have R10 := fun o => Dt.cell_of (R o) 10
  clear q3 q4 R
  go_wp2_with fail
  refine bodyPost_ret (v := .agg #[.int .i64 1, .int .i64 0, .bool false, .slice none 0 0, .slice none 0 0, .bool false, .slice none 0 0, .slice none 0 0, .string ⟨#[]⟩, .slice none 0 0, .slice ad 0 cap]) ?_ rfl ⟨⟨_, _, rfl⟩, HE.out.alloc (by have := HSZ.out; omega) _⟩
  simp [results, Tryz.results86, go_sem, R0, R1, R2, R3, R4, R5, R6, R7, R8, R9, R10]
end Go.Proofs.YtikmebkfdpbidaaGreatDoor
namespace Go.Proofs.YtikmebkfdpbidaaGreatDoor
open Go.RowKit
set_option linter.unusedVariables false

theorem Dt.addr_add (b off j : Nat) : (⟨b, off, none⟩ : Addr).add j = ⟨b, off + j, none⟩ := by
  first | rfl | simp [Addr.add]
theorem Dt.row_at {w : World} {b : Nat} {C : Array Value} {t : TypeId} (h : w.heap[b]? = some (.cells C t (0, 0))) : ∀ (j : Nat) (u : Value), C.toList[j]? = some u → w.cell? ((⟨b, 0, none⟩ : Addr).add j) = some u := by
  intro j u hu
  rw [Dt.addr_add, Nat.zero_add, Dt.cell_of h]
  simpa using hu
/-- One row of eleven cells that the call owns. -/
theorem Dt.own_one {w : World} {B : Nat} {t : TypeId} {v : Value} {a0 a1 a2 a3 a4 a5 a6 a7 a8 a9 a10 : Value} (h : w.ownsRow B t 11 v (0 + 1) ([] ++ [a0, a1, a2, a3, a4, a5, a6, a7, a8, a9, a10])) :
    ∃ g cap, v = .slice (some ⟨g, 0, none⟩) 1 cap ∧ B ≤ g ∧ (w.cell? ⟨g, 0, none⟩ = some a0 ∧ w.cell? ⟨g, 1, none⟩ = some a1 ∧ w.cell? ⟨g, 2, none⟩ = some a2 ∧ w.cell? ⟨g, 3, none⟩ = some a3 ∧ w.cell? ⟨g, 4, none⟩ = some a4 ∧ w.cell? ⟨g, 5, none⟩ = some a5 ∧ w.cell? ⟨g, 6, none⟩ = some a6 ∧ w.cell? ⟨g, 7, none⟩ = some a7 ∧ w.cell? ⟨g, 8, none⟩ = some a8 ∧ w.cell? ⟨g, 9, none⟩ = some a9 ∧ w.cell? ⟨g, 10, none⟩ = some a10) := by
  rcases h.2 with ⟨_, h0⟩ | ⟨g, cap, cur, rfl, hB, hg, hr⟩
  · omega
  · have e := fun j u (hj : ([] ++ [a0, a1, a2, a3, a4, a5, a6, a7, a8, a9, a10])[j]? = some u) => h.cells (g := g) rfl j u hj
    refine ⟨g, cap, rfl, hB, ?_⟩
    simp only [Dt.addr_add, Nat.zero_add] at e
    exact ⟨e 0 _ rfl, e 1 _ rfl, e 2 _ rfl, e 3 _ rfl, e 4 _ rfl, e 5 _ rfl, e 6 _ rfl, e 7 _ rfl, e 8 _ rfl, e 9 _ rfl, e 10 _ rfl⟩
theorem Dt.infoDatum : (Tryz.prog.info? 30).map (fun i => (i.zero, i.size, i.bytes)) = some (some (.agg Dt.zero), 11, 192) := by kernel_rfl

set_option maxHeartbeats 4000000 in
set_option maxRecDepth 1000000 in
theorem Ls.items_nil (lst : Value) (hl : ∃ ad cap, lst = .slice ad 0 cap) (w : World) : Calls Tryz.prog 179 #[Dt.leaf 1 ⟨#[]⟩ lst] w fun e w' => e = .returned (.tuple #[.slice none 0 0, .bool true]) ∧ Below w.heap.size w w' := by
  obtain ⟨ad, cap, rfl⟩ := hl
  have hb0 : ∀ o, Below w.heap.size w (w.alloc o) := fun o => (Below.refl _ _).alloc (Nat.le_refl _) _
  unfold Dt.leaf Dt.cells
  go_enter Tryz.func179, Tryz.ntmps179
  go_wp2_with fail
  go_loopw [2] (fun i wr => i = .slice none 0 0 ∧ wr = w.alloc (.cells #[.int .i64 1, .int .i64 0, .bool false, .slice none 0 0, .slice none 0 0, .bool false, .slice none 0 0, .slice none 0 0, .string ⟨#[]⟩, .slice none 0 0, .slice ad 0 cap] 30)) (fun _ _ => 0)
  case atStart => exact ⟨rfl, rfl⟩
  case round =>
    obtain ⟨rfl, rfl⟩ := hrel
    go_wp2_with fail
    go_quiet (fail)
    have HB := Lib.hid (below_drewN (hb0 (.cells #[.int .i64 1, .int .i64 0, .bool false, .slice none 0 0, .slice none 0 0, .bool false, .slice none 0 0, .slice none 0 0, .string ⟨#[]⟩, .slice none 0 0, .slice ad 0 cap] 30)) nq)
    go_wp2
    go_ret2
    exact ⟨rfl, HB.out⟩
set_option maxHeartbeats 4000000 in
set_option maxRecDepth 1000000 in
theorem Ls.read_nil (lst : Value) (hl : ∃ ad cap, lst = .slice ad 0 cap) (w : World) : Calls Tryz.prog 135 #[Dt.leaf 1 ⟨#[]⟩ lst, .slice none 0 0] w fun e w' => e = .returned (.tuple #[.slice none 0 0, .int .i64 0]) ∧ Below w.heap.size w w' := by
  have hV : Dt.valid ⟨#[]⟩ := fun w => Dt.valid_short [] (by decide) (by simp) w
  have KS := Lib.hid (fun w => Dt.Sound_leaf 1 ⟨#[]⟩ lst (.inl ⟨rfl, rfl⟩) hl hV w)
  have KI := Lib.hid (fun w => Ls.items_nil lst hl w)
  clear hV
  obtain ⟨i0, hi, hz0, hz1, hz2⟩ := info_parts Dt.infoDatum
  obtain ⟨ad, cap, rfl⟩ := hl
  have hq0 : ∀ o, (w.alloc o).heap[w.heap.size]? = some o := fun o => heap_alloc_new w o
  have hb0 : ∀ o, Below w.heap.size w (w.alloc o) := fun o => (Below.refl _ _).alloc (Nat.le_refl _) _
  have hsz : ∀ o, (w.alloc o).heap.size = w.heap.size + 1 := by intro o; simp
  have hq1 : ∀ o o2, ((w.alloc o).alloc o2).heap[w.heap.size + 1]? = some o2 := by
    intro o o2
    have := heap_alloc_new (w.alloc o) o2
    rwa [hsz] at this
  have hq2 : ∀ o o2, ((w.alloc o).alloc o2).heap[w.heap.size]? = some o := fun o o2 => (Lib.alloc_old _ _ _ (by rw [hsz]; omega)).trans (hq0 o)
  have hb1 : ∀ o o2, Below w.heap.size w ((w.alloc o).alloc o2) := fun o o2 => (hb0 o).alloc (by rw [hsz]; omega) _
  have hown : ∀ o o2, ((w.alloc o).alloc o2).ownsRow (w.heap.size + 1) 30 11 (.slice none 0 0) 0 [] := fun o o2 => ⟨by simp, .inl ⟨rfl, rfl⟩⟩
  unfold Dt.leaf Dt.cells at *
  go_enter Tryz.func135, Tryz.ntmps135
  go_wp2_with (at_builtin; refine wpList_append_own _ rfl _ _ 28 rfl (w.heap.size + 1) 30 i0 (.agg Dt.zero) 11 192 Tryz.underlying28 hi hz0 hz1 hz2 rfl (by decide) _ _ _ rfl (hown _ _) ⟨w.heap.size + 1, 0, none⟩ 1 1 [.int .i64 1, .int .i64 0, .bool false, .slice none 0 0, .slice none 0 0, .bool false, .slice none 0 0, .slice none 0 0, .string ⟨#[]⟩, .slice none 0 0, .slice ad 0 cap] rfl rfl (Dt.row_at (hq1 _ _)) ?c2 ?c3 ?c4 ?c5 ?_)
  case c2 => intro u hu; simp only [List.mem_cons, List.not_mem_nil, or_false] at hu; rcases hu with rfl | rfl | rfl | rfl | rfl | rfl | rfl | rfl | rfl | rfl | rfl <;> rfl
  case c3 => unfold maxLen; omega
  case c4 => omega
  case c5 => simp
  intro v' w1 hown' hgrow _
  obtain ⟨g, cp, rfl, hBg, c0, c1, c2, c3, c4, c5, c6, c7, c8, c9, c10⟩ := Dt.own_one hown'
  have HB1 := Lib.hid ((hb1 _ _).grown hgrow (by simp; omega) (fun k hk => by cases hk))
  have q0 := (hgrow.block w.heap.size (by simp; omega) (by simp [Value.ownBlock])).trans (hq2 _ _)
  have hz1 : w.heap.size < w1.heap.size := (Array.getElem?_eq_some_iff.1 q0).1
  have hgl : g < w1.heap.size := World.block_lt_of_cell? w1 _ c0
  have Q0 := Lib.hid q0
  clear hown' hgrow hown hq0 hq1 hq2 hb1 hb0 hsz q0
  go_wp2_with fail
  go_loopw [15] (fun i wr => ∃ j : Nat, i = .int .i64 j ∧ j ≤ 1 ∧ Below w1.heap.size w1 wr) (fun i _ => 1 - (intOf i).toNat)
  case atStart => exact ⟨0, rfl, Nat.zero_le _, Below.refl _ _⟩
  case round =>
    obtain ⟨j, rfl, hj, hbz⟩ := hrel
    obtain ⟨wo, hwo⟩ : ∃ z, z = wr := ⟨_, rfl⟩
    subst hwo
    have hzz := hbz.size
    by_cases hj0 : j = 0
    · subst hj0
      have c0 := (hbz.cell (p := ⟨g, 0, none⟩) hgl).trans c0
      have c1 := (hbz.cell (p := ⟨g, 1, none⟩) hgl).trans c1
      have c2 := (hbz.cell (p := ⟨g, 2, none⟩) hgl).trans c2
      have c3 := (hbz.cell (p := ⟨g, 3, none⟩) hgl).trans c3
      have c4 := (hbz.cell (p := ⟨g, 4, none⟩) hgl).trans c4
      have c5 := (hbz.cell (p := ⟨g, 5, none⟩) hgl).trans c5
      have c6 := (hbz.cell (p := ⟨g, 6, none⟩) hgl).trans c6
      have c7 := (hbz.cell (p := ⟨g, 7, none⟩) hgl).trans c7
      have c8 := (hbz.cell (p := ⟨g, 8, none⟩) hgl).trans c8
      have c9 := (hbz.cell (p := ⟨g, 9, none⟩) hgl).trans c9
      have c10 := (hbz.cell (p := ⟨g, 10, none⟩) hgl).trans c10
      have HBZ := Lib.hid hbz
      have hb0 : ∀ o, Below wo.heap.size wo (wo.alloc o) := fun o => (Below.refl _ _).alloc (Nat.le_refl _) _
      clear hbz
      go_wp2_with fail
      refine (KS.out _).mono ?_
      rintro x w5 ⟨rfl, hb5⟩
      have HB5 := Lib.hid (HBZ.out.trans (((hb0 _).trans (hb5.mono (by simp))).mono hzz))
      clear hb5 hb0 c0 c1 c2 c3 c4 c5 c6 c7 c8 c9 c10
      go_wp2_with fail
      go_roundw
      case rel => exact ⟨1, by first | rfl | go_num | simp, Nat.le_refl _, HB5.out⟩
      case measure => simp [intOf]
    · obtain rfl : j = 1 := by omega
      have q1 := (hbz.block w.heap.size hz1).trans Q0.out
      obtain ⟨e0, e1, e2, e3, e4, e5, e6, e7, e8, e9, e10⟩ := Dt.cells11 q1
      have HBZ := Lib.hid (HB1.out.trans (hbz.mono (Nat.le_of_lt hz1)))
      clear hbz q1 c0 c1 c2 c3 c4 c5 c6 c7 c8 c9 c10
      go_wp2_with fail
      refine (KI.out _).mono ?_
      rintro x w6 ⟨rfl, hb6⟩
      have HB6 := Lib.hid (HBZ.out.trans (hb6.mono (by omega)))
      clear hb6
      go_wp2_with fail
      go_ret2
      exact ⟨rfl, HB6.out⟩
set_option maxHeartbeats 4000000 in
set_option maxRecDepth 1000000 in
theorem Ls.Items_nil (lst : Value) (hl : ∃ ad cap, lst = .slice ad 0 cap) (w : World) : Calls Tryz.prog 88 #[Dt.leaf 1 ⟨#[]⟩ lst] w fun e w' => e = .returned (.tuple #[.slice none 0 0, .int .i64 0]) ∧ Below w.heap.size w w' := by
  have KR := Lib.hid (fun w => Ls.read_nil lst hl w)
  obtain ⟨ad, cap, rfl⟩ := hl
  have hb0 : ∀ o, Below w.heap.size w (w.alloc o) := fun o => (Below.refl _ _).alloc (Nat.le_refl _) _
  unfold Dt.leaf Dt.cells at *
  go_enter Tryz.func88, Tryz.ntmps88
  go_wp2_with fail
  refine (KR.out _).mono ?_
  rintro x w1 ⟨rfl, hb1⟩
  have HB1 := Lib.hid ((hb0 _).trans (hb1.mono (by simp)))
  clear hb1 hb0 KR
  go_wp2_with fail
  go_loopw [15] (fun i wr => i = .int .i64 0 ∧ wr = w1) (fun _ _ => 0)
  case atStart => exact ⟨rfl, rfl⟩
  case round =>
    obtain ⟨rfl, rfl⟩ := hrel
    go_wp2_with fail
    go_ret2
    exact ⟨rfl, HB1.out⟩
end Go.Proofs.YtikmebkfdpbidaaGreatDoor
