/-
  cond.Check and cond.first of a condition whose parts hold no field, or one leaf.
-/
import Derived.Test.YthcdkhegdlbdiaaGreatDoorCoFind
import Derived.Test.YthcdkhegdlbdiaaGreatDoorDtCopy
namespace Go.Proofs.YthcdkhegdlbdiaaGreatDoor
open Go.RowKit
set_option linter.unusedVariables false

/-- How many fields a type has, its parents' among them. -/
def Co.nfu : Nat → Int → Int
  | 0, _ => 0
  | n + 1, t => if t < 0 then 0 else Co.fld t.toNat + Co.nfu n (Co.par t.toNat)
def Co.nf (t : Nat) : Int := Co.nfu 20 t
theorem Co.nfu_stop (n : Nat) (t : Int) (h : t < 0) : Co.nfu n t = 0 := by
  cases n with
  | zero => rfl
  | succ n => rw [Co.nfu, if_pos h]
theorem Co.nfu_step (n : Nat) (t : Int) (h : ¬ t < 0) : Co.nfu (n + 1) t = Co.fld t.toNat + Co.nfu n (Co.par t.toNat) := by
  rw [Co.nfu, if_neg h]
theorem Co.fld_le : ∀ k, k < 20 → 0 ≤ Co.fld k ∧ Co.fld k ≤ 2 := by
  intro k hk
  rcases (show k = 0 ∨ k = 1 ∨ k = 2 ∨ k = 3 ∨ k = 4 ∨ k = 5 ∨ k = 6 ∨ k = 7 ∨ k = 8 ∨ k = 9 ∨ k = 10 ∨ k = 11 ∨ k = 12 ∨ k = 13 ∨ k = 14 ∨ k = 15 ∨ k = 16 ∨ k = 17 ∨ k = 18 ∨ k = 19 by omega) with rfl | rfl | rfl | rfl | rfl | rfl | rfl | rfl | rfl | rfl | rfl | rfl | rfl | rfl | rfl | rfl | rfl | rfl | rfl | rfl
  all_goals decide

/-- The fields of a part of a type: none, or a leaf. -/
def Co.Fld (w : World) (B : Nat) (t : Nat) (f : Value) : Prop :=
  (f = .slice none 0 0 ∧ Co.nf t = 0) ∨ (Co.nf t = 1 ∧ ∃ b k s ad cap, b < B ∧ f = .slice (some ⟨b, 0, none⟩) 1 1 ∧ w.heap[b]? = some (.cells (Dt.cells k s (.slice ad 0 cap)) 49 (0, 0)) ∧ Dt.kindOk k s ∧ Dt.valid s)
/-- A condition's parts, in memory that lies below B. -/
def Co.At (w : World) (B a n : Nat) (t : Nat → Nat) (f : Nat → Value) : Prop :=
  a < B ∧ ∀ i, i < n → t i < 20 ∧ w.cell? ⟨a, i * 2, none⟩ = some (.int .i64 (t i)) ∧ w.cell? ⟨a, i * 2 + 1, none⟩ = some (f i) ∧ Co.Fld w B (t i) (f i)
theorem Co.Fld.below {w w' : World} {B t : Nat} {f : Value} (h : Co.Fld w B t f) (hb : Below B w w') : Co.Fld w' B t f := by
  rcases h with h | ⟨h1, b, k, s, ad, cap, hlt, hf, hh, r⟩
  · exact .inl h
  · exact .inr ⟨h1, b, k, s, ad, cap, hlt, hf, (hb.block b hlt).trans hh, r⟩
theorem Co.At.below {w w' : World} {B a n : Nat} {t : Nat → Nat} {f : Nat → Value} (h : Co.At w B a n t f) (hb : Below B w w') : Co.At w' B a n t f :=
  ⟨h.1, fun i hi => ⟨(h.2 i hi).1, (hb.cell (p := ⟨a, i * 2, none⟩) h.1).trans (h.2 i hi).2.1, (hb.cell (p := ⟨a, i * 2 + 1, none⟩) h.1).trans (h.2 i hi).2.2.1, (h.2 i hi).2.2.2.below hb⟩⟩

theorem Co.Fld.slice {w : World} {B t : Nat} {f : Value} (h : Co.Fld w B t f) : ∃ ao n cap, f = .slice ao n cap ∧ Co.nf t = n ∧ n ≤ 1 := by
  rcases h with ⟨rfl, h⟩ | ⟨h, b, k, s, ad, cap, _, rfl, _⟩
  · exact ⟨none, 0, 0, rfl, h, by omega⟩
  · exact ⟨_, 1, 1, rfl, h, by omega⟩

set_option maxHeartbeats 4000000 in
set_option maxRecDepth 1000000 in
theorem Co.Check_ok (a n cap : Nat) (hn : n ≤ 16) (t : Nat → Nat) (f : Nat → Value) (w : World) (h : Co.At w w.heap.size a n t f) :
    Calls Tryz.prog 20 #[.slice (some ⟨a, 0, none⟩) n cap] w fun e w' => e = .returned (.int .i64 0) ∧ Below w.heap.size w w' := by
  have HH := Lib.hid h; clear h
  have hn16 : ¬ ((n : Int) > 16) := by omega
  go_enter Tryz.func20, Tryz.ntmps20
  go_wp2_with fail
  refine (Co.kinds_any _).mono ?_
  rintro x w1 ⟨rfl, hg, hb1⟩
  have HB1 := Lib.hid hb1
  have HG := Lib.hid hg
  have hz1 : w.heap.size < w1.heap.size := (Array.getElem?_eq_some_iff.1 hg).1
  clear hb1 hg
  go_wp2_with fail
  go_loopw [18] (fun i wr => ∃ k : Nat, i = .int .i64 k ∧ k ≤ n ∧ Below w1.heap.size w1 wr) (fun i _ => n - (intOf i).toNat)
  case atStart => exact ⟨0, rfl, Nat.zero_le _, Below.refl _ _⟩
  case round =>
    obtain ⟨k, rfl, hk, hbw⟩ := hrel
    obtain ⟨wo, hwo⟩ : ∃ z, z = wr := ⟨_, rfl⟩
    subst hwo
    have HBW := Lib.hid hbw
    have hzw := hbw.size
    have HWR := Lib.hid (HB1.out.trans (hbw.mono (Nat.le_of_lt hz1)))
    clear hbw
    by_cases hlt : k < n
    · obtain ⟨ht, c0, c1, hf⟩ := (HH.out.below HWR.out).2 k hlt
      have HF := Lib.hid hf
      obtain ⟨ao, m, cp, hfe, hm, hm1⟩ := hf.slice
      have HFE := Lib.hid hfe
      rw [hfe] at c1
      have KF := fun w => Co.find_in (t k) ht w
      have HM := Lib.hid hm
      clear hf hfe hm
      have hq0 : ∀ o, (wo.alloc o).heap[wo.heap.size]? = some o := fun o => heap_alloc_new wo o
      have hb0 : ∀ o, Below wo.heap.size wo (wo.alloc o) := fun o => (Below.refl _ _).alloc (Nat.le_refl _) _
      have hsz : ∀ o, (wo.alloc o).heap.size = wo.heap.size + 1 := by intro o; simp
      generalize t k = tk at *
      go_wp2_with fail
      refine (KF _).mono ?_
      rintro x w2 ⟨rfl, hb2⟩
      have q2 := (hb2.block wo.heap.size (by rw [hsz]; omega)).trans (hq0 _)
      have HB2 := Lib.hid ((hb0 _).trans (hb2.mono (by rw [hsz]; omega)))
      have hz2 : wo.heap.size < w2.heap.size := (Array.getElem?_eq_some_iff.1 q2).1
      have d0 := Co.cell_of q2 0
      have d1 := Co.cell_of q2 1
      clear hb2 hq0 hb0 hsz KF c0 c1
      go_wp2_with fail
      have HGW : Hid (w2.heap[w.heap.size]? = some (.cells Co.cells 35 (0, 0))) := Lib.hid ((HB2.out.block _ (by omega)).trans ((HBW.out.block _ hz1).trans HG.out))
      have Q2 := Lib.hid q2
      have hb0 : ∀ o, Below w2.heap.size w2 (w2.alloc o) := fun o => (Below.refl _ _).alloc (Nat.le_refl _) _
      have hnf := (rfl : Co.nf tk = Co.nfu 20 tk)
      have HNF := Lib.hid hnf
      clear hnf d0 d1 q2
      go_loopw [8, 9] (fun a i wq => ∃ (q : Nat) (s u : Int), a = .int .i64 s ∧ i = .int .i64 u ∧ -1 ≤ u ∧ u < q ∧ q ≤ 20 ∧ s + Co.nfu q u = Co.nf tk ∧ 0 ≤ s ∧ s ≤ 2 * (20 - q) ∧ Below w2.heap.size w2 wq) (fun _ i _ => (intOf i + 1).toNat)
      case atStart => exact ⟨20, 0, tk, rfl, rfl, by omega, by omega, Nat.le_refl _, (Int.zero_add _).trans HNF.out.symm, Int.le_refl _, by omega, hb0 _⟩
      case round =>
        obtain ⟨q, s, u, rfl, rfl, hu1, huq, hq, hs, hs0, hs1, hbq⟩ := hrel
        have HBQ := Lib.hid hbq
        clear hbq
        by_cases hu : u < 0
        · have hu2 : ¬ (u ≥ 0) := by omega
          rw [Co.nfu_stop _ _ hu, Int.add_zero, HM.out] at hs
          subst hs
          have q3 := (HBQ.out.block wo.heap.size hz2).trans Q2.out
          have e0 := Co.cell_of q3 0
          have e1 := Co.cell_of q3 1
          clear hs0 hs1 huq
          have hzq := HBQ.out.size
          have HWQ := Lib.hid (HWR.out.trans ((HB2.out.trans (HBQ.out.mono (Nat.le_of_lt hz2))).mono (Nat.le_trans (Nat.le_of_lt hz1) hzw)))
          clear q3
          go_wp2_with fail
          obtain ⟨wp, hwp⟩ : ∃ z, z = wr := ⟨_, rfl⟩
          subst hwp
          have hm0 : Hid (m = 0 ∨ m = 1) := Lib.hid (by omega)
          clear e0 e1
          go_loopw [54] (fun i wz => ∃ j : Nat, i = .int .i64 j ∧ j ≤ m ∧ Below wp.heap.size wp wz) (fun i _ => m - (intOf i).toNat)
          case atStart => exact ⟨0, rfl, Nat.zero_le _, Below.refl _ _⟩
          case round =>
            obtain ⟨j, rfl, hj, hbz⟩ := hrel
            have HBZ := Lib.hid hbz
            have hzz := hbz.size
            clear hbz
            by_cases hjm : j < m
            · obtain rfl : j = 0 := by omega
              rcases HF.out.below ((HB2.out.trans ((HBQ.out.trans (HBZ.out.mono hzq)).mono (Nat.le_of_lt hz2))).mono (by omega)) with ⟨hf, _⟩ | ⟨_, b, kd, sd, ad, cap, hlt2, hf, hh, hkd, hvd⟩
              · have := HFE.out.symm.trans hf
                simp only [Value.slice.injEq] at this
                omega
              · have := HFE.out.symm.trans hf
                simp only [Value.slice.injEq] at this
                obtain ⟨rfl, hm9, rfl⟩ := this
                have HM9 := Lib.hid hm9
                clear hm9
                have KS := Lib.hid (fun w => Dt.Sound_leaf kd sd (.slice ad 0 cap) hkd ⟨_, _, rfl⟩ hvd w)
                unfold Dt.cells at hh
                obtain ⟨c0, c1, c2, c3, c4, c5, c6, c7, c8, c9, c10⟩ := Dt.cells11 hh
                have hb0 : ∀ o, Below wr.heap.size wr (wr.alloc o) := fun o => (Below.refl _ _).alloc (Nat.le_refl _) _
                clear hh hkd hvd hf
                unfold Dt.leaf Dt.cells at KS
                go_wp2_with fail
                refine (KS.out _).mono ?_
                rintro x w5 ⟨rfl, hb5⟩
                have HB5 := Lib.hid (HBZ.out.trans (((hb0 _).trans (hb5.mono (by simp))).mono hzz))
                clear hb5 hb0 KS c0 c1 c2 c3 c4 c5 c6 c7 c8 c9 c10
                go_wp2_with fail
                go_roundw
                case rel => exact ⟨1, by first | rfl | go_num | simp, by omega, HB5.out⟩
                case measure => simp [intOf]; omega
            · obtain rfl : j = m := by omega
              have HEND := Lib.hid (show Below w1.heap.size w1 wr from HBW.out.trans ((HB2.out.trans ((HBQ.out.trans (HBZ.out.mono hzq)).mono (Nat.le_of_lt hz2))).mono hzw))
              go_wp2_with fail
              go_roundw
              case rel => exact ⟨k + 1, by first | rfl | go_num | (simp; try omega), by omega, HEND.out⟩
              case measure => simp [intOf]; omega
        · obtain ⟨v, rfl⟩ : ∃ v : Nat, u = v := ⟨u.toNat, by omega⟩
          obtain ⟨q, rfl⟩ : ∃ z : Nat, q = z + 1 := ⟨q - 1, by omega⟩
          rw [Co.nfu_step _ _ (by omega), Int.toNat_natCast] at hs
          obtain ⟨p1, p2⟩ := Co.par_lt v (by omega)
          obtain ⟨l1, l2⟩ := Co.fld_le v (by omega)
          obtain ⟨c0, c1, c2⟩ := Co.kind_cells ((HBQ.out.block _ (by omega)).trans HGW.out) v (by omega)
          have h3 : (v : Int) ≥ 0 := by omega
          have h4 : v < 20 := by omega
          have h5 : s + Co.fld v ≤ 40 := by omega
          have HA := Lib.hid (And.intro huq (And.intro hq (And.intro hs (And.intro hs0 hs1))))
          clear huq hq hs hs1 hu1 hu
          go_wp2_with fail
          go_roundw
          case rel =>
            obtain ⟨a1, a2, a3, a4, a5⟩ := HA.out
            exact ⟨q, s + Co.fld v, Co.par v, rfl, rfl, p1, by omega, by omega, by rw [← a3]; omega, by omega, by omega, HBQ.out⟩
          case measure => simp [intOf]; omega
    · go_wp2_with fail
      go_ret
      exact ⟨rfl, HWR.out⟩
end Go.Proofs.YthcdkhegdlbdiaaGreatDoor
