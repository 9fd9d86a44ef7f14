/-
  The walk of sextantref06.utf16, where the bytes begin in one of three ways: way A.
-/
import Derived.Test.YtdpbpkggbgfkgaaDoorCdRef16
namespace Go.Proofs.YtdpbpkggbgfkgaaDoor
open Go.RowKit
set_option linter.unusedVariables false

set_option maxHeartbeats 8000000 in
set_option maxRecDepth 1000000 in
theorem Cd.ref16_A (s : ByteArray) (w : World) (b off cap : Nat) (hs0 : 0 < s.size) (hbs : 2 ≤ s.size ∧ Cd.byt s 0 = 254 ∧ Cd.byt s 1 = 255) (hs : s.size ≤ 1099511627000) (hb : b < w.heap.size) (hc : ∀ j, j < s.size → w.cell? ⟨b, off + j, none⟩ = some (.int .u8 (Cd.byt s j))) :
    Calls Tryd.prog 41 #[.slice (some ⟨b, off, none⟩) s.size cap] w fun x w' => ∃ v, x = .returned v ∧ w'.ownsRow w.heap.size 54 3 v ((Cd.wideU s 0 2).map Cd.refU).length (Cd.cellsU ((Cd.wideU s 0 2).map Cd.refU)) ∧ Below w.heap.size w w' := by
  obtain ⟨i0, hi, hz0, hz1, hz2⟩ := info_parts Cd.infoRune4
  obtain ⟨i1, hj, hy0, hy1, hy2⟩ := info_parts Cd.infoUnitW
  have c0 : w.cell? ⟨b, off, none⟩ = some (.int .u8 (Cd.byt s 0)) := hc 0 hs0
  have cI : 2 ≤ s.size → w.cell? ⟨b, off + 1, none⟩ = some (.int .u8 (Cd.byt s 1)) := fun h => hc 1 (by omega)
  have HC := Lib.hid hc; clear hc
  obtain ⟨h2, hx, hy⟩ := hbs
  rw [hx] at c0
  have c1 := cI h2
  rw [hy] at c1
  clear hx hy cI
  go_enter Tryd.func41, Tryd.ntmps41
  go_wp2
  go_loopw [6, 8] (fun v i wr => ∃ (k j : Nat) (ns : List Int), i = .int .i64 k ∧ k = 2 + 2 * j ∧ k ≤ s.size + 1 ∧ (k ≤ s.size ∨ k = 2) ∧ ns.length = j ∧ (∀ q, q < j → ns.getD q 0 = Cd.num s 0 (2 + 2 * q)) ∧ ¬ v = .slice none 0 0 ∧ wr.ownsRow (w.heap.size + 1) 21 1 v ns.length (ns.map (Value.int .i32)) ∧ Below (w.heap.size + 1) (Cd.w1 w) wr) (fun _ i _ => s.size + 2 - (intOf i).toNat)
  case atStart => exact ⟨2, 0, [], rfl, rfl, by omega, .inr rfl, rfl, fun q hq => absurd hq (by omega), by simp, by have := Cd.own_emptyW (Cd.w1 w) 21 1; rw [Cd.w1_size] at this; exact this, (Below.refl _ (Cd.w1 w)).alloc (by rw [Cd.w1_size]; omega) _⟩
  case round =>
    obtain ⟨k, j, ns, rfl, hkj, hk, hkk, hnl, hns, hnn, hown, hbw⟩ := hrel
    have HKJ := Lib.hid hkj; clear hkj
    have HKK := Lib.hid hkk; clear hkk
    have hnle : ns.length ≤ s.size + 1 := by have := HKJ.out; omega
    have hsw := hbw.size
    rw [Cd.w1_size] at hsw
    by_cases hlt : k + 1 < s.size
    · have hcw : ∀ j, j < s.size → wr.cell? ⟨b, off + j, none⟩ = some (.int .u8 (Cd.byt s j)) := fun j hj => (hbw.cell (p := ⟨b, off + j, none⟩) (by show b < _; omega)).trans ((Cd.w1_past w hb).trans (HC.out j hj))
      have c0 := hcw k (by omega)
      have c1 := hcw (k + 1) (by omega)
      have hnum : Cd.num s 0 k = Cd.byt s k * 256 + Cd.byt s (k + 1) := by rw [Cd.num_in s _ k (by omega)]; rfl
      have d0 := Cd.byt_bd s k
      have d1 := Cd.byt_bd s (k + 1)
      clear hcw
      generalize Cd.byt s k = x at *
      generalize Cd.byt s (k + 1) = y at *
      have HNUM := Lib.hid hnum; clear hnum
      have HNS := Lib.hid hns; clear hns
      have HNL := Lib.hid hnl; clear hnl
      go_wp2
      go_quiet (fail)
      have hownD : (wr.drewN nq).ownsRow (w.heap.size + 1) 21 1 u6 ns.length (ns.map (Value.int .i32)) := hown
      have hbwD := below_drewN hbw nq
      have c0D : (wr.drewN nq).cell? ⟨b, off + k, none⟩ = _ := c0
      have c1D : (wr.drewN nq).cell? ⟨b, off + (k + 1), none⟩ = _ := c1
      have hszD : w.heap.size + 1 ≤ (wr.drewN nq).heap.size := hsw
      clear hown hbw c0 c1
      generalize wr.drewN nq = wd at *
      go_wp2_with (at_builtin; refine wpList_append_own _ rfl _ _ 47 rfl (w.heap.size + 1) 21 i0 (.int .i32 0) 1 4 Tryd.underlying47 hi hz0 hz1 hz2 rfl (by decide) _ _ _ rfl (hownD.alloc _) ⟨wd.heap.size, 0, none⟩ 1 1 [.int .i32 (x * 256 + y)] rfl rfl (Sl.one_new _ _ _) ?c2 ?c3 ?c4 ?c5 ?_)
      case c2 => first | rfl | (intro u hu; simp at hu; subst hu; rfl)
      case c3 => unfold maxLen; omega
      case c4 => omega
      case c5 => first | omega | (simp; omega)
      intro v' w1 hown' hgrow hnil'
      have hbw3 := Cd.below_ownW (hbwD.alloc (by omega) _) (hownD.alloc _) hgrow (Nat.le_refl _) (by simp; omega)
      have hnn' : ¬ v' = .slice none 0 0 := hnil'
      clear hownD hgrow hbwD hnil' c0D c1D
      have HNN := Lib.hid hnn'; clear hnn' hnn
      go_wp2
      go_roundw
      case rel =>
        have hkj := HKJ.out
        have hnl := HNL.out
        refine ⟨k + 2, j + 1, ns ++ [x * 256 + y], by first | rfl | go_num, by omega, by omega, .inl (by omega), by rw [List.length_append]; show ns.length + 1 = _; omega, ?_, HNN.out, by simpa using hown', hbw3⟩
        intro q hq
        by_cases hqj : q < j
        · rw [Cd.getD_old _ _ _ (by omega)]
          exact HNS.out q hqj
        · obtain rfl : q = j := by omega
          subst hnl
          rw [Cd.getD_new, ← hkj, HNUM.out]
      case measure => simp [intOf]; omega
    · have HNS := Lib.hid hns; clear hns
      have HNL := Lib.hid hnl; clear hnl
      obtain ⟨g, cap2, cur, rfl, hg1, hg2⟩ := Cd.own_some hown hnn
      have hcN : ∀ q, q < ns.length → wr.cell? ⟨g, q, none⟩ = some (.int .i32 (ns.getD q 0)) := by
        intro q hq
        have := hown.cells (g := g) rfl q (.int .i32 (ns.getD q 0)) (by simp [hq])
        rw [Sl.addr_add, Nat.zero_add] at this
        exact this
      have hown3 : wr.ownsRow w.heap.size 54 3 (.slice (some ⟨w.heap.size, 0, none⟩) 0 0) 0 [] := Cd.own_below3 (Cd.own_emptyW w 54 3) hbw (by simp)
      have hbw0 : Below w.heap.size w wr := ((Below.refl w.heap.size w).alloc (Nat.le_refl _) _).trans (hbw.mono (by omega))
      have HCN := Lib.hid hcN; clear hcN hown hnn hbw
      obtain ⟨wo, hwo⟩ : ∃ wo : World, wo = wr := ⟨_, rfl⟩
      subst hwo
      have HG0 := Lib.hid hg2; clear hg2
      have HKS : Hid (k ≤ s.size) := Lib.hid (by have := HKK.out; omega)
      go_wp2
      go_loopw [3, 10] (fun v i wz => ∃ (q : Nat) (us : List (Int × Bool × Int)), i = .int .i64 q ∧ q ≤ j ∧ us ++ (Cd.wideU s 0 (2 + 2 * q)).map Cd.refU = (Cd.wideU s 0 2).map Cd.refU ∧ us.length ≤ q ∧ wz.ownsRow w.heap.size 54 3 v us.length (Cd.cellsU us) ∧ Below w.heap.size w wz ∧ wz.heap[g]? = some (.cells cur 21 (0, 0))) (fun _ i _ => j - (intOf i).toNat)
      case atStart => exact ⟨0, [], rfl, Nat.zero_le _, by simp, by simp, hown3, hbw0, HG0.out⟩
      case round =>
        obtain ⟨q, us, rfl, hqj, hacc, hul, hown, hbz, hgb⟩ := hrel
        have HACC := Lib.hid hacc; clear hacc
        have hsz := hbz.size
        have hjb : j ≤ s.size + 1 := by have := HNL.out; omega
        by_cases hq : q < j
        · have hcc : ∀ x, wr.cell? ⟨g, x, none⟩ = wo.cell? ⟨g, x, none⟩ := fun x => Cd.cell_block (hgb.trans HG0.out.symm)
          have c0 := (hcc q).trans (HCN.out q (by rw [HNL.out]; exact hq))
          have c1 : q + 1 < j → wr.cell? ⟨g, q + 1, none⟩ = some (.int .i32 (ns.getD (q + 1) 0)) := fun h => (hcc (q + 1)).trans (HCN.out (q + 1) (by rw [HNL.out]; exact h))
          clear hcc
          have n0 := HNS.out q hq
          have n1 : q + 1 < j → ns.getD (q + 1) 0 = Cd.num s 0 (2 + 2 * q + 2) := fun h => HNS.out (q + 1) h
          have n2 : q + 1 = j → Cd.num s 0 (2 + 2 * q + 2) = -1 := fun h => Cd.num_out s _ _ (by have := HKJ.out; omega)
          have hin : 2 + 2 * q + 2 ≤ s.size := by have := HKJ.out; have := HKS.out; omega
          have d0 : 0 ≤ Cd.num s 0 (2 + 2 * q) ∧ Cd.num s 0 (2 + 2 * q) ≤ 65535 := by
            rw [Cd.num_in s _ _ hin]
            have := Cd.byt_bd s (2 + 2 * q + 0)
            have := Cd.byt_bd s (2 + 2 * q + 1 - 0)
            omega
          have d1 := Cd.num_bd s 0 (2 + 2 * q + 2)
          rw [n0] at c0
          have hlt : 2 + 2 * q < s.size := by omega
          have HG := Lib.hid (Cd.wref_good s 0 (2 + 2 * q) hlt)
          have HB := Lib.hid (Cd.wref_bad s 0 (2 + 2 * q) hlt)
          have HP := Lib.hid (Cd.wref_pair s 0 (2 + 2 * q) hlt)
          have HC1 := Lib.hid c1; clear c1
          have HN1 := Lib.hid n1; clear n1
          have HN2 := Lib.hid n2; clear n2
          have hnl : ns.length = j := HNL.out
          clear n0
          generalize Cd.num s 0 (2 + 2 * q) = r at *
          generalize Cd.num s 0 (2 + 2 * q + 2) = r2 at *
          have hjn : (j : Int) ≤ ns.length ∧ (ns.length : Int) ≤ j := by omega
          clear hnl
          rcases (show (r < 55296 ∨ 57343 < r) ∨ (55296 ≤ r ∧ r ≤ 56319 ∧ q + 1 < j) ∨ (55296 ≤ r ∧ r ≤ 56319 ∧ q + 1 = j) ∨ (56320 ≤ r ∧ r ≤ 57343) by omega) with h1 | ⟨h1, h2, h3⟩ | ⟨h1, h2, h3⟩ | ⟨h1, h2⟩
          · rcases h1 with h1 | h1
            all_goals
              have hst := HG.out r r2 rfl rfl (by unfold Cd.pair; omega) (by omega)
              have HST := Lib.hid hst; clear hst HG HB HP HN1 HN2 HC1
              go_wp2_with (at_builtin; refine wpList_append_own _ rfl _ _ 51 rfl w.heap.size 54 i1 (.agg #[.int .i32 0, .bool false, .int .i64 0]) 3 16 Tryd.underlying51 hj hy0 hy1 hy2 rfl (by decide) _ _ _ rfl (hown.alloc _) ⟨wr.heap.size, 0, none⟩ 1 1 [_, _, _] rfl rfl (Cd.three_newW _ _ _ _ _) ?c2 ?c3 ?c4 ?c5 ?_)
              case c2 => first | rfl | exact ⟨rfl, rfl, rfl⟩ | (intro u hu; simp at hu; rcases hu with rfl | rfl | rfl <;> rfl)
              case c3 => unfold maxLen; omega
              case c4 => omega
              case c5 => first | omega | (simp; omega)
              intro v' w1 hown' hgrow _
              have hbw3 := Cd.below_ownW (hbz.alloc (by omega) _) (hown.alloc _) hgrow (Nat.le_refl _) (by simp; omega)
              have hgb3 := Cd.block_grown (hown.alloc _) hgrow ((Lib.alloc_old _ _ _ (lt_of_block hgb)).trans hgb) (by decide)
              clear hown hgrow hbz hgb
              have HGB := Lib.hid hgb3; clear hgb3
              have HB3 := Lib.hid hbw3; clear hbw3
              go_wp2
              go_roundw
              case rel =>
                refine ⟨q + 1, us ++ [(r, false, ((2 + 2 * q : Nat) : Int))], by first | rfl | go_num | (simp; try omega), by omega, ?_, by rw [List.length_append]; show us.length + 1 ≤ _; omega, by rw [Cd.cellsU_append, List.length_append]; exact hown', HB3.out, HGB.out⟩
                rw [← HACC.out, HST.out, List.append_assoc]
                rfl
              case measure => simp [intOf]; omega
          · have c1 := HC1.out h3
            have n1 := HN1.out h3
            rw [n1] at c1
            clear n1
            rcases (show (r2 < 56320) ∨ (57343 < r2) ∨ (56320 ≤ r2 ∧ r2 ≤ 57343) by omega) with h4 | h4 | ⟨h4, h5⟩
            · have hst := HB.out r r2 rfl rfl (by unfold Cd.pair; omega) (by omega)
              have HST := Lib.hid hst; clear hst HG HB HP HN1 HN2 HC1
              go_wp2_with (at_builtin; refine wpList_append_own _ rfl _ _ 51 rfl w.heap.size 54 i1 (.agg #[.int .i32 0, .bool false, .int .i64 0]) 3 16 Tryd.underlying51 hj hy0 hy1 hy2 rfl (by decide) _ _ _ rfl (hown.alloc _) ⟨wr.heap.size, 0, none⟩ 1 1 [_, _, _] rfl rfl (Cd.three_newW _ _ _ _ _) ?c2 ?c3 ?c4 ?c5 ?_)
              case c2 => first | rfl | exact ⟨rfl, rfl, rfl⟩ | (intro u hu; simp at hu; rcases hu with rfl | rfl | rfl <;> rfl)
              case c3 => unfold maxLen; omega
              case c4 => omega
              case c5 => first | omega | (simp; omega)
              intro v' w1 hown' hgrow _
              have hbw3 := Cd.below_ownW (hbz.alloc (by omega) _) (hown.alloc _) hgrow (Nat.le_refl _) (by simp; omega)
              have hgb3 := Cd.block_grown (hown.alloc _) hgrow ((Lib.alloc_old _ _ _ (lt_of_block hgb)).trans hgb) (by decide)
              clear hown hgrow hbz hgb
              have HGB := Lib.hid hgb3; clear hgb3
              have HB3 := Lib.hid hbw3; clear hbw3
              go_wp2
              go_roundw
              case rel =>
                refine ⟨q + 1, us ++ [(0, true, ((2 + 2 * q : Nat) : Int))], by first | rfl | go_num | (simp; try omega), by omega, ?_, by rw [List.length_append]; show us.length + 1 ≤ _; omega, by rw [Cd.cellsU_append, List.length_append]; exact hown', HB3.out, HGB.out⟩
                rw [← HACC.out, HST.out, List.append_assoc]
                rfl
              case measure => simp [intOf]; omega
            · have hst := HB.out r r2 rfl rfl (by unfold Cd.pair; omega) (by omega)
              have HST := Lib.hid hst; clear hst HG HB HP HN1 HN2 HC1
              go_wp2_with (at_builtin; refine wpList_append_own _ rfl _ _ 51 rfl w.heap.size 54 i1 (.agg #[.int .i32 0, .bool false, .int .i64 0]) 3 16 Tryd.underlying51 hj hy0 hy1 hy2 rfl (by decide) _ _ _ rfl (hown.alloc _) ⟨wr.heap.size, 0, none⟩ 1 1 [_, _, _] rfl rfl (Cd.three_newW _ _ _ _ _) ?c2 ?c3 ?c4 ?c5 ?_)
              case c2 => first | rfl | exact ⟨rfl, rfl, rfl⟩ | (intro u hu; simp at hu; rcases hu with rfl | rfl | rfl <;> rfl)
              case c3 => unfold maxLen; omega
              case c4 => omega
              case c5 => first | omega | (simp; omega)
              intro v' w1 hown' hgrow _
              have hbw3 := Cd.below_ownW (hbz.alloc (by omega) _) (hown.alloc _) hgrow (Nat.le_refl _) (by simp; omega)
              have hgb3 := Cd.block_grown (hown.alloc _) hgrow ((Lib.alloc_old _ _ _ (lt_of_block hgb)).trans hgb) (by decide)
              clear hown hgrow hbz hgb
              have HGB := Lib.hid hgb3; clear hgb3
              have HB3 := Lib.hid hbw3; clear hbw3
              go_wp2
              go_roundw
              case rel =>
                refine ⟨q + 1, us ++ [(0, true, ((2 + 2 * q : Nat) : Int))], by first | rfl | go_num | (simp; try omega), by omega, ?_, by rw [List.length_append]; show us.length + 1 ≤ _; omega, by rw [Cd.cellsU_append, List.length_append]; exact hown', HB3.out, HGB.out⟩
                rw [← HACC.out, HST.out, List.append_assoc]
                rfl
              case measure => simp [intOf]; omega
            · have hst := HP.out r r2 rfl rfl (by unfold Cd.pair; omega)
              rw [show (r - 55296) * 1024 + r2 - 56320 + 65536 = 65536 + (r - 55296) * 1024 + r2 - 56320 by omega] at hst
              have HST := Lib.hid hst; clear hst HG HB HP HN1 HN2 HC1
              go_wp2_with (at_builtin; refine wpList_append_own _ rfl _ _ 51 rfl w.heap.size 54 i1 (.agg #[.int .i32 0, .bool false, .int .i64 0]) 3 16 Tryd.underlying51 hj hy0 hy1 hy2 rfl (by decide) _ _ _ rfl (hown.alloc _) ⟨wr.heap.size, 0, none⟩ 1 1 [_, _, _] rfl rfl (Cd.three_newW _ _ _ _ _) ?c2 ?c3 ?c4 ?c5 ?_)
              case c2 => first | rfl | exact ⟨rfl, rfl, rfl⟩ | (intro u hu; simp at hu; rcases hu with rfl | rfl | rfl <;> rfl)
              case c3 => unfold maxLen; omega
              case c4 => omega
              case c5 => first | omega | (simp; omega)
              intro v' w1 hown' hgrow _
              have hbw3 := Cd.below_ownW (hbz.alloc (by omega) _) (hown.alloc _) hgrow (Nat.le_refl _) (by simp; omega)
              have hgb3 := Cd.block_grown (hown.alloc _) hgrow ((Lib.alloc_old _ _ _ (lt_of_block hgb)).trans hgb) (by decide)
              clear hown hgrow hbz hgb
              have HGB := Lib.hid hgb3; clear hgb3
              have HB3 := Lib.hid hbw3; clear hbw3
              go_wp2
              go_roundw
              case rel =>
                refine ⟨q + 1 + 1, us ++ [((65536 + (r - 55296) * 1024 + r2 - 56320), false, ((2 + 2 * q : Nat) : Int))], by first | rfl | go_num | (simp; try omega), by omega, ?_, by rw [List.length_append]; show us.length + 1 ≤ _; omega, by rw [Cd.cellsU_append, List.length_append]; exact hown', HB3.out, HGB.out⟩
                rw [← HACC.out, HST.out, List.append_assoc]
                rfl
              case measure => simp [intOf]; omega
          · have n2 := HN2.out h3
            subst n2
            have hq1 : ¬ (q : Int) + 1 < (ns.length : Int) := by omega
            have hst := HB.out r (-1) rfl rfl (by unfold Cd.pair; omega) (by omega)
            have HST := Lib.hid hst; clear hst HG HB HP HN1 HN2 HC1
            go_wp2_with (at_builtin; refine wpList_append_own _ rfl _ _ 51 rfl w.heap.size 54 i1 (.agg #[.int .i32 0, .bool false, .int .i64 0]) 3 16 Tryd.underlying51 hj hy0 hy1 hy2 rfl (by decide) _ _ _ rfl (hown.alloc _) ⟨wr.heap.size, 0, none⟩ 1 1 [_, _, _] rfl rfl (Cd.three_newW _ _ _ _ _) ?c2 ?c3 ?c4 ?c5 ?_)
            case c2 => first | rfl | exact ⟨rfl, rfl, rfl⟩ | (intro u hu; simp at hu; rcases hu with rfl | rfl | rfl <;> rfl)
            case c3 => unfold maxLen; omega
            case c4 => omega
            case c5 => first | omega | (simp; omega)
            intro v' w1 hown' hgrow _
            have hbw3 := Cd.below_ownW (hbz.alloc (by omega) _) (hown.alloc _) hgrow (Nat.le_refl _) (by simp; omega)
            have hgb3 := Cd.block_grown (hown.alloc _) hgrow ((Lib.alloc_old _ _ _ (lt_of_block hgb)).trans hgb) (by decide)
            clear hown hgrow hbz hgb
            have HGB := Lib.hid hgb3; clear hgb3
            have HB3 := Lib.hid hbw3; clear hbw3
            go_wp2
            go_roundw
            case rel =>
              refine ⟨q + 1, us ++ [(0, true, ((2 + 2 * q : Nat) : Int))], by first | rfl | go_num | (simp; try omega), by omega, ?_, by rw [List.length_append]; show us.length + 1 ≤ _; omega, by rw [Cd.cellsU_append, List.length_append]; exact hown', HB3.out, HGB.out⟩
              rw [← HACC.out, HST.out, List.append_assoc]
              rfl
            case measure => simp [intOf]; omega
          · have hst := HB.out r r2 rfl rfl (by unfold Cd.pair; omega) (by omega)
            have HST := Lib.hid hst; clear hst HG HB HP HN1 HN2 HC1
            go_wp2_with (at_builtin; refine wpList_append_own _ rfl _ _ 51 rfl w.heap.size 54 i1 (.agg #[.int .i32 0, .bool false, .int .i64 0]) 3 16 Tryd.underlying51 hj hy0 hy1 hy2 rfl (by decide) _ _ _ rfl (hown.alloc _) ⟨wr.heap.size, 0, none⟩ 1 1 [_, _, _] rfl rfl (Cd.three_newW _ _ _ _ _) ?c2 ?c3 ?c4 ?c5 ?_)
            case c2 => first | rfl | exact ⟨rfl, rfl, rfl⟩ | (intro u hu; simp at hu; rcases hu with rfl | rfl | rfl <;> rfl)
            case c3 => unfold maxLen; omega
            case c4 => omega
            case c5 => first | omega | (simp; omega)
            intro v' w1 hown' hgrow _
            have hbw3 := Cd.below_ownW (hbz.alloc (by omega) _) (hown.alloc _) hgrow (Nat.le_refl _) (by simp; omega)
            have hgb3 := Cd.block_grown (hown.alloc _) hgrow ((Lib.alloc_old _ _ _ (lt_of_block hgb)).trans hgb) (by decide)
            clear hown hgrow hbz hgb
            have HGB := Lib.hid hgb3; clear hgb3
            have HB3 := Lib.hid hbw3; clear hbw3
            go_wp2
            go_roundw
            case rel =>
              refine ⟨q + 1, us ++ [(0, true, ((2 + 2 * q : Nat) : Int))], by first | rfl | go_num | (simp; try omega), by omega, ?_, by rw [List.length_append]; show us.length + 1 ≤ _; omega, by rw [Cd.cellsU_append, List.length_append]; exact hown', HB3.out, HGB.out⟩
              rw [← HACC.out, HST.out, List.append_assoc]
              rfl
            case measure => simp [intOf]; omega
        · have hqe : q = j := by omega
          have hacc := HACC.out
          have hrem : s.size = 2 + 2 * q ∨ s.size = 2 + 2 * q + 1 := by have := HKJ.out; have := HKS.out; omega
          have hnl : ns.length ≤ q := by have := HNL.out; omega
          have hnlI : (ns.length : Int) ≤ (q : Int) := by omega
          clear hqe
          rcases hrem with hrem | hrem
          · have hend : Cd.wideU s 0 (2 + 2 * q) = [] := Cd.wideU_end _ _ _ (by omega)
            rw [hend, List.map_nil, List.append_nil] at hacc
            have HA := Lib.hid hacc; clear hacc hend
            have hm : ((s.size : Int) % 2 == 1) = false := by simp; omega
            clear hrem
            go_wp2
            go_ret
            rw [← HA.out]
            exact ⟨_, rfl, hown, hbz⟩
          · have h1 := Cd.wref_bad s 0 (2 + 2 * q) (by omega) (-1) (-1) (Cd.num_out s _ _ (by omega)) (Cd.num_out s _ _ (by omega)) (by unfold Cd.pair; omega) (by omega)
            rw [Cd.wref_end s 0 (2 + 2 * q + 2) (by omega)] at h1
            have hpe : ((2 + 2 * q : Nat) : Int) = (s.size : Int) - 1 := by omega
            rw [h1, hpe] at hacc
            have HA := Lib.hid hacc; clear hacc h1 hpe
            have hm : ((s.size : Int) % 2 == 1) = true := by simp; omega
            clear hrem
            go_wp2_with (at_builtin; refine wpList_append_own _ rfl _ _ 51 rfl w.heap.size 54 i1 (.agg #[.int .i32 0, .bool false, .int .i64 0]) 3 16 Tryd.underlying51 hj hy0 hy1 hy2 rfl (by decide) _ _ _ rfl (hown.alloc _) ⟨wr.heap.size, 0, none⟩ 1 1 [_, _, _] rfl rfl (Cd.three_newW _ _ _ _ _) ?c2 ?c3 ?c4 ?c5 ?_)
            case c2 => first | rfl | exact ⟨rfl, rfl, rfl⟩ | (intro u hu; simp at hu; rcases hu with rfl | rfl | rfl <;> rfl)
            case c3 => unfold maxLen; omega
            case c4 => omega
            case c5 => first | omega | (simp; omega)
            intro v' w1 hown' hgrow _
            have hbw3 := Cd.below_ownW (hbz.alloc (by omega) _) (hown.alloc _) hgrow (Nat.le_refl _) (by simp; omega)
            have hgb3 := Cd.block_grown (hown.alloc _) hgrow ((Lib.alloc_old _ _ _ (lt_of_block hgb)).trans hgb) (by decide)
            clear hown hgrow hbz hgb
            have HGB := Lib.hid hgb3; clear hgb3
            have HB3 := Lib.hid hbw3; clear hbw3
            go_wp2

            go_ret
            rw [← HA.out]
            exact ⟨_, rfl, by rw [Cd.cellsU_append, List.length_append]; exact hown', HB3.out⟩
end Go.Proofs.YtdpbpkggbgfkgaaDoor
