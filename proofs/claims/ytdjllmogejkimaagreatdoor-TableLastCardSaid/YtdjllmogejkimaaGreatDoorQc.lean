/-
  nat.Over, where the divisor has more than one word: the walk.
-/
import Derived.Outline
import Derived.IntWalk
import Derived.BigQuiet
import Derived.Deep.LoopGhost
import Derived.Deep.QuietTactic
import Derived.Deep.DeepCutAuto
import Derived.Test.YtdjllmogejkimaaGreatDoorQb
import Derived.Test.YtdjllmogejkimaaGreatDoorShelfQ
set_option linter.unusedVariables false
set_option linter.unusedSimpArgs false
namespace Go.Proofs.YtdjllmogejkimaaGreatDoor
open Go.RowKit

theorem Nt.two_row (w : World) (t : TypeId) : ∀ (j : Nat) (u : Value), ([.int .u32 0, .int .u32 0] : List Value)[j]? = some u → (w.alloc (.cells #[.int .u32 0, .int .u32 0] t)).cell? ((⟨w.heap.size, 0, none⟩ : Addr).add j) = some u := by
  intro j u hj
  match j, hj with
  | 0, hj => simp at hj; subst hj; simp [Addr.add]
  | 1, hj => simp at hj; subst hj; simp [Addr.add]

set_option maxHeartbeats 8000000 in
set_option maxRecDepth 1000000 in
theorem Nt.Over_long (m n : Nat) (v v2 : Value) (w : World) (h : Nt.N w v m) (h2 : Nt.N w v2 n) (hn : 4294967296 ≤ n) (hmn : n ≤ m) (hl : (Nt.dig m).length ≤ 400000) : Calls Tryz.prog 86 #[v, v2] w fun e w' => ∃ q r, e = .returned (.tuple #[q, r]) ∧ Nt.N w' q (m / n) ∧ Nt.N w' r (m % n) ∧ Below w.heap.size w w' := by
  obtain ⟨i0, hi0, hz0, hz1, hz2⟩ := info_parts Nt.infoWord
  have hlen2 : ∃ k, (Nt.dig n).length = k + 2 := by
    have h1 := Nt.dig_lt_pow n
    rcases Nat.lt_or_ge (Nt.dig n).length 2 with h2 | h2
    · exfalso
      have : 4294967296 ^ (Nt.dig n).length ≤ 4294967296 ^ 1 := Nat.pow_le_pow_right (by decide) (by omega)
      omega
    · exact ⟨(Nt.dig n).length - 2, by omega⟩
  obtain ⟨k, hk⟩ := hlen2
  have hkl : k + 2 ≤ (Nt.dig m).length := by
    have h1 := Nt.dig_pow_le (by omega : 0 < n)
    have h2 := Nt.dig_lt_pow m
    rw [hk] at h1
    have := (Nat.pow_lt_pow_iff_right (by decide : 1 < 4294967296)).1 (Nat.lt_of_le_of_lt (Nat.le_trans h1 hmn) h2)
    omega
  have hlast := Nt.dig_last n (by omega)
  rw [hk] at hlast
  have hlast2 := (Nt.dig_wd n).getD (k + 1)
  obtain ⟨s, hs, hsI, hs1, hs2⟩ := Nt.top_shift (Nat.pos_of_ne_zero (by simpa using hlast) : 0 < (Nt.dig n).getD (k + 1) 0) hlast2
  obtain ⟨hd1, hd2, hd3, hd4⟩ := Nt.shift_div (k := k + 1) hk hs1 hs2
  obtain ⟨hu1, hu2, hu3, hu4, hu5⟩ := Nt.shift_row (Nt.dig_lt_pow m) hs rfl (by omega : 0 < m)
  have hst := Nt.shift_start (k := k + 1) (Nt.dig_lt_pow m) hs hd2 (by omega)
  have KO := fun w h h2 => Nt.Order_any m n v v2 w h h2 (by omega) (by omega)
  have hcd : decide (Nt.cmp m n < 0) = false := decide_eq_false (fun h => by have := Nt.cmp_neg.1 h; omega)
  have KZ := fun w => Tryz.bits_LeadingZeros32 ((Nt.dig n).getD (k + 1) 0 : Nat) w (by omega) (by omega)
  rw [Int.toNat_natCast, hsI] at KZ
  have KD := fun w h => Nt.Up_own (Nt.dig n) s v2 w h (Nt.dig_wd n) (by omega) hs
  have KU := fun w h => Nt.Up_own (Nt.dig m) s v w h (Nt.dig_wd m) (by omega) hs
  rw [Nt.val_dig] at KD KU
  obtain ⟨ad, cap, rfl⟩ := Nt.In.slice h
  obtain ⟨ad2, cap2, rfl⟩ := Nt.In.slice h2
  have H := Lib.hid h
  have H2 := Lib.hid h2
  obtain ⟨b2, o2, rfl, _, hcap2, hbl2, hcell2⟩ := Nt.In.at h2 (by omega)
  have c2 := hcell2 (k + 1) (by omega)
  rw [hk] at *
  have hne1 : ((k : Int) + 2 == 1) = false := by simp; omega
  have HK1 := Lib.hid (And.intro hd1 (And.intro hd2 (And.intro hd3 hd4)))
  have HK2 := Lib.hid (And.intro hu1 (And.intro hu2 (And.intro hu3 (And.intro hu4 hu5))))
  have HST := Lib.hid hst
  have HMN := Lib.hid (And.intro hn hmn)
  have HKL := Lib.hid hkl
  clear hd1 hd2 hd3 hd4 hu1 hu2 hu3 hu4 hu5 hst hn hmn hlast hsI hs1 hs2 h h2 hcell2 hk
  generalize (Nt.dig n).getD (k + 1) 0 = x at *
  generalize hla : (Nt.dig m).length = la at *
  generalize Nt.cmp m n = cc at *
  go_enter Tryz.func86, Tryz.ntmps86
  go_wp2_with fail
  refine (KO _ H.out H2.out).mono ?_
  rintro z w1 ⟨rfl, hb1⟩
  have c3 := (hb1.cell (p := ⟨b2, o2 + (k + 1), none⟩) hbl2).trans c2
  have HB1 := Lib.hid hb1
  clear hb1 c2
  go_wp2_with fail
  refine (KZ _).mono ?_
  rintro z wz ⟨rfl, hwz⟩
  subst hwz
  go_wp2_with fail
  refine (KD _ (H2.out.below HB1.out (Nat.le_refl _))).mono ?_
  rintro z w2 ⟨vd, rfl, hown2, hb2⟩
  have HD2 := Lib.hid (Nt.In.of_own hown2)
  have HB2 := Lib.hid (HB1.out.trans (hb2.mono HB1.out.size))
  clear hown2 hb2 c3
  go_wp2_with fail
  refine (KU _ (H.out.below HB2.out (Nat.le_refl _))).mono ?_
  rintro z w3 ⟨vu, rfl, hown3, hb3⟩
  have HB23 := Lib.hid hb3
  have HB3 := Lib.hid (HB2.out.trans (hb3.mono HB2.out.size))
  have hle3 := hb3.size
  clear hb3
  obtain ⟨T, capu, rfl, hTB, hcu, hcum, hrow3⟩ := Nt.own_row hown3 (by have := HK2.out.1; omega)
  have HW3 : Hid (w2.heap.size ≤ w3.heap.size) := Lib.hid hle3
  have HOA := Lib.hid (fun o => Sl.own_below hown3 ((Below.refl w3.heap.size w3).alloc (Nat.le_refl _) o) (Nat.le_refl _))
  have HT := Lib.hid hTB
  have HR3 := Lib.hid hrow3
  clear hown3 hle3 hrow3 hTB
  go_wp2_with (at_builtin; refine wpList_append_own _ rfl _ _ 30 rfl w2.heap.size 104 i0 (.int .u32 0) 1 4 Tryz.underlying30 hi0 hz0 hz1 hz2 rfl (by decide) _ _ _ rfl (HOA.out _) ⟨w3.heap.size, 0, none⟩ 2 2 [.int .u32 0, .int .u32 0] rfl rfl (Nt.two_row w3 104) (by simp [Value.oneCell']) ?c2 ?c3 ?c4 ?_)
  case c2 => have := HK2.out.2.1; unfold maxLen; omega
  case c3 => have := HK2.out.2.1; omega
  case c4 => have := HW3.out; simp; omega
  intro v9 w9 hown9 hgr9 hne9
  have hown9' : w9.ownsRow w2.heap.size 104 1 v9 (Nt.dig (m * 2 ^ s) ++ [0, 0]).length (Nt.vs (Nt.dig (m * 2 ^ s) ++ [0, 0])) := by
    have e1 : (Nt.dig (m * 2 ^ s) ++ [0, 0]).length = (Nt.dig (m * 2 ^ s)).length + 2 := by simp
    have e2 : Nt.vs (Nt.dig (m * 2 ^ s) ++ [0, 0]) = Nt.vs (Nt.dig (m * 2 ^ s)) ++ [Value.int .u32 0, Value.int .u32 0] := by simp [Nt.vs]
    rw [e1, e2]
    exact hown9
  have hb9 : Below w.heap.size w w9 := ((HB3.out.alloc HB3.out.size _).grown hgr9 (by have := HB3.out.size; simp; omega) (fun q hq => by
    have : T = q := by simpa [Value.ownBlock] using hq
    have := HT.out; have := HB2.out.size; omega))
  have hb29 : Below w2.heap.size w2 w9 := (HB23.out.alloc HB23.out.size _).grown hgr9 (by have := HB23.out.size; simp; omega) (fun q hq => by
    have : T = q := by simpa [Value.ownBlock] using hq
    have := HT.out; omega)
  have hd9 : Nt.In w9 vd (Nt.dig (n * 2 ^ s)) := HD2.out.below hb29 (Nat.le_refl _)
  have hw29 := hb29.size
  have hT0 : w.heap.size ≤ w2.heap.size := HB2.out.size
  obtain ⟨T9, cap9, rfl, hTB9, hcu9, hcum9, hrow9⟩ := Nt.own_row hown9' (by simp)
  have hlen9 : (Nt.dig (m * 2 ^ s) ++ [0, 0]).length = (Nt.dig (m * 2 ^ s)).length + 2 := by simp
  rw [hlen9] at hcu9 hown9' ⊢
  clear hlen9
  have hrow := hrow9.cut (la + 1)
  obtain ⟨add, capd, rfl⟩ := hd9.slice
  have hdcap := hd9.cap.2
  have hdl := HK1.out.1
  rw [show k + 1 + 1 = k + 2 from rfl] at hdl
  rw [hdl] at hd9 hdcap ⊢
  obtain ⟨us0, hus0⟩ : ∃ us0, (Nt.dig (m * 2 ^ s) ++ [0, 0]).take (la + 1) = us0 := ⟨_, rfl⟩
  rw [hus0] at hrow
  have HUS : Hid (us0.length = la + 1 ∧ Nt.val us0 = m * 2 ^ s ∧ Nt.Wd us0) := Lib.hid (by rw [← hus0]; exact ⟨HK2.out.2.2.1, HK2.out.2.2.2.1, HK2.out.2.2.2.2⟩)
  have hul := HK2.out.1
  have hul2 := HK2.out.2.1
  clear hown9 hown9' hgr9 hne9 hus0 hrow9
  generalize hLU : (Nt.dig (m * 2 ^ s)).length = LU at *
  have hcapI : (la : Int) + 1 ≤ (cap9 : Int) := by omega
  have HROW := Lib.hid hrow
  have HD9 := Lib.hid hd9
  have HB9 := Lib.hid hb9
  have HBD := Lib.hid (And.intro hTB9 (And.intro hw29 hT0))
  have hkl := HKL.out
  obtain ⟨M, hM⟩ : ∃ M, la = M + (k + 1) := ⟨la - (k + 1), by omega⟩
  have hMI : (la : Int) + 1 - ((k : Int) + 2) = (M : Int) := by omega
  have hmk := Nt.make M w9 (by omega)
  obtain ⟨Tq, hTq⟩ : ∃ Tq, w9.heap.size = Tq := ⟨_, rfl⟩
  obtain ⟨w10, hw10⟩ : ∃ z, w9.alloc (.cells (Nt.row (List.replicate M 0)) 104) = z := ⟨_, rfl⟩
  have q10 : Nt.Row w10 Tq (List.replicate M 0) := Nt.Row.of_row (by rw [← hw10, ← hTq]; exact heap_alloc_new w9 _)
  have hT9lt : T9 < Tq := hTq ▸ hrow.lt
  have hrow10 : Nt.Row w10 T9 us0 := by rw [← hw10]; exact hrow.below ((Below.refl w9.heap.size w9).alloc (Nat.le_refl _) _) hrow.lt
  have hd10 : Nt.In w10 (.slice add (k + 2) capd) (Nt.dig (n * 2 ^ s)) := by rw [← hw10]; exact Nt.In.below hd9 ((Below.refl w9.heap.size w9).alloc (Nat.le_refl _) _) (Nat.le_refl _)
  have hb10 : Below w.heap.size w w10 := by rw [← hw10]; exact hb9.alloc hb9.size _
  have hz10 : w9.heap.size ≤ w10.heap.size := by rw [← hw10]; simp
  have hdb : ∀ b off l c, (Value.slice add (k + 2) capd) = .slice (some ⟨b, off, none⟩) l c → b < w2.heap.size := fun b off l c e => by
    obtain ⟨b', off', e', _, _, hlt, _⟩ := Nt.In.at (ws := Nt.dig (n * 2 ^ s)) (show Nt.In w2 (.slice add (k + 2) capd) _ by have := HD2.out; rwa [hdl] at this) (by omega)
    subst e'
    simp only [Value.slice.injEq, Option.some.injEq, Addr.mk.injEq] at e
    omega
  rw [hTq, hw10] at hmk
  obtain ⟨B2, hB2⟩ : ∃ B2, w2.heap.size = B2 := ⟨_, rfl⟩
  rw [hB2] at hTB9 hw29 hT0 hdb
  obtain ⟨ds, hds⟩ : ∃ ds, Nt.dig (n * 2 ^ s) = ds := ⟨_, rfl⟩
  have HDS : Hid (ds.length = k + 2 ∧ Nt.Wd ds ∧ 2147483648 ≤ ds.getD (k + 1) 0 ∧ Nt.val ds = n * 2 ^ s ∧ n * 2 ^ s < 4294967296 ^ (k + 2)) := Lib.hid (by rw [← hds]; exact ⟨HK1.out.1, Nt.dig_wd _, HK1.out.2.2.2, Nt.val_dig _, HK1.out.2.2.1⟩)
  rw [hds] at hd10
  have HGEO := Lib.hid (And.intro hM (And.intro hTB9 (And.intro hT9lt (And.intro hT0 (And.intro (show Tq ≤ w10.heap.size from hTq ▸ hz10) (show B2 ≤ w10.heap.size by omega))))))
  have HD10 := Lib.hid hd10
  have HB10 := Lib.hid hb10
  have HQ10 := Lib.hid q10
  have HR10 := Lib.hid hrow10
  have HDB := Lib.hid hdb
  have HST2 : Hid (m * 2 ^ s < n * 2 ^ s * 4294967296 ^ M) := Lib.hid (by have := HST.out; rwa [show la - (k + 1) = M by omega] at this)
  clear hrow hd9 hb9 hTB9 hb29 hw29 hT0 hLU hul hul2 hcu9 hcum9 HOA HR3 HT HB23 HW3 HK1 HK2 HST hrow10 hd10 hb10 hz10 hdb hB2 hds q10 hT9lt hw10 hTq HD2 HB2 HB3 HROW HD9 HB9 HBD hM
  clear KO KZ KD KU hdl HKL hkl
  go_wp2_with fail
  go_loopg [12] M (fun j i wr => j ≤ M ∧ i = .int .i64 ((j : Int) - 1) ∧ ∃ us qs, us.length = la + 1 ∧ Nt.Wd us ∧ qs.length = M ∧ Nt.Wd qs ∧ (∀ t, t < j → qs.getD t 0 = 0) ∧ m * 2 ^ s = Nt.val ds * Nt.val qs + Nt.val us ∧ Nt.val us < Nt.val ds * 4294967296 ^ j ∧ Nt.Row wr T9 us ∧ Nt.Row wr Tq qs ∧ Below B2 w10 wr)
  case atStart => exact ⟨Nat.le_refl _, rfl, us0, List.replicate M 0, HUS.out.1, HUS.out.2.2, by simp, Nt.Wd.zeros _, fun t _ => Nt.zeros_getD _ _, by rw [Nt.val_replicate, HUS.out.2.1]; omega, by rw [HUS.out.2.1, HDS.out.2.2.2.1]; exact HST2.out, HR10.out, HQ10.out, Below.refl _ _⟩
  case round =>
    obtain ⟨hjM, rfl, us, qs, hul, hud, hql, hqd, hqz, hsum, hlt, hrow, hqrow, hbw⟩ := hrel
    obtain ⟨wo, hwo⟩ : ∃ z, z = wr := ⟨_, rfl⟩
    subst hwo
    have HU := Lib.hid (And.intro hul (And.intro hud (And.intro hsum (And.intro hlt hrow))))
    have HQ := Lib.hid (And.intro hql (And.intro hqd (And.intro hqz hqrow)))
    have HBW := Lib.hid hbw
    clear hul hud hsum hlt hrow hql hqd hqz hqrow hbw
    rcases gk with _ | j
    · obtain ⟨hQe, hRe⟩ := Nt.round_last (a := m) (b := n) (s := s) HDS.out.2.2.2.1 (by have := HMN.out; omega) HU.out.2.2.1 HU.out.2.2.2.1
      have hul := HU.out.1
      have hM := HGEO.out.1
      have hinq : Nt.In wo (.slice (some ⟨Tq, 0, none⟩) qs.length M) qs := HQ.out.2.2.2.in (by have := HQ.out.1; omega)
      have hlen : (us.take (k + 2)).length = k + 2 := by rw [List.length_take]; omega
      have hvu : Nt.val (us.take (k + 2)) = Nt.val us := by
        have h1 := HU.out.2.2.2.1
        rw [Nat.pow_zero, Nat.mul_one, HDS.out.2.2.2.1] at h1
        exact Nt.val_take_of HU.out.2.1 (by omega) (Nat.lt_trans h1 HDS.out.2.2.2.2)
      have hinu : Nt.In wo (.slice (some ⟨T9, 0, none⟩) (us.take (k + 2)).length cap9) (us.take (k + 2)) := (HU.out.2.2.2.2.cut (k + 2)).in (by omega)
      have KQ := fun w h => Nt.norm_same qs (some ⟨Tq, 0, none⟩) M w h HQ.out.2.1 (by have := HQ.out.1; omega)
      have KU := fun w h => Nt.norm_same (us.take (k + 2)) (some ⟨T9, 0, none⟩) cap9 w h (HU.out.2.1.take _) (by omega)
      rw [hlen] at KU hinu
      rw [hvu] at KU
      rw [HQ.out.1] at KQ hinq
      have hlu := (Nt.take_dig (HU.out.2.1.take (k + 2))).1
      rw [hvu, hlen] at hlu
      have hnu : Nt.In wo (.slice (some ⟨T9, 0, none⟩) (Nt.dig (Nt.val us)).length cap9) (Nt.dig (Nt.val us)) := by
        have h1 := Nt.In.takeN (by rw [hlen]; exact hinu) (Nt.dig (Nt.val us)).length (by rw [hlen]; exact hlu)
        have h2 := (Nt.take_dig (HU.out.2.1.take (k + 2))).2
        rw [hvu] at h2
        rwa [h2] at h1
      have hnq : Nt.In wo (.slice (some ⟨Tq, 0, none⟩) (Nt.dig (Nt.val qs)).length M) (Nt.dig (Nt.val qs)) := by
        have h0 := HQ.out.1
        have h1 := Nt.In.takeN (by rw [h0]; exact hinq) (Nt.dig (Nt.val qs)).length (Nt.take_dig HQ.out.2.1).1
        rwa [(Nt.take_dig HQ.out.2.1).2] at h1
      have KD := fun v w h => Nt.Down_ws (Nt.dig (Nt.val us)) s v w h (Nt.dig_wd _) (by omega) hs
      rw [Nt.val_dig, hRe] at KD
      rw [hQe] at KQ hnq
      have HIQ := Lib.hid (And.intro hinq (And.intro hinu (And.intro hnu hnq)))
      have hb0 : Below w.heap.size w wo := HB10.out.trans (HBW.out.mono HGEO.out.2.2.2.1)
      have HB0 := Lib.hid hb0
      have hk0 : (0 : Int) ≤ (k : Int) + 2 := by omega
      have hk1 : (k : Int) + 2 ≤ (cap9 : Int) := by omega
      have hkt : ((k : Int) + 2).toNat = k + 2 := by omega
      clear hQe hRe hul hM hinq hlen hvu hinu hlu hnu hnq hb0
      generalize Nt.dig (Nt.val us) = du at *
      have HIQ2 : Hid (∀ w', Below wo.heap.size wo w' → Nt.In w' (.slice (some ⟨Tq, 0, none⟩) M M) qs ∧ Nt.In w' (.slice (some ⟨T9, 0, none⟩) (k + 2) cap9) (us.take (k + 2)) ∧ Nt.In w' (.slice (some ⟨T9, 0, none⟩) du.length cap9) du ∧ Nt.In w' (.slice (some ⟨Tq, 0, none⟩) (Nt.dig (m / n)).length M) (Nt.dig (m / n)) ∧ Below w.heap.size w w') := Lib.hid (fun w' hb => ⟨HIQ.out.1.below hb (Nat.le_refl _), HIQ.out.2.1.below hb (Nat.le_refl _), HIQ.out.2.2.1.below hb (Nat.le_refl _), HIQ.out.2.2.2.below hb (Nat.le_refl _), HB0.out.trans (hb.mono HB0.out.size)⟩)
      have hbw : Below wo.heap.size wo wo.drew := (Below.refl _ _).drew
      go_wp2_with fail
      go_region_with (first
        | (go_at_call_of 91 Tq
           refine (KQ _ (HIQ2.out _ hbw).1).mono ?_
           rintro z wz ⟨rfl, hwz⟩
           subst hwz)
        | (go_at_call_of 91 T9
           refine (KU _ (HIQ2.out _ hbw).2.1).mono ?_
           rintro z wz ⟨rfl, hwz⟩
           subst hwz)
        | (go_at_call 125
           refine (KD _ _ (HIQ2.out _ hbw).2.2.1).mono ?_
           rintro z wd ⟨vr, rfl, hnr, hbd⟩
           have hbw := hbw.trans (hbd.mono hbw.size)))
      all_goals
        go_wp2_with fail
        go_ret2
        exact ⟨_, _, rfl, (HIQ2.out _ hbw).2.2.2.1, hnr, (HIQ2.out _ hbw).2.2.2.2⟩
    · have hj1 : (((j + 1 : Nat) : Int) - 1) = (j : Int) := by omega
      rw [hj1]
      have hj0 : (0 : Int) ≤ (j : Int) := by omega
      have hjn := HU.out.1
      have hM := HGEO.out.1
      obtain ⟨hs1, hs2, hs3⟩ := Nt.round_seg (n := k + 2) (j := j) HU.out.2.1 (by omega) HU.out.2.2.2.1 (by rw [HDS.out.2.2.2.1]; exact HDS.out.2.2.2.2)
      obtain ⟨ht1, ht2, ht3, ht4, ht5⟩ := Nt.round_top (m := k) (j := j) HU.out.2.1 HDS.out.2.1 HDS.out.1 hs2
      have a0 := HU.out.2.2.2.2.cell (j + (k + 2)) (by omega)
      have a1 := HU.out.2.2.2.2.cell (j + (k + 1)) (by omega)
      have a2 := HU.out.2.2.2.2.cell (j + k) (by omega)
      have x0 := HU.out.2.1.getD (j + (k + 2))
      have x1 := HU.out.2.1.getD (j + (k + 1))
      have x2 := HU.out.2.1.getD (j + k)
      have hdin := HD10.out.low HDB.out HBW.out
      obtain ⟨bd, od, rfl, hdl0, hcapd, hbld, hcelld⟩ := Nt.In.at hdin (by have := HDS.out.1; omega)
      clear hdl0
      have d1 := hcelld (k + 1) (by have := HDS.out.1; omega)
      have d2 := hcelld k (by have := HDS.out.1; omega)
      have dx1 := HDS.out.2.1.getD (k + 1)
      have dx2 := HDS.out.2.1.getD k
      have dbig := HDS.out.2.2.1
      have HDIN := Lib.hid hdin
      have HSEG := Lib.hid (And.intro hs1 (And.intro hs2 hs3))
      have hi1 : IntKind.i64.wrap ((j : Int) + ((k : Int) + 2)) = ((j + (k + 2) : Nat) : Int) := by rw [IntWalk.i64_in _ (by omega)]; omega
      have hi2 : IntKind.i64.wrap (((j + (k + 2) : Nat) : Int) - 1) = ((j + (k + 1) : Nat) : Int) := by rw [IntWalk.i64_in _ (by omega)]; omega
      have hi3 : ((j + (k + 2) : Nat) : Int) < (la : Int) + 1 := by omega
      have hi4 : ((j + (k + 1) : Nat) : Int) < (la : Int) + 1 := by omega
      have hi5 : (0 : Int) ≤ ((j + (k + 2) : Nat) : Int) := by omega
      have hi6 : (0 : Int) ≤ ((j + (k + 1) : Nat) : Int) := by omega
      have HJM := Lib.hid hjn
      have HM := Lib.hid hM
      have HT := Lib.hid (And.intro ht1 (And.intro ht2 (And.intro ht3 (And.intro ht4 ht5))))
      clear hs1 hs2 hs3 hjn hM hdin hcelld ht1 ht2 ht3 ht4 ht5
      obtain ⟨y0, hy0⟩ : ∃ y, us.getD (j + (k + 2)) 0 = y := ⟨_, rfl⟩
      obtain ⟨y1, hy1⟩ : ∃ y, us.getD (j + (k + 1)) 0 = y := ⟨_, rfl⟩
      obtain ⟨y2, hy2⟩ : ∃ y, us.getD (j + k) 0 = y := ⟨_, rfl⟩
      obtain ⟨e1, he1⟩ : ∃ y, ds.getD (k + 1) 0 = y := ⟨_, rfl⟩
      obtain ⟨e2, he2⟩ : ∃ y, ds.getD k 0 = y := ⟨_, rfl⟩
      rw [hy0] at a0 x0
      rw [hy1] at a1 x1
      rw [hy2] at a2 x2
      rw [he1] at d1 dx1 dbig
      rw [he2] at d2 dx2
      have HT' := HT.out
      rw [hy0, hy1, hy2, he1, he2] at HT'
      clear HT
      have HT := Lib.hid HT'
      have ht5 : y0 ≤ e1 := HT'.2.2.2.2
      have HY2 := Lib.hid hy2
      have HE1 := Lib.hid he1
      have HE2 := Lib.hid he2
      have HQB0 : Hid (Nt.val ((us.drop j).take (k + 3)) / Nt.val ds ≤ 4294967295) := Lib.hid (by
        have h1 := HSEG.out.2.1
        have h2 : Nt.val ((us.drop j).take (k + 2 + 1)) / Nt.val ds < 4294967296 := Nat.div_lt_of_lt_mul h1
        exact Nat.le_of_lt_succ h2)
      clear hy0 hy1 hy2 he1 he2 HT'
      have hj64 := Nt.join64 y0 y1 x0 x1
      obtain ⟨N, hN⟩ : ∃ N, 4294967296 * y0 + y1 = N := ⟨_, rfl⟩
      rw [hN] at hj64
      obtain ⟨t0, ht0⟩ : ∃ t0, N / e1 = t0 := ⟨_, rfl⟩
      obtain ⟨r0, hr0⟩ : ∃ r0, N % e1 = r0 := ⟨_, rfl⟩
      have hqI : (N : Int) / (e1 : Int) = (t0 : Int) := by rw [← ht0]; rfl
      have hmI : (N : Int) % (e1 : Int) = (r0 : Int) := by rw [← hr0]; rfl
      have hdz : ((e1 : Int) == 0) = false := by simp; omega
      have hd64 : (e1 : Int) ≤ 18446744073709551615 := by omega
      have hN64 : (N : Int) ≤ 18446744073709551615 := by omega
      have HN := Lib.hid hN
      have HT0 := Lib.hid ht0
      have HR0 := Lib.hid hr0
      have hwt : IntKind.u64.wrap (t0 : Int) = (t0 : Int) := by
        have : t0 ≤ N := by rw [← ht0]; exact Nat.div_le_self _ _
        rw [IntKind.wrap_u64]; omega
      have HMI := Lib.hid hmI
      clear hN ht0 hr0
      go_wp2_with fail
      go_quiet (fail)
      go_wp2_with fail
      go_quiet (fail)
      have HWT := Lib.hid hwt
      clear hqI hmI hwt hj64
      go_upto_block 2 with (fail)
      go_cut [14] (fun tv wx => ∃ t : Nat, tv = .int .u64 t ∧ t ≤ 4294967295 ∧ Nt.val ((us.drop j).take (k + 3)) / Nt.val ds ≤ t ∧ t * Nt.val ds < Nt.val ((us.drop j).take (k + 3)) + Nt.val ds ∧ Nt.Row wx T9 us ∧ Nt.Row wx Tq qs ∧ Below B2 w10 wx)
      case first =>
        have HROW : Hid (∀ n1 n2, Nt.Row ((wo.drewN n1).drewN n2) T9 us ∧ Nt.Row ((wo.drewN n1).drewN n2) Tq qs ∧ Below B2 w10 ((wo.drewN n1).drewN n2)) := Lib.hid (fun n1 n2 => ⟨HU.out.2.2.2.2, HQ.out.2.2.2, Nt.drewN (Nt.drewN HBW.out _) _⟩)
        go_wp2_with fail
        go_loopg [14, 15] t0 (fun t tv rv wr => tv = .int .u64 t ∧ t ≤ 4294967297 ∧ ∃ r : Nat, rv = .int .u64 r ∧ r < 4294967296 ∧ t * e1 + r = N ∧ Nt.val ((us.drop j).take (k + 3)) / Nt.val ds ≤ t ∧ Nt.Row wr T9 us ∧ Nt.Row wr Tq qs ∧ Below B2 w10 wr)
        case atStart =>
          refine ⟨by first | rfl | (rw [HWT.out]), ?_, r0, by first | rfl | (rw [HMI.out]), ?_, ?_, ?_, (HROW.out _ _).1, (HROW.out _ _).2.1, (HROW.out _ _).2.2⟩
          · have := Nt.guess_first (v1 := e1) (u0 := y0) (u1 := y1) dbig HT.out.2.2.2.2 x1
            rw [← HT0.out, ← HN.out, Nat.mul_comm 4294967296]; exact this
          · have := Nat.mod_lt N (by omega : 0 < e1); rw [HR0.out] at this; omega
          · have := Nat.div_add_mod N e1; rw [HR0.out, HT0.out, Nat.mul_comm] at this; exact this
          · rw [← HT0.out, ← HN.out, Nat.mul_comm 4294967296]
            have hq := Nat.div_mul_le_self (Nt.val ((us.drop j).take (k + 3))) (Nt.val ds)
            exact Nt.guess_big HT.out.1 HT.out.2.1 HT.out.2.2.1 HT.out.2.2.2.1 (by omega) x2 hq
        case round =>
          obtain ⟨rfl, ht97, r, rfl, hr32, htr, hge, hro, hqo, hbo⟩ := hrel
          obtain ⟨wi, hwi⟩ : ∃ z, z = wr := ⟨_, rfl⟩
          subst hwi
          have HTR := Lib.hid htr
          have HGE := Lib.hid hge
          have HRO := Lib.hid (And.intro hro (And.intro hqo hbo))
          have HRD : Hid (∀ n, Nt.Row (wi.drewN n) T9 us ∧ Nt.Row (wi.drewN n) Tq qs ∧ Below B2 w10 (wi.drewN n)) := Lib.hid (fun n => ⟨hro, hqo, Nt.drewN hbo _⟩)
          have b2 := hro.cell (j + k) (by have := HJM.out; have := HM.out; omega)
          rw [HY2.out] at b2
          have hdin := HD10.out.low HDB.out hbo
          obtain ⟨bd', od', hbe, hdl0, _, hbld', hcelld⟩ := Nt.In.at hdin (by have := HDS.out.1; omega)
          simp only [Option.some.injEq, Addr.mk.injEq, and_true] at hbe
          obtain ⟨rfl, rfl⟩ := hbe
          have d1 := hcelld (k + 1) (by have := HDS.out.1; omega)
          have d2 := hcelld k (by have := HDS.out.1; omega)
          rw [HE1.out] at d1
          rw [HE2.out] at d2
          have hr64 : (r : Int) + (e1 : Int) < 18446744073709551616 := by omega
          obtain ⟨r', hr'⟩ : ∃ r', r + e1 = r' := ⟨_, rfl⟩
          have hadd : (r : Int) + (e1 : Int) = (r' : Int) := by omega
          have HQB : Hid (Nt.val ((us.drop j).take (k + 3)) / Nt.val ds ≤ 4294967295) := HQB0
          clear htr hge hro hqo hbo hdin hdl0 hcelld hr64
          by_cases hgt : 4294967295 < gk
          · have hgtI : (4294967295 : Int) < (gk : Int) := by omega
            obtain ⟨t', ht'⟩ : ∃ t', gk = t' + 1 := ⟨gk - 1, by omega⟩
            have hsub : (gk : Int) - 1 = (t' : Int) := by omega
            have htr' : t' * e1 + r' = N := by
              have := HTR.out; rw [ht', Nat.add_mul, Nat.one_mul] at this; omega
            have HTR' := Lib.hid htr'
            have hq' : Hid (Nt.val ((us.drop j).take (k + 3)) / Nt.val ds ≤ t') := Lib.hid (by have := HQB.out; omega)
            have HTT := Lib.hid ht'
            have HRR := Lib.hid hr'
            clear ht' htr' hr'
            by_cases hbr : 4294967295 < r'
            · have hbrI : (4294967295 : Int) < (r' : Int) := by omega
              have hw : t' ≤ 4294967295 := Nt.guess_word (v1 := e1) (u0 := y0) (u1 := y1) (rest := r') (by rw [HTR'.out, ← HN.out]; omega) HT.out.2.2.2.2 x1 (by omega)
              have hup : t' * Nt.val ds < Nt.val ((us.drop j).take (k + 3)) + Nt.val ds := Nt.guess_up HT.out.1 HT.out.2.1 HT.out.2.2.1 (by rw [HTR'.out, ← HN.out]; omega) (by omega) hw (Nat.le_trans (Nat.mul_le_mul hw (Nat.le_of_lt_succ dx2)) (by omega))
              have HUP := Lib.hid (And.intro hw hup)
              clear hw hup
              go_wp2_with fail
              go_quiet (fail)
              go_wp2_with fail
              go_meet
              exact ⟨t', rfl, HUP.out.1, hq'.out, HUP.out.2, (HRD.out _).1, (HRD.out _).2.1, (HRD.out _).2.2⟩
            · have hbrI : ¬ (4294967295 : Int) < (r' : Int) := by omega
              go_wp2_with fail
              go_quiet (fail)
              go_wp2_with fail
              go_roundg t'
              case measure => have := HTT.out; omega
              case rel => exact ⟨rfl, by have := HTT.out; omega, r', rfl, by omega, HTR'.out, hq'.out, (HRD.out _).1, (HRD.out _).2.1, (HRD.out _).2.2⟩
          · have hgtI : decide ((4294967295 : Int) < (gk : Int)) = false := decide_eq_false (by omega)
            have hgtI2 : decide ((gk : Int) > 4294967295) = false := decide_eq_false (by omega)
            have hgtI3 : ¬ (4294967295 : Int) < (gk : Int) := by omega
            have hoff : j + (k + 2) - 2 = j + k := by omega
            have hb1 : (0 : Int) ≤ (j : Int) + ((k : Int) + 2) - 2 := by omega
            have hb2 : (j : Int) + ((k : Int) + 2) - 2 < (la : Int) + 1 := by have := HJM.out; have := HM.out; omega
            have hmul : gk * e2 < 18446744073709551616 := Nat.lt_of_le_of_lt (Nat.mul_le_mul (by omega : gk ≤ 4294967295) (Nat.le_of_lt_succ dx2)) (by decide)
            obtain ⟨p, hp⟩ : ∃ p, gk * e2 = p := ⟨_, rfl⟩
            have hmI2 : IntKind.u64.wrap ((gk : Int) * (e2 : Int)) = (p : Int) := by
              rw [IntKind.wrap_u64, ← Int.natCast_mul, hp]; omega
            have hj2 := Nt.join64 r y2 hr32 x2
            obtain ⟨Z, hZ⟩ : ∃ Z, 4294967296 * r + y2 = Z := ⟨_, rfl⟩
            rw [hZ] at hj2
            have HP := Lib.hid hp
            have HZ := Lib.hid hZ
            clear hp hZ hmul
            by_cases hcp : Z < p
            · have hcpI : (Z : Int) < (p : Int) := by omega
              have hpos : 1 ≤ gk := by
                rcases Nat.eq_zero_or_pos gk with h0 | h0
                · have := HP.out; rw [h0, Nat.zero_mul] at this; omega
                · exact h0
              obtain ⟨t', ht'⟩ : ∃ t', gk = t' + 1 := ⟨gk - 1, by omega⟩
              have hsub : (gk : Int) - 1 = (t' : Int) := by omega
              have htr' : t' * e1 + r' = N := by
                have := HTR.out; rw [ht', Nat.add_mul, Nat.one_mul] at this; omega
              have hq' : Nt.val ((us.drop j).take (k + 3)) / Nt.val ds ≤ t' := by
                have := Nt.guess_down (t := gk) HT.out.1 HT.out.2.2.1 HT.out.2.2.2.1 (by rw [HTR.out, ← HN.out]; omega) (by rw [HP.out, ← Nat.mul_comm 4294967296, HZ.out]; exact hcp)
                omega
              have HTR' := Lib.hid htr'
              have HQ' := Lib.hid hq'
              have HTT := Lib.hid ht'
              have HRR := Lib.hid hr'
              clear ht' htr' hr' hq' hpos
              by_cases hbr : 4294967295 < r'
              · have hbrI : (4294967295 : Int) < (r' : Int) := by omega
                have hw : t' ≤ 4294967295 := by have := HTT.out; omega
                have hup : t' * Nt.val ds < Nt.val ((us.drop j).take (k + 3)) + Nt.val ds := Nt.guess_up HT.out.1 HT.out.2.1 HT.out.2.2.1 (by rw [HTR'.out, ← HN.out]; omega) (by omega) hw (Nat.le_trans (Nat.mul_le_mul hw (Nat.le_of_lt_succ dx2)) (by omega))
                have HUP := Lib.hid (And.intro hw hup)
                clear hw hup
                go_wp2_with fail
                go_quiet (fail)
                go_wp2_with fail
                go_meet
                exact ⟨t', rfl, HUP.out.1, HQ'.out, HUP.out.2, (HRD.out _).1, (HRD.out _).2.1, (HRD.out _).2.2⟩
              · have hbrI : ¬ (4294967295 : Int) < (r' : Int) := by omega
                go_wp2_with fail
                go_quiet (fail)
                go_wp2_with fail
                go_roundg t'
                case measure => have := HTT.out; omega
                case rel => exact ⟨rfl, by have := HTT.out; omega, r', rfl, by omega, HTR'.out, HQ'.out, (HRD.out _).1, (HRD.out _).2.1, (HRD.out _).2.2⟩
            · have hcpI : decide ((Z : Int) < (p : Int)) = false := decide_eq_false (by omega)
              have hcpI2 : decide ((p : Int) > (Z : Int)) = false := decide_eq_false (by omega)
              have hup : gk * Nt.val ds < Nt.val ((us.drop j).take (k + 3)) + Nt.val ds := Nt.guess_up HT.out.1 HT.out.2.1 HT.out.2.2.1 (by rw [HTR.out, ← HN.out]; omega) (by omega) (by omega) (by rw [HP.out]; have := HZ.out; omega)
              have HUP := Lib.hid hup
              clear hup
              go_wp2_with fail
              go_quiet (fail)
              go_wp2_with fail
              go_meet
              exact ⟨gk, rfl, by omega, HGE.out, HUP.out, (HRD.out _).1, (HRD.out _).2.1, (HRD.out _).2.2⟩
      case rest =>
        obtain ⟨t, rfl, ht32, hge, hup, hro, hqo, hbo⟩ := hcut
        obtain ⟨wi, hwi⟩ : ∃ z, z = wc := ⟨_, rfl⟩
        subst hwi
        clear a0 a1 a2 d1 d2 hi1 hi2 hi3 hi4 hi5 hi6 hdz hd64 hN64 HN HT0 HR0 HMI HWT HQB0 hbld HT HY2 HE1 HE2 HDIN x0 x1 x2 dx1 dx2 dbig
        have HG := Lib.hid (And.intro hge hup)
        have HDP : Hid (0 < Nt.val ds) := Lib.hid (by rw [HDS.out.2.2.2.1]; exact Nat.mul_pos (by have := HMN.out; omega) (Nat.two_pow_pos s))
        have HRO := Lib.hid hro
        have HQO := Lib.hid hqo
        have HBO := Lib.hid hbo
        clear hge hup hro hqo hbo
        go_wp2_with fail
        go_loopg [16, 17, 150] (k + 2) (fun g ov cv iv wr => ∃ i c o : Nat, ∃ us1 : List Nat, i + g = k + 2 ∧ iv = .int .i64 i ∧ cv = .int .u64 c ∧ ov = .int .u64 o ∧ c < 4294967296 ∧ o ≤ 1 ∧ us1.length = la + 1 ∧ Nt.Wd us1 ∧ us1.take j = us.take j ∧ us1.drop (j + i) = us.drop (j + i) ∧ Nt.val ((us.drop j).take i) + 4294967296 ^ i * (c + o) = Nt.val ((us1.drop j).take i) + t * Nt.val (ds.take i) ∧ Nt.Row wr T9 us1 ∧ Nt.Row wr Tq qs ∧ Below B2 w10 wr)
        case atStart => exact ⟨0, 0, 0, us, by omega, rfl, rfl, rfl, by decide, by decide, HU.out.1, HU.out.2.1, rfl, rfl, by simp [Nt.val], HRO.out, HQO.out, HBO.out⟩
        case round =>
          obtain ⟨i, c, o, us1, hig, rfl, rfl, rfl, hc32, ho1, hul1, hud1, htk1, hdr1, hv1, hro, hqo, hbo⟩ := hrel
          obtain ⟨wj, hwj⟩ : ∃ z, z = wr := ⟨_, rfl⟩
          subst hwj
          have HU1 := Lib.hid (And.intro hul1 (And.intro hud1 (And.intro htk1 (And.intro hdr1 hv1))))
          clear hul1 hud1 htk1 hdr1 hv1
          clear HRO HQO HBO
          have HRO := Lib.hid hro
          have HQO := Lib.hid hqo
          have HBO := Lib.hid hbo
          by_cases hik : i < k + 2
          · have hcu := hro.cell (j + i) (by have := HU1.out.1; have := HM.out; have := HJM.out; omega)
            have heu : us1.getD (j + i) 0 = us.getD (j + i) 0 := Nt.drop_getD HU1.out.2.2.2.1 (Nat.le_refl _)
            rw [heu] at hcu
            have hxu := HU.out.2.1.getD (j + i)
            have hdin := HD10.out.low HDB.out hbo
            obtain ⟨bd', od', hbe, hdl0, _, hbld', hcelld⟩ := Nt.In.at hdin (by have := HDS.out.1; omega)
            simp only [Option.some.injEq, Addr.mk.injEq, and_true] at hbe
            obtain ⟨rfl, rfl⟩ := hbe
            have d1 := hcelld i (by have := HDS.out.1; omega)
            have hxd := HDS.out.2.1.getD i
            have hsw := Nt.sub_word (u := us.getD (j + i) 0) (d := ds.getD i 0) (t := t) (c := c) (o := o) hxu hxd (by omega) hc32 ho1
            have hstep := fun x o' h => Nt.sub_step (x := x) (o' := o') (u0 := us) (us := us1) (d := ds) (j := j) (k := i) (t := t) (c := c) (o := o) HU1.out.2.2.2.2 h (by have := HU1.out.1; have := HM.out; have := HJM.out; omega)
            obtain ⟨hs64, hs32, x, o', ho1', hx32, hX1, hX2, hX3⟩ := hsw
            have hSTEP := hstep x o' hX3
            have HSTEP := Lib.hid hSTEP
            clear hdin hdl0 hcelld heu hstep hSTEP hX3 hro hqo hbo
            generalize us.getD (j + i) 0 = y at *
            generalize ds.getD i 0 = e at *
            obtain ⟨p, hp⟩ : ∃ p, t * e = p := ⟨_, rfl⟩
            rw [hp] at hs64 hs32 hX1 hX2 HSTEP
            obtain ⟨S, hS⟩ : ∃ S, c + p = S := ⟨_, rfl⟩
            rw [hS] at hs64 hs32 hX1 hX2 HSTEP
            obtain ⟨m', hm'⟩ : ∃ m', S % 4294967296 = m' := ⟨_, rfl⟩
            obtain ⟨q', hq'⟩ : ∃ q', S / 4294967296 = q' := ⟨_, rfl⟩
            rw [hm'] at hX1 hX2
            rw [hq'] at hs32 HSTEP
            obtain ⟨Y, hY⟩ : ∃ Y : Nat, ((y : Int) - (m' : Int)) % 18446744073709551616 = (Y : Int) := ⟨(((y : Int) - (m' : Int)) % 18446744073709551616).toNat, by omega⟩
            obtain ⟨X, hX⟩ : ∃ X : Nat, ((Y : Int) - (o : Int)) % 18446744073709551616 = (X : Int) := ⟨(((Y : Int) - (o : Int)) % 18446744073709551616).toNat, by omega⟩
            have hXe : ((y : Int) - (m' : Int) - (o : Int)) % 18446744073709551616 = (X : Int) := by omega
            rw [hXe] at hX1 hX2
            have g1 : IntKind.u64.wrap ((t : Int) * (e : Int)) = (p : Int) := by
              rw [IntKind.wrap_u64, ← Int.natCast_mul, hp]; omega
            have g2 : (c : Int) + (p : Int) = (S : Int) := by omega
            have g3 : (S : Int) % 4294967296 = (m' : Int) := by rw [← hm']; rfl
            have g4 : (S : Int) / 4294967296 = (q' : Int) := by rw [← hq']; rfl
            have g5 : IntKind.u64.wrap ((y : Int) - (m' : Int)) = (Y : Int) := by rw [IntKind.wrap_u64]; exact hY
            have g6 : IntKind.u64.wrap ((Y : Int) - (o : Int)) = (X : Int) := by rw [IntKind.wrap_u64]; exact hX
            have g7 : IntKind.u64.wrap ((c : Int) + (p : Int)) = (S : Int) := by rw [IntKind.wrap_u64]; omega
            have hS64 : (S : Int) < 18446744073709551616 := by omega
            have g8 : bits .and .u64 (S : Int) 4294967295 = (m' : Int) := by
              have hk : ∀ n : Int, 0 ≤ n → n < 2 ^ 64 → IntKind.u64.wrap n = n := fun n h0 h1 => by rw [IntKind.wrap_u64]; omega
              have := (bits_nat .u64 64 (by decide) hk S 4294967295 hs64 (by decide)).1
              rw [show (4294967295 : Nat) = 2 ^ 32 - 1 from rfl, Nat.and_two_pow_sub_one_eq_mod, show (2 : Nat) ^ 32 = 4294967296 from rfl, hm'] at this
              exact this
            obtain ⟨W, hW, ee1, ee2, hQ9, hB9, hS9, hoth⟩ := HRO.out.put (j + i) x (by have := HU1.out.1; have := HM.out; have := HJM.out; omega) HBO.out HGEO.out.2.1
            have hqW : Nt.Row W Tq qs := by
              obtain ⟨cur, tt, h1, h2⟩ := HQO.out
              exact ⟨cur, tt, (hoth Tq (by have := HGEO.out.2.2.1; omega)).trans h1, h2⟩
            have HR := Lib.hid (And.intro hs32 (And.intro ho1' (And.intro hx32 (And.intro hQ9 (And.intro hqW hB9)))))
            have hikI : (i : Int) < (k : Int) + 2 := by omega
            have hik2 : (i : Int) + (j : Int) < (la : Int) + 1 := by have := HM.out; have := HJM.out; omega
            have hij : i + j = j + i := by omega
            rw [← hij] at hcu ee1 ee2 hW
            have HIJ := Lib.hid hij
            clear hp hS hm' hq' hY hX hXe hs64 hs32 ho1' hx32 hQ9 hqW hB9 hS9 hoth hij
            go_wp2_with fail
            go_roundg (gk - 1)
            case measure => omega
            case rel => exact ⟨i + 1, q', o', _, by omega, by first | rfl | go_num | (simp; try omega), rfl, rfl, HR.out.1, HR.out.2.1, by rw [List.length_set]; exact HU1.out.1, HU1.out.2.1.set _ _ HR.out.2.2.1, by rw [Nt.take_set_ge]; exact HU1.out.2.2.1, by rw [Nt.drop_set_lt _ _ _ _ (by omega)]; exact Nt.drop_more HU1.out.2.2.2.1 (by omega), HSTEP.out, HR.out.2.2.2.1, HR.out.2.2.2.2.1, HR.out.2.2.2.2.2⟩
          · obtain rfl : i = k + 2 := by omega
            have hnlt : decide (((k : Int) + 2) < ((k : Int) + 2)) = false := decide_eq_false (by omega)
            have hcu := hro.cell (j + (k + 2)) (by have := HU1.out.1; have := HM.out; have := HJM.out; omega)
            have heu : us1.getD (j + (k + 2)) 0 = us.getD (j + (k + 2)) 0 := Nt.drop_getD HU1.out.2.2.2.1 (Nat.le_refl _)
            rw [heu] at hcu
            have hxu := HU.out.2.1.getD (j + (k + 2))
            have hjk : (j : Int) + ((k : Int) + 2) < (la : Int) + 1 := by have := HM.out; have := HJM.out; omega
            have hqj := HQO.out.cell j (by have := HQ.out.1; omega)
            have hjM : (j : Int) < (M : Int) := by omega
            have htw : (t : Int) % 4294967296 = (t : Int) := by omega
            clear hro hqo hbo heu
            by_cases hco : c + o ≤ us.getD (j + (k + 2)) 0
            · have hfit := Nt.round_fits HU1.out.2.2.2.2 HDS.out.1 (by have := HU1.out.1; have := HM.out; have := HJM.out; omega) hco
              obtain ⟨X, hX⟩ : ∃ X, us.getD (j + (k + 2)) 0 - c - o = X := ⟨_, rfl⟩
              rw [hX] at hfit
              have hend := Nt.round_end (t := t) HU.out.2.2.1 HU.out.2.1 (n := k + 2) (j := j) (un := us1.set (j + (k + 2)) X) (by have := HU.out.1; have := HM.out; have := HJM.out; omega) (by rw [List.length_set, HU1.out.1, HU.out.1]) (by rw [Nt.take_set_ge]; exact HU1.out.2.2.1) (by rw [Nt.drop_set_lt _ _ _ _ (by omega)]; exact Nt.drop_more HU1.out.2.2.2.1 (by omega)) HU.out.2.2.2.1 (by rw [HDS.out.2.2.2.1]; exact HDS.out.2.2.2.2) hfit (Nt.guess_rest hfit HG.out.1 (by have := HDS.out.2.2.2.1; have := HDS.out.2.2.1; exact HDP.out))
              have g1 : IntKind.u64.wrap ((us.getD (j + (k + 2)) 0 : Nat) - (c : Int)) = ((us.getD (j + (k + 2)) 0 - c : Nat) : Int) := by rw [IntKind.wrap_u64]; omega
              have g2 : IntKind.u64.wrap (((us.getD (j + (k + 2)) 0 - c : Nat) : Int) - (o : Int)) = (X : Int) := by rw [IntKind.wrap_u64]; omega
              have hX32 : X < 4294967296 := by omega
              generalize us.getD (j + (k + 2)) 0 = y at *
              obtain ⟨yc, hyc⟩ : ∃ yc, y - c = yc := ⟨_, rfl⟩
              rw [hyc] at g1 g2
              have hXs : (X : Int) / 9223372036854775808 = 0 := by omega
              have hXm : (X : Int) % 4294967296 = (X : Int) := by omega
              obtain ⟨W, hW, ee1, ee2, hQ9, hB9, hS9, hoth⟩ := HRO.out.put (j + (k + 2)) X (by have := HU1.out.1; have := HM.out; have := HJM.out; omega) HBO.out HGEO.out.2.1
              have hqW : Nt.Row W Tq qs := by
                obtain ⟨cur, tt, h1, h2⟩ := HQO.out
                exact ⟨cur, tt, (hoth Tq (by have := HGEO.out.2.2.1; omega)).trans h1, h2⟩
              obtain ⟨W2, hW2, ee3, ee4, hQ8, hB8, hS8, hoth2⟩ := hqW.put j t (by have := HQ.out.1; omega) hB9 (by have := HGEO.out; omega)
              have hrW : Nt.Row W2 T9 (us1.set (j + (k + 2)) X) := by
                obtain ⟨cur, tt, h1, h2⟩ := hQ9
                exact ⟨cur, tt, (hoth2 T9 (by have := HGEO.out.2.2.1; omega)).trans h1, h2⟩
              have HR := Lib.hid (And.intro hX32 (And.intro hend (And.intro hrW (And.intro hQ8 hB8))))
              clear hfit hX hend hyc hQ9 hB9 hS9 hoth hqW hQ8 hB8 hS8 hoth2 hrW hX32 hco
              go_wp2_with fail
              go_roundg j
              case measure => omega
              case rel => exact ⟨by have := HJM.out; omega, rfl, _, _, by rw [List.length_set]; exact HU1.out.1, HU1.out.2.1.set _ _ HR.out.1, by rw [List.length_set]; exact HQ.out.1, HQ.out.2.1.set _ _ (by omega), Nt.set_low HQ.out.2.2.1, Nt.set_quot HR.out.2.1.1 HQ.out.2.2.1 (by have := HQ.out.1; omega), HR.out.2.1.2, HR.out.2.2.1, HR.out.2.2.2.1, HR.out.2.2.2.2⟩
            · have hg := HG.out.2
              have hX : Hid (True) := Lib.hid trivial
              have htpos : 1 ≤ t := by
                have h1 := HU1.out.2.2.2.2
                rcases Nat.eq_zero_or_pos t with h0 | h0
                · exfalso
                  rw [h0, Nat.zero_mul, Nat.add_zero] at h1
                  have h2 := Nt.val_seg_lt HU1.out.2.1 j (k + 2)
                  have h3 : 4294967296 ^ (k + 2) * 1 ≤ 4294967296 ^ (k + 2) * (c + o) := Nat.mul_le_mul_left _ (by omega)
                  omega
                · exact h0
              obtain ⟨t1, ht1⟩ : ∃ t1, t = t1 + 1 := ⟨t - 1, by omega⟩
              have htI : (t : Int) - 1 = (t1 : Int) := by omega
              have ht1w : (t1 : Int) % 4294967296 = (t1 : Int) := by omega
              obtain ⟨Y, hY⟩ : ∃ Y : Nat, ((us.getD (j + (k + 2)) 0 : Nat) - (c : Int)) % 18446744073709551616 = (Y : Int) := ⟨(((us.getD (j + (k + 2)) 0 : Nat) - (c : Int)) % 18446744073709551616).toNat, by omega⟩
              obtain ⟨X, hX2⟩ : ∃ X : Nat, ((Y : Int) - (o : Int)) % 18446744073709551616 = (X : Int) := ⟨(((Y : Int) - (o : Int)) % 18446744073709551616).toNat, by omega⟩
              have g1 : IntKind.u64.wrap ((us.getD (j + (k + 2)) 0 : Nat) - (c : Int)) = (Y : Int) := by rw [IntKind.wrap_u64]; exact hY
              have g2 : IntKind.u64.wrap ((Y : Int) - (o : Int)) = (X : Int) := by rw [IntKind.wrap_u64]; exact hX2
              have hXs : (X : Int) / 9223372036854775808 = 1 := by omega
              obtain ⟨x4, hx4⟩ : ∃ x4 : Nat, (X : Int) % 4294967296 = (x4 : Int) := ⟨X % 4294967296, by omega⟩
              have hx4v : us.getD (j + (k + 2)) 0 + 4294967296 = x4 + c + o := by omega
              have hx32 : x4 < 4294967296 := by omega
              have HX4 := Lib.hid (And.intro hx4v hx32)
              have HCO := Lib.hid hco
              clear hY hX2 hx4v hx32 hco
              generalize hyy : us.getD (j + (k + 2)) 0 = y at *
              have HYY := Lib.hid hyy
              obtain ⟨W, hW, ee1, ee2, hQ9, hB9, hS9, hoth⟩ := HRO.out.put (j + (k + 2)) x4 (by have := HU1.out.1; have := HM.out; have := HJM.out; omega) HBO.out HGEO.out.2.1
              have hqW : Nt.Row W Tq qs := by
                obtain ⟨cur, tt, h1, h2⟩ := HQO.out
                exact ⟨cur, tt, (hoth Tq (by have := HGEO.out.2.2.1; omega)).trans h1, h2⟩
              have HW := Lib.hid (And.intro hQ9 (And.intro hqW hB9))
              have HT1 := Lib.hid ht1
              have HGG := Lib.hid hg
              clear hyy hQ9 hB9 hS9 hoth hqW hqj ht1 hg htpos
              go_wp2_with fail
              clear hx4 hXs g1 g2
              go_loopg [21, 210] (k + 2) (fun g cv iv wr => ∃ i cc : Nat, ∃ ub : List Nat, i + g = k + 2 ∧ iv = .int .i64 i ∧ cv = .int .u32 cc ∧ cc ≤ 1 ∧ ub.length = la + 1 ∧ Nt.Wd ub ∧ ub.take j = us1.take j ∧ ub.drop (j + i) = (us1.set (j + (k + 2)) x4).drop (j + i) ∧ Nt.val ((ub.drop j).take i) + 4294967296 ^ i * cc = Nt.val ((us1.drop j).take i) + Nt.val (ds.take i) ∧ Nt.Row wr T9 ub ∧ Nt.Row wr Tq qs ∧ Below B2 w10 wr)
              case atStart => exact ⟨0, 0, _, by omega, rfl, rfl, by decide, by rw [List.length_set]; exact HU1.out.1, HU1.out.2.1.set _ _ HX4.out.2, by rw [Nt.take_set_ge], rfl, by simp [Nt.val], HW.out.1, HW.out.2.1, HW.out.2.2⟩
              case round =>
                obtain ⟨i, cc, ub, hig, rfl, rfl, hcc1, hul2, hud2, htk2, hdr2, hv2, hro, hqo, hbo⟩ := hrel
                obtain ⟨wk, hwk⟩ : ∃ z, z = wr := ⟨_, rfl⟩
                subst hwk
                have HU2 := Lib.hid (And.intro hul2 (And.intro hud2 (And.intro htk2 (And.intro hdr2 hv2))))
                clear hul2 hud2 htk2 hdr2 hv2 HRO HQO HBO hcu ee1 ee2 hnlt
                have HRO := Lib.hid hro
                have HQO := Lib.hid hqo
                have HBO := Lib.hid hbo
                clear hro hqo hbo
                by_cases hik : i < k + 2
                · have hlw := HU2.out.1
                  have hM' := HM.out
                  have hJM' := HJM.out
                  have hcu := HRO.out.cell (j + i) (by omega)
                  have heu : ub.getD (j + i) 0 = us1.getD (j + i) 0 := by
                    rw [Nt.drop_getD HU2.out.2.2.2.1 (Nat.le_refl _), Nt.getD_set_ne _ _ _ _ (by omega)]
                  rw [heu] at hcu
                  have hxu := HU1.out.2.1.getD (j + i)
                  have hdin := HD10.out.low HDB.out HBO.out
                  obtain ⟨bd', od', hbe, hdl0, _, hbld', hcelld⟩ := Nt.In.at hdin (by have := HDS.out.1; omega)
                  simp only [Option.some.injEq, Addr.mk.injEq, and_true] at hbe
                  obtain ⟨rfl, rfl⟩ := hbe
                  have d1 := hcelld i (by have := HDS.out.1; omega)
                  have hxd := HDS.out.2.1.getD i
                  have hstep := Nt.back_step (u0 := us1) (us := ub) (d := ds) (j := j) (k := i) (c := cc) HU2.out.2.2.2.2 (by omega)
                  have HSTEP := Lib.hid hstep
                  have KA := fun w => Nt.Add32_any (us1.getD (j + i) 0) (ds.getD i 0) cc w hxu hxd hcc1
                  clear hdin hdl0 hcelld heu hstep
                  generalize us1.getD (j + i) 0 = y' at *
                  generalize ds.getD i 0 = e at *
                  have hs1 : (y' + e + cc) % 4294967296 < 4294967296 := Nat.mod_lt _ (by decide)
                  have hc1' : (y' + e + cc) / 4294967296 ≤ 1 := by omega
                  generalize (y' + e + cc) % 4294967296 = sv at *
                  generalize (y' + e + cc) / 4294967296 = cv at *
                  have hput : ∃ W, wk.drew.setCell ⟨T9, j + i, none⟩ (.int .u32 (sv : Int)) = W ∧ wk.frozen? ⟨T9, j + i, none⟩ = false ∧ wk.drew.frozen? ⟨T9, j + i, none⟩ = false ∧ wk.drew.cell? ⟨T9, j + i, none⟩ = some (.int .u32 (y' : Nat)) ∧ Nt.Row W T9 (ub.set (j + i) sv) ∧ Nt.Row W Tq qs ∧ Below B2 w10 W := by
                    obtain ⟨W, h1, h2, h3, h4, h5, _, h7⟩ := (show Nt.Row wk.drew T9 ub from HRO.out).put (j + i) sv (by omega) (show Below B2 w10 wk.drew from HBO.out.drew) HGEO.out.2.1
                    refine ⟨W, h1, HRO.out.frozen _, h3, hcu, h4, ?_, h5⟩
                    obtain ⟨cur, tt, g1, g2⟩ := HQO.out
                    exact ⟨cur, tt, (h7 Tq (by have := HGEO.out.2.2.1; omega)).trans g1, g2⟩
                  obtain ⟨W, hW, hf1, hf2, hcd, hR1, hR2, hR3⟩ := hput
                  have HR := Lib.hid (And.intro hs1 (And.intro hc1' (And.intro hR1 (And.intro hR2 hR3))))
                  have hikI : (i : Int) < (k : Int) + 2 := by omega
                  have hik2 : (i : Int) + (j : Int) < (la : Int) + 1 := by omega
                  have hij : i + j = j + i := by omega
                  rw [← hij] at hcu hW hf1 hf2 hcd
                  have hw1 : IntKind.i64.wrap ((i : Int) + (j : Int)) = (i : Int) + (j : Int) := IntWalk.i64_in _ (by omega)
                  have hw2 : (0 : Int) ≤ (i : Int) + (j : Int) := by omega
                  have hw3 : ((i : Int) + (j : Int)).toNat = i + j := by omega
                  have hw4 : (0 : Int) ≤ (i : Int) := by omega
                  clear hij hxu hxd hs1 hc1' hlw hM' hJM' hR1 hR2 hR3
                  go_wp2_with fail
                  go_region_with (go_at_call 124; refine (KA _).mono ?_; rintro z wz ⟨rfl, hwz⟩; subst hwz)
                  all_goals
                    go_wp2_with fail
                    go_roundg (gk - 1)
                    case measure => omega
                    case rel => exact ⟨i + 1, cv, _, by omega, by first | rfl | go_num | (simp; try omega), rfl, HR.out.2.1, by rw [List.length_set]; exact HU2.out.1, HU2.out.2.1.set _ _ HR.out.1, by rw [Nt.take_set_ge]; exact HU2.out.2.2.1, by rw [Nt.drop_set_lt _ _ _ _ (by omega)]; exact Nt.drop_more HU2.out.2.2.2.1 (by omega), HSTEP.out, HR.out.2.2.1, HR.out.2.2.2.1, HR.out.2.2.2.2⟩
                · obtain rfl : i = k + 2 := by omega
                  have hnlt2 : decide (((k : Int) + 2) < ((k : Int) + 2)) = false := decide_eq_false (by omega)
                  have hback := Nt.round_back (u := us) (us := us1) (ub := ub) (d := ds) (n := k + 2) (j := j) (t := t) (c := c) (o := o) (cc := cc) HU1.out.2.1 HU2.out.2.1 HU1.out.2.2.2.2 HDS.out.1 (by have := HU2.out.1; have := HM.out; have := HJM.out; omega) (by rw [HYY.out]; exact HCO.out) HU2.out.2.2.2.2 hcc1 HGG.out (by rw [HDS.out.2.2.2.1]; exact HDS.out.2.2.2.2) hc32 ho1
                  obtain ⟨hcc, hyc, _, hlt', hval'⟩ := hback
                  subst hcc
                  rw [HYY.out] at hyc
                  obtain rfl : x4 = 4294967295 := by have := HX4.out; omega
                  have hcu := HRO.out.cell (j + (k + 2)) (by have := HU2.out.1; have := HM.out; have := HJM.out; omega)
                  have heu : ub.getD (j + (k + 2)) 0 = 4294967295 := by
                    rw [Nt.drop_getD HU2.out.2.2.2.1 (Nat.le_refl _), Nt.getD_set_self _ _ _ (by have := HU1.out.1; have := HM.out; have := HJM.out; omega)]
                  rw [heu] at hcu
                  have hend := Nt.round_end (t := t - 1) HU.out.2.2.1 HU.out.2.1 (n := k + 2) (j := j) (un := ub.set (j + (k + 2)) 0) (by have := HU.out.1; have := HM.out; have := HJM.out; omega) (by rw [List.length_set, HU2.out.1, HU.out.1]) (by rw [Nt.take_set_ge, HU2.out.2.2.1]; exact HU1.out.2.2.1) (by rw [Nt.drop_set_lt _ _ _ _ (by omega)]; exact (Nt.drop_more HU2.out.2.2.2.1 (by omega)).trans ((Nt.drop_set_lt _ _ _ _ (by omega)).trans (Nt.drop_more HU1.out.2.2.2.1 (by omega)))) HU.out.2.2.2.1 (by rw [HDS.out.2.2.2.1]; exact HDS.out.2.2.2.2) hval' (Nt.guess_rest hval' (by
                    have h1 : Nt.val ((us.drop j).take (k + 2 + 1)) / Nt.val ds < t := Nat.div_lt_of_lt_mul (by rw [Nat.mul_comm]; exact hlt')
                    omega) HDP.out)
                  rw [show t - 1 = t1 by have := HT1.out; omega] at hend
                  obtain ⟨W, hW', ee1, ee2, hQ9, hB9, hS9, hoth⟩ := HRO.out.put (j + (k + 2)) 0 (by have := HU2.out.1; have := HM.out; have := HJM.out; omega) HBO.out HGEO.out.2.1
                  have hW2 : wk.setCell ⟨T9, j + (k + 2), none⟩ (.int .u32 0) = W := hW'
                  have hqW : Nt.Row W Tq qs := by
                    obtain ⟨cur, tt, h1, h2⟩ := HQO.out
                    exact ⟨cur, tt, (hoth Tq (by have := HGEO.out.2.2.1; omega)).trans h1, h2⟩
                  obtain ⟨W2, hW3, ee3, ee4, hQ8, hB8, hS8, hoth2⟩ := hqW.put j t1 (by have := HQ.out.1; omega) hB9 (by have := HGEO.out; omega)
                  have hrW : Nt.Row W2 T9 (ub.set (j + (k + 2)) 0) := by
                    obtain ⟨cur, tt, h1, h2⟩ := hQ9
                    exact ⟨cur, tt, (hoth2 T9 (by have := HGEO.out.2.2.1; omega)).trans h1, h2⟩
                  have HR := Lib.hid (And.intro hend (And.intro hrW (And.intro hQ8 hB8)))
                  have ht1l : t1 < 4294967296 := by have := HT1.out; omega
                  clear hend hyc hlt' hval' hW' hQ9 hB9 hS9 hoth hqW hQ8 hB8 hS8 hoth2 hrW heu
                  go_wp2_with fail
                  go_roundg j
                  case measure => omega
                  case rel => exact ⟨by have := HJM.out; omega, rfl, _, _, by rw [List.length_set]; exact HU2.out.1, HU2.out.2.1.set _ _ (by decide), by rw [List.length_set]; exact HQ.out.1, HQ.out.2.1.set _ _ ht1l, Nt.set_low HQ.out.2.2.1, Nt.set_quot HR.out.1.1 HQ.out.2.2.1 (by have := HQ.out.1; omega), HR.out.1.2, HR.out.2.1, HR.out.2.2.1, HR.out.2.2.2⟩
end Go.Proofs.YtdjllmogejkimaaGreatDoor
