/-
  sextantref07.Write of any world.
-/
import Derived.Test.YtdikkknjdbchbaaWoRefGet
import Derived.Test.YtdikkknjdbchbaaWoRefPut
import Derived.Test.YtdikkknjdbchbaaWoWrite
namespace Go.Proofs.Ytdikkknjdbchbaa
open Go.RowKit
set_option linter.unusedVariables false
set_option linter.unusedSimpArgs false

theorem Wo.own_slice {w : World} {B : Nat} {t : TypeId} {k n : Nat} {v : Value} {xs : List Value} (h : w.ownsRow B t k v n xs) : ∃ a c, v = .slice a n c := by
  rcases h.2 with ⟨h1, h2⟩ | ⟨g, c, cur, h1, _⟩
  · exact ⟨none, 0, by rw [h1, h2]⟩
  · exact ⟨_, c, h1⟩
theorem Wo.splice_two (old : ByteArray) (m : Nat) (d : ByteArray) (n : Nat) (hm : m ≤ old.size) (hn : m + d.size = n) : ∃ pre sp : ByteArray, Wo.bytesOf (old.data.toList.take m) = pre ∧ Wo.splice old m d = sp ∧ pre.size = m ∧ sp.size = max n old.size ∧
    (By.vals sp).take n = By.vals pre ++ By.vals d ∧ ∀ j, n ≤ j → j < old.size → Cd.byt sp j = Cd.byt old j := by
  have e : Wo.splice old m d = Wo.bytesOf (old.data.toList.take m ++ d.data.toList ++ old.data.toList.drop n) := by rw [← hn]; rfl
  have hl : (old.data.toList.take m ++ d.data.toList).length = n := by
    rw [List.length_append, List.length_take, Wo.len_list, Wo.len_list]; omega
  refine ⟨_, _, rfl, rfl, ?_, ?_, ?_, fun j hj hjo => ?_⟩
  · rw [Wo.bytesOf_size, List.length_take, Wo.len_list]; omega
  · rw [e, Wo.bytesOf_size, List.length_append, hl, List.length_drop, Wo.len_list]; omega
  · rw [e, Wo.bv_data, Wo.bytesOf_data, Wo.bv_data, Wo.bytesOf_data, Wo.bv_data, ← By.bv_append]
    have hb : ∀ l : List UInt8, (By.bv l).length = l.length := fun l => by simp [By.bv]
    rw [By.bv_append (old.data.toList.take m ++ d.data.toList)]
    have h2 : n = (By.bv (old.data.toList.take m ++ d.data.toList)).length := by rw [hb, hl]
    conv => lhs; rw [h2]
    exact List.take_left
  · have hlen : j < (old.data.toList.take m ++ d.data.toList ++ old.data.toList.drop n).length := by
      rw [List.length_append, hl, List.length_drop, Wo.len_list]; omega
    rw [e, Wo.byt_of _ j hlen, Wo.byt_list old j (by rw [Wo.len_list]; exact hjo), List.getElem_append_right (by omega), List.getElem_drop]
    congr 3
    omega

set_option maxHeartbeats 8000000 in
set_option maxRecDepth 1000000 in
theorem Wo.WriteR_any (W : Wo.W) (v : Value) (name : ByteArray) (at_ : Int) (hat : (Lit.int .i64 at_).wf = true) (d : ByteArray) (dv : Value) (w : World) (h : Wo.In w v W) (hd : By.In w dv d) (hd47 : d.size ≤ 140737488355328) : Calls Try.prog 14 #[v, .string name, .int .i64 at_, dv] w fun e w' => ∃ v', e = .returned (.tuple #[v', .int .i64 (Wo.writeS W name at_ d).2]) ∧ Wo.In w' v' (Wo.writeS W name at_ d).1 ∧ Below w.heap.size w w' := by
  have KG := fun w h => Wo.GetR_any W v name w h
  have KP := fun d dv w h => Wo.PutR_any W v name d dv w h
  obtain ⟨add, capd, rfl⟩ := hd.slice
  obtain ⟨fv, iv, ov, rfl, hf, hi, ho⟩ := id h
  have H := Lib.hid h
  have HD := Lib.hid hd
  clear h hd
  obtain ⟨ad, cap, rfl⟩ := hf.slice
  obtain ⟨ad1, cap1, rfl⟩ := hi.slice
  obtain ⟨ad2, cap2, rfl⟩ := ho.slice
  clear hf hi ho
  obtain ⟨i0, hi0, hz0, hz1, hz2⟩ := info_parts Wo.infoByte
  obtain ⟨W2, hW2, q0, q1, hsz, hb0⟩ := Wo.two w (.cells #[.slice ad W.1.length cap, .slice ad1 W.2.1.size cap1, .slice ad2 W.2.2.size cap2] 26) (.cells #[.slice none 0 0, .slice none 0 0, .slice none 0 0] 26)
  have HIN := Lib.hid (fun (w' : World) (hb : Below W2.heap.size W2 w') => (H.out.below hb0 (Nat.le_refl _)).below hb (Nat.le_refl _))
  have HDN := Lib.hid (fun (w' : World) (hb : Below W2.heap.size W2 w') => (HD.out.below hb0 (Nat.le_refl _)).below hb (Nat.le_refl _))
  have HQ := Lib.hid (fun (w' : World) (hb : Below W2.heap.size W2 w') => Wo.row3 q0 hb (Nat.le_refl _))
  have HR := Lib.hid (fun (w' : World) (hb : Below W2.heap.size W2 w') => (Wo.row3 q1 hb (Nat.le_refl _)).1)
  have HB := Lib.hid (fun (w' : World) (hb : Below W2.heap.size W2 w') => hb0.trans (hb.mono (by omega : w.heap.size ≤ W2.heap.size)))
  obtain ⟨_, e0, e1, e2⟩ := HQ.out W2 (Below.refl _ _)
  clear q0 q1 hb0
  by_cases hok : (Wo.getS W name).2 = 0
  case neg =>
    have hg : Wo.writeS W name at_ d = (Wo.w0, (Wo.getS W name).2) := by simp [Wo.writeS, hok]
    rw [hg]
    have hne : ((Wo.getS W name).2 != 0) = true := by simp [hok]
    clear hg hok
    generalize (Wo.getS W name).2 = ge at *
    go_enter Try.func14, Try.ntmps14
    go_wp2_with fail
    refine (KG _ (HIN.out _ (Below.refl _ _))).mono ?_
    rintro x w1 ⟨v1, rfl, hu1, hb1⟩
    obtain ⟨X1, X2, X3, ⟨f0, z0, s0⟩, ⟨f1, z1, s1⟩, ⟨f2, z2, s2⟩, ⟨r0, r1, r2⟩, HOUT⟩ := Wo.put_none (HR.out _ hb1) (HB.out _ hb1) (by omega)
    clear hb1 hu1
    go_wp2_with fail
    refine bodyPost_ret (v := .tuple #[.agg #[.slice none 0 0, .slice none 0 0, .slice none 0 0], .int .i64 ge]) (by simp [results, Try.results14, go_sem, r0, r1, r2]) rfl ⟨_, rfl, HOUT.out.1, HOUT.out.2⟩
  case pos =>
    obtain ⟨old, hold⟩ : ∃ old, (Wo.getS W name).1 = old := ⟨_, rfl⟩
    have hol : old.size ≤ 65536 := by
      rw [← hold]
      unfold Wo.getS
      split
      · rename_i hs
        split
        · rename_i hh
          unfold Wo.has Wo.hit at hh
          simp only [Bool.and_eq_true, decide_eq_true_eq] at hh
          exact (Wo.sound_bd hs).2.2.2 _ hh.1
        · exact Nat.zero_le _
      · exact Nat.zero_le _
    simp only [hok, hold] at KG
    by_cases hat0 : 0 ≤ at_ ∧ at_ ≤ old.size
    case neg =>
      have hg : Wo.writeS W name at_ d = (Wo.w0, 1) := by simp only [Wo.writeS, hok, hold, if_true]; rw [if_neg hat0]
      rw [hg]
      clear hg hok hold
      have hcase : at_ < 0 ∨ (0 ≤ at_ ∧ at_ > (old.size : Int)) := by omega
      clear hat0
      rcases hcase with hc | ⟨hc0, hc⟩
      all_goals
        go_enter Try.func14, Try.ntmps14
        go_wp2_with fail
        refine (KG _ (HIN.out _ (Below.refl _ _))).mono ?_
        rintro x w1 ⟨v1, rfl, hu1, hb1⟩
        obtain ⟨a1, c1, rfl⟩ := hu1.1.slice
        obtain ⟨X1, X2, X3, ⟨f0, z0, s0⟩, ⟨f1, z1, s1⟩, ⟨f2, z2, s2⟩, ⟨r0, r1, r2⟩, HOUT⟩ := Wo.put_none (HR.out _ hb1) (HB.out _ hb1) (by omega)
        clear hb1 hu1
        go_wp2_with fail
        refine bodyPost_ret (v := .tuple #[.agg #[.slice none 0 0, .slice none 0 0, .slice none 0 0], .int .i64 1]) (by simp [results, Try.results14, go_sem, r0, r1, r2]) rfl ⟨_, rfl, HOUT.out.1, HOUT.out.2⟩
    case pos =>
      obtain ⟨m, rfl⟩ := Int.eq_ofNat_of_zero_le hat0.1
      have hm : m ≤ old.size := by omega
      by_cases hl : (d.size : Int) ≤ 65536 - (m : Int)
      case neg =>
        have hg : Wo.writeS W name m d = (Wo.w0, 4) := by simp only [Wo.writeS, hok, hold, if_true]; rw [if_pos hat0, if_neg hl]
        rw [hg]
        clear hg hok hold hat0
        have h1 : ¬ (m : Int) < 0 := by omega
        have h2 : ¬ (m : Int) > (old.size : Int) := by omega
        have h3 : (65536 : Int) < (m : Int) + (d.size : Int) := by omega
        have hwr : IntKind.i64.wrap ((m : Int) + (d.size : Int)) = (m : Int) + (d.size : Int) := by rw [IntKind.wrap_i64]; omega
        have h4 : (m : Int) ≤ 65536 := by omega
        go_enter Try.func14, Try.ntmps14
        go_wp2_with fail
        refine (KG _ (HIN.out _ (Below.refl _ _))).mono ?_
        rintro x w1 ⟨v1, rfl, hu1, hb1⟩
        obtain ⟨a1, c1, rfl⟩ := hu1.1.slice
        obtain ⟨X1, X2, X3, ⟨f0, z0, s0⟩, ⟨f1, z1, s1⟩, ⟨f2, z2, s2⟩, ⟨r0, r1, r2⟩, HOUT⟩ := Wo.put_none (HR.out _ hb1) (HB.out _ hb1) (by omega)
        clear hb1 hu1
        go_wp2_with fail
        refine bodyPost_ret (v := .tuple #[.agg #[.slice none 0 0, .slice none 0 0, .slice none 0 0], .int .i64 4]) (by simp [results, Try.results14, go_sem, r0, r1, r2]) rfl ⟨_, rfl, HOUT.out.1, HOUT.out.2⟩
      case pos =>
        have hg : Wo.writeS W name m d = Wo.putS W name (Wo.splice old m d) := by simp only [Wo.writeS, hok, hold, if_true]; rw [if_pos hat0, if_pos hl]; rfl
        rw [hg]
        obtain ⟨n, hn⟩ : ∃ n, m + d.size = n := ⟨_, rfl⟩
        obtain ⟨pre, sp, hpre, hsp, hprel, hspl, hspn, hspb⟩ := Wo.splice_two old m d n hm hn
        rw [hsp]
        have HB := HB
        have h1 : ¬ (m : Int) < 0 := by omega
        have h2 : ¬ (m : Int) > (old.size : Int) := by omega
        have h3 : ¬ (65536 : Int) < (m : Int) + (d.size : Int) := by omega
        have hwr : IntKind.i64.wrap ((m : Int) + (d.size : Int)) = (m : Int) + (d.size : Int) := by rw [IntKind.wrap_i64]; omega
        have h5 : (0 : Int) ≤ (m : Int) := by omega
        have h6 : (m : Int) ≤ (old.size : Int) := by omega
        have hn64 : n ≤ 65536 := by omega
        have hss : sp.size ≤ 65536 := by rw [hspl]; omega
        have HSPN := Lib.hid hspn
        have HSPL := Lib.hid hspl
        have HSPB := Lib.hid hspb
        have HPL := Lib.hid hprel
        have HSS := Lib.hid hss
        have HI0 := Lib.hid hi0
        clear hg hok hold hat0 hspn hspl hspb hsp hprel hi0 hss
        go_enter Try.func14, Try.ntmps14
        go_wp2_with fail
        refine (KG _ (HIN.out _ (Below.refl _ _))).mono ?_
        rintro x w1 ⟨v1, rfl, hu1, hb1⟩
        obtain ⟨a1, c1, rfl⟩ := hu1.1.slice
        have hcap1 : old.size ≤ c1 := by
          rcases hu1.1 with ⟨h1, h0⟩ | ⟨a, c, h1, h0⟩ | ⟨h0, b, off, c, h1, h2, _⟩
          · omega
          · omega
          · simp only [Value.slice.injEq] at h1
            omega
        have h7 : (m : Int) ≤ (c1 : Int) := by omega
        have HB1 := Lib.hid hb1
        have hA1 : ∀ o, Below w1.heap.size w1 (w1.alloc o) := fun o => Wo.belowA (Below.refl _ _) o
        have HA1 := Lib.hid (hA1 (.cells #[] 5))
        have HU1 := Lib.hid (fun (w' : World) (hb : Below w1.heap.size w1 w') => hu1.below hb (Nat.le_refl _))
        have HPI := Lib.hid (show By.In (w1.alloc (.cells #[] 5)) (.slice a1 m c1) pre from hpre ▸ (HU1.out _ HA1.out).1.takeN m hm)
        have hp47 : pre.size ≤ 140737488351232 := by have := HPL.out; omega
        clear hA1 hu1 hb1 hpre
        go_wp2_with (at_builtin; refine Wo.wpList_append_fresh rfl _ _ 22 rfl i0 (.int .u8 0) Try.underlying22 HI0.out hz0 hz1 hz2 rfl w1.heap.size rfl (Wo.new_at w1 _ _ rfl) _ pre rfl HPI.out hp47 ?_)
        intro v4 w4 hu4 hb4 hl4
        replace hb4 : Below (w1.alloc (.cells #[] 5)).heap.size (w1.alloc (.cells #[] 5)) w4 := by first | exact hb4 | (rw [Wo.szA]; exact hb4)
        have hge4 : Wo.Ge w1.heap.size v4 := by
          intro k h2
          rcases hl4 with h' | ⟨h', hl'⟩ <;> (rw [h'] at h2; simp only [Option.some.injEq] at h2; (try simp only [Wo.szA, Wo.szD] at h2); omega)
        have hb14 : Below w1.heap.size w1 w4 := HA1.out.trans (hb4.mono HA1.out.size)
        have own4 := hu4.own hge4
        have HB14 := Lib.hid hb14
        have hinD := HDN.out _ (Wo.belowT HB1.out hb14)
        obtain ⟨a4, c4, rfl⟩ := hu4.1.slice
        have HGE4 := Lib.hid hge4
        clear hge4 hb14 hl4 hb4 hu4
        go_wp2_with (at_builtin; refine By.wpList_append_bytes rfl _ _ 22 rfl w1.heap.size 5 i0 (.int .u8 0) Try.underlying22 HI0.out hz0 hz1 hz2 rfl _ pre.size (By.vals pre) rfl own4 _ d rfl hinD ?c3 ?c4 ?c5 ?_)
        case c3 => have := HPL.out; unfold maxLen; omega
        case c4 => have := HPL.out; omega
        case c5 => exact HB14.out.size
        intro v5 w5 hown5 hgr5 _
        rw [← HSPN.out, HPL.out, hn] at hown5
        have HB5 := Lib.hid (HB14.out.grown hgr5 HB14.out.size HGE4.out)
        obtain ⟨a5, c5, rfl⟩ := Wo.own_slice hown5
        have HO5 := Lib.hid hown5
        clear hown5 hgr5 own4 hinD
        have hnsp : n ≤ sp.size := by rw [HSPL.out]; omega
        go_wp2_with fail
        go_loopw [12, 13] (fun nv i wr => ∃ j : Nat, i = .int .i64 j ∧ n ≤ j ∧ j ≤ sp.size ∧ wr.ownsRow w1.heap.size 5 1 nv j ((By.vals sp).take j) ∧ Below w1.heap.size w1 wr) (fun _ i _ => sp.size - (intOf i).toNat)
        case atStart => exact ⟨n, rfl, Nat.le_refl _, hnsp, HO5.out, HB5.out⟩
        case round =>
          obtain ⟨j, rfl, hnj, hjs, hown, hbw⟩ := hrel
          obtain ⟨wo, hwo⟩ : ∃ z, z = wr := ⟨_, rfl⟩
          subst hwo
          obtain ⟨aj, cj, rfl⟩ := Wo.own_slice hown
          have HBW := Lib.hid hbw
          have HO := Lib.hid hown
          clear hown hbw
          by_cases hlt : j < old.size
          · have hj2 : j < sp.size := by rw [HSPL.out]; omega
            have hbyte := HSPB.out j hnj hlt
            have htake : (By.vals sp).take j ++ [.int .u8 (Cd.byt old j)] = (By.vals sp).take (j + 1) := by
              rw [List.take_add_one, By.vals_at sp j hj2, hbyte]
              rfl
            have HTK := Lib.hid htake
            rcases (HU1.out _ HBW.out).1 with ⟨_, h0⟩ | ⟨_, _, _, h0⟩ | ⟨h0, b, off, c, he, hc2, hc3, hcell⟩
            · omega
            · omega
            simp only [Value.slice.injEq, true_and] at he
            obtain ⟨rfl, rfl⟩ := he
            have c0 := hcell j hlt
            have hownA := Go.World.ownsRow.alloc HO.out (.cells #[.int .u8 (Cd.byt old j)] 5)
            have HXB := Lib.hid (Wo.belowA HBW.out (.cells #[.int .u8 (Cd.byt old j)] 5))
            have HGO := Lib.hid (fun k hk => (HO.out.lt k hk).1)
            clear hcell htake hbyte
            go_wp2_with (at_builtin; refine wpList_append_own _ rfl _ _ 22 rfl w1.heap.size 5 i0 (.int .u8 0) 1 1 Try.underlying22 HI0.out hz0 hz1 hz2 rfl (by decide) _ j _ rfl hownA ⟨wo.heap.size, 0, none⟩ 1 1 [.int .u8 (Cd.byt old j)] rfl rfl (cell_one_new _ _ _) ?c1 ?c2 ?c3 ?c4 ?_)
            case c1 => first | exact rfl | (intro u hu; simp only [List.mem_cons, List.not_mem_nil, or_false] at hu; subst hu; rfl)
            case c2 => have := HSS.out; unfold maxLen; omega
            case c3 => have := HSS.out; omega
            case c4 => first | exact HXB.out.size | (have h := HXB.out.size; rw [Wo.szA] at h; exact h)
            intro v9 w9 hown9 hgr9 _
            rw [HTK.out] at hown9
            have HB9 := Lib.hid (HXB.out.grown hgr9 HXB.out.size HGO.out)
            have HO9 := Lib.hid hown9
            clear hown9 hgr9 hownA c0
            go_wp2_with fail
            go_roundw
            case rel => exact ⟨j + 1, by first | rfl | go_num | (simp; try omega), by omega, hj2, HO9.out, HB9.out⟩
            case measure => simp [intOf]; omega
          · obtain rfl : j = sp.size := by have := HSPL.out; omega
            have hown := HO.out
            rw [List.take_of_length_le (by rw [By.vals_len]; exact Nat.le_refl _)] at hown
            have HI5 := Lib.hid (Wo.InU.of_own hown).1
            have HBX := Lib.hid (Wo.belowT HB1.out HBW.out)
            have hnlt : decide ((sp.size : Int) < (old.size : Int)) = false := decide_eq_false (by omega)
            obtain ⟨_, g0, g1, g2⟩ := HQ.out _ HBX.out
            clear hown
            go_wp2_with fail
            refine (KP sp _ _ (HIN.out _ HBX.out) HI5.out (by have := HSS.out; omega)).mono ?_
            rintro x w6 ⟨v6, rfl, hin6, hb6⟩
            obtain ⟨fx, ix, ox, X1, X2, X3, rfl, ⟨_, _, _, rfl⟩, ⟨_, _, _, rfl⟩, ⟨_, _, _, rfl⟩, ⟨f0, z0, s0⟩, ⟨f1, z1, s1⟩, ⟨f2, z2, s2⟩, ⟨r0, r1, r2⟩, HOUT⟩ := Wo.put_other (HR.out _ (Wo.belowT HBX.out hb6)) hin6 (HB.out _ (Wo.belowT HBX.out hb6)) (by omega)
            clear hin6 hb6
            go_wp2_with fail
            refine bodyPost_ret (v := .tuple #[.agg #[.slice _ _ _, .slice _ _ _, .slice _ _ _], .int .i64 (Wo.putS W name sp).2]) (by simp [results, Try.results14, go_sem, r0, r1, r2]) rfl ⟨_, rfl, HOUT.out.1, HOUT.out.2⟩
end Go.Proofs.Ytdikkknjdbchbaa
