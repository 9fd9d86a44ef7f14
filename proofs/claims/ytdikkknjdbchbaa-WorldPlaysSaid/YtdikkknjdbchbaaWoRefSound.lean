/-
  sextantref07.Sound, find and without of any files.
-/
import Derived.Test.YtdikkknjdbchbaaWoWrite
namespace Go.Proofs.Ytdikkknjdbchbaa
open Go.RowKit
set_option linter.unusedVariables false

set_option maxHeartbeats 4000000 in
set_option maxRecDepth 1000000 in
theorem Wo.SoundR_any (W : Wo.W) (v : Value) (w : World) (h : Wo.In w v W) : Calls Try.prog 22 #[v] w fun e w' => e = .returned (.bool (Wo.sound W)) ∧ Below w.heap.size w w' := by
  obtain ⟨fv, iv, ov, rfl, hf, hi, ho⟩ := h
  obtain ⟨fs, inp, out⟩ := W
  simp only at hf hi ho
  obtain ⟨ad, cap, rfl⟩ := hf.slice
  obtain ⟨ad1, cap1, rfl⟩ := hi.slice
  obtain ⟨ad2, cap2, rfl⟩ := ho.slice
  have hsp := Wo.sound_split (fs, inp, out)
  simp only at hsp
  have HF := Lib.hid hf
  clear hf hi ho
  have hb0 : ∀ o, Below w.heap.size w (w.alloc o) := fun o => (Below.refl _ _).alloc (Nat.le_refl _) _
  generalize Wo.sound (fs, inp, out) = z at *
  rcases hsp with ⟨h1, rfl⟩ | ⟨h1, h2, rfl⟩ | ⟨h1, h2, h3, rfl⟩ | ⟨h1, h2, h3, hz⟩
  · have h1 : (fs.length : Int) > 64 := by omega
    go_enter Try.func22, Try.ntmps22
    go_wp2_with fail
    go_ret
    exact ⟨rfl, hb0 _⟩
  · have h1 : ¬ (fs.length : Int) > 64 := by omega
    have h2 : (inp.size : Int) > 65536 := by omega
    go_enter Try.func22, Try.ntmps22
    go_wp2_with fail
    go_ret
    exact ⟨rfl, hb0 _⟩
  · have h1 : ¬ (fs.length : Int) > 64 := by omega
    have h2 : ¬ (inp.size : Int) > 65536 := by omega
    have h3 : (out.size : Int) > 65536 := by omega
    go_enter Try.func22, Try.ntmps22
    go_wp2_with fail
    go_ret
    exact ⟨rfl, hb0 _⟩
  · have h1b : ¬ (fs.length : Int) > 64 := by omega
    have h2b : ¬ (inp.size : Int) > 65536 := by omega
    have h3b : ¬ (out.size : Int) > 65536 := by omega
    have HZ := Lib.hid hz
    clear hz
    go_enter Try.func22, Try.ntmps22
    go_wp2_with fail
    go_loopw [3] (fun i wr => ∃ k : Nat, i = .int .i64 k ∧ k ≤ fs.length ∧ (∀ j, j < k → Wo.okAt fs j = true) ∧ Below (w.heap.size + 1) (w.alloc (.cells #[.slice ad fs.length cap, .slice ad1 inp.size cap1, .slice ad2 out.size cap2] 26)) wr) (fun i _ => fs.length - (intOf i).toNat)
    case atStart => exact ⟨0, rfl, Nat.zero_le _, fun j h => by omega, Below.refl _ _⟩
    case round =>
      obtain ⟨k, rfl, hk, hall, hbw⟩ := hrel
      have HALL := Lib.hid hall
      have HBW := Lib.hid ((hb0 _).trans (hbw.mono (by omega)))
      have HBV := Lib.hid hbw
      have q0 := (hbw.block w.heap.size (by omega)).trans (heap_alloc_new w _)
      have d0 := Wo.cell_of q0 0
      have hzw : w.heap.size < wr.heap.size := (Array.getElem?_eq_some_iff.1 q0).1
      clear hall hbw
      by_cases hlt : k < fs.length
      · obtain ⟨b, off, rfl, _, hcap, hbl, hcell⟩ := (HF.out.below HBW.out (Nat.le_refl _)).at (by omega)
        obtain ⟨c0, da, dc, c1, _⟩ := hcell k hlt
        have hprev : Hid (0 < k → wr.cell? ⟨b, off + (k - 1) * 2, none⟩ = some (.string (fs.getD (k - 1) Wo.e0).1)) := Lib.hid (fun _ => (hcell (k - 1) (by omega)).1)
        have hbad : Wo.okAt fs k = false → z = false := fun h => by
          rw [HZ.out]
          refine decide_eq_false (fun hh => ?_)
          rw [hh k hlt] at h
          cases h
        have hsp := Wo.okAt_split fs k
        have HBAD := Lib.hid hbad
        have KN := Wo.namedR_any (fs.getD k Wo.e0).1
        unfold Wo.lt at hsp
        clear hcell hbad
        generalize fs.getD k Wo.e0 = d at *
        generalize fs.getD (k - 1) Wo.e0 = p at *
        generalize Wo.named d.1 = nd at *
        have HBX : Hid (∀ n, Below w.heap.size w (wr.drewN n)) := Lib.hid (fun n => below_drewN HBW.out n)
        have HBY : Hid (∀ n, Below (w.heap.size + 1) (w.alloc (.cells #[.slice (some ⟨b, off, none⟩) fs.length cap, .slice ad1 inp.size cap1, .slice ad2 out.size cap2] 26)) (wr.drewN n)) := Lib.hid (fun n => below_drewN HBV.out n)
        rcases hsp with ⟨rfl, ho⟩ | ⟨rfl, hs, ho⟩ | ⟨rfl, hs, hk0, ho⟩ | ⟨rfl, hs, hk0, ho⟩
        · obtain rfl := HBAD.out ho
          clear ho hprev
          go_wp2_with (first | (go_at_call 29; refine (KN _).mono ?_; rintro e w' ⟨rfl, hw'⟩; subst hw'))
          go_ret
          exact ⟨rfl, HBW.out⟩
        · obtain rfl := HBAD.out ho
          have hsI : (d.2.size : Int) > 65536 := by omega
          clear ho hprev
          go_wp2_with (first | (go_at_call 29; refine (KN _).mono ?_; rintro e w' ⟨rfl, hw'⟩; subst hw'))
          go_ret
          exact ⟨rfl, HBW.out⟩
        · subst hk0
          have hsI : decide ((d.2.size : Int) > 65536) = false := decide_eq_false (by omega)
          have hsJ : ¬ (d.2.size : Int) > 65536 := by omega
          have hk00 : decide ((((0 : Nat) : Int)) > 0) = false := by simp
          simp only [Nat.zero_mul, Nat.add_zero] at c0 c1
          have HO := Lib.hid ho
          clear hprev ho
          go_wp2_with (first | (go_at_call 29; refine (KN _).mono ?_; rintro e w' ⟨rfl, hw'⟩; subst hw'))
          go_quiet (fail)
          go_wp2_with fail
          go_roundw
          case rel => exact ⟨1, by first | rfl | go_num | simp, by omega, fun j hj => (show j = 0 by omega) ▸ HO.out, HBY.out _⟩
          case measure => simp [intOf]; omega
        · obtain ⟨j, rfl⟩ : ∃ j, k = j + 1 := ⟨k - 1, by omega⟩
          have hsI : decide ((d.2.size : Int) > 65536) = false := decide_eq_false (by omega)
          have hsJ : ¬ (d.2.size : Int) > 65536 := by omega
          have cp := hprev.out hk0
          simp only [Nat.add_sub_cancel] at cp
          have hkj : ((j : Int) + 1) > 0 := by omega
          have hkd : decide (((j : Int) + 1) > 0) = true := decide_eq_true hkj
          have hjj : ((j : Int) + 1 - 1) = (j : Int) := by omega
          cases hL : Op.bytesLess p.1.toList d.1.toList with
          | false =>
            obtain rfl := HBAD.out (ho.trans hL)
            have hgeq : (Op.bytesLess d.1.toList p.1.toList = true) ∨ (Op.bytesLess d.1.toList p.1.toList = false ∧ (d.1.toList == p.1.toList) = true) := by
              rcases Wo.lt_tri p.1.toList d.1.toList with h | h | h
              · rw [hL] at h; cases h
              · right
                rw [h]
                exact ⟨Wo.lt_irrefl _, by simp⟩
              · exact .inl h
            clear ho hprev hL
            rcases hgeq with hg1 | ⟨hg1, hg2⟩
            all_goals
              go_wp2_with (first | (go_at_call 29; refine (KN _).mono ?_; rintro e w' ⟨rfl, hw'⟩; subst hw'))
              go_quiet (fail)
              go_wp2_with fail
              go_ret
              exact ⟨rfl, HBX.out _⟩
          | true =>
            have HO := Lib.hid (ho.trans hL)
            have hg1 := Wo.lt_asymm _ _ hL
            have hg2 : (d.1.toList == p.1.toList) = false := by
              rw [beq_eq_false_iff_ne]
              intro h
              rw [h, Wo.lt_irrefl] at hL
              cases hL
            clear ho hprev hL
            go_wp2_with (first | (go_at_call 29; refine (KN _).mono ?_; rintro e w' ⟨rfl, hw'⟩; subst hw'))
            go_quiet (fail)
            go_wp2_with fail
            go_roundw
            case rel =>
              refine ⟨j + 1 + 1, by first | rfl | go_num | (simp; try omega), by omega, fun i hi => ?_, HBY.out _⟩
              rcases Nat.lt_or_ge i (j + 1) with h | h
              · exact HALL.out i h
              · obtain rfl : i = j + 1 := by omega
                exact HO.out
            case measure => simp [intOf]; omega
      · have hz : z = true := by
          rw [HZ.out]
          exact decide_eq_true (fun j hj => HALL.out j (by omega))
        subst hz
        go_wp2_with fail
        go_ret
        exact ⟨rfl, HBW.out⟩
end Go.Proofs.Ytdikkknjdbchbaa
