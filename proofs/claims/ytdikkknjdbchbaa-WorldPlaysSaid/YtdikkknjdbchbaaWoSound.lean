/-
  world.named, world.Sound, sextantref07.named, sextantref07.Sound, of any world.
-/
import Derived.Test.YtdikkknjdbchbaaWoPlain
import Derived.Test.YtdikkknjdbchbaaProg
import Derived.WalkKit
import Derived.WalkSpells
import Derived.WalkLawsBesides
import Derived.Handy
import Derived.BigCall
import Derived.BigQuiet
import Derived.Lib.Hide
import Derived.WalkSmall
import Derived.Outline
namespace Go.Proofs.Ytdikkknjdbchbaa
open Go.RowKit
set_option linter.unusedVariables false

theorem Wo.cell_of {w : World} {b : Nat} {C : Array Value} {t : TypeId} (h : w.heap[b]? = some (.cells C t (0, 0))) (k : Nat) : w.cell? ⟨b, k, none⟩ = C[k]? := by
  simp [World.cell?, h]
set_option maxHeartbeats 4000000 in
theorem Wo.named_any (s : ByteArray) (w : World) : Calls Try.prog 24 #[.string s] w fun e w' => e = .returned (.bool (Wo.named s)) ∧ w' = w := by
  have hs : (1 ≤ s.size ∧ s.size ≤ 255) ∧ Wo.named s = true ∨ (1 ≤ s.size ∧ ¬ s.size ≤ 255) ∧ Wo.named s = false ∨ (¬ 1 ≤ s.size) ∧ Wo.named s = false := by
    unfold Wo.named
    by_cases h : 1 ≤ s.size <;> by_cases h2 : s.size ≤ 255 <;> simp [h, h2]
  generalize Wo.named s = z at *
  rcases hs with ⟨⟨h1, h2⟩, rfl⟩ | ⟨⟨h1, h2⟩, rfl⟩ | ⟨h1, rfl⟩
  all_goals
    go_enter Try.func24, Try.ntmps24
    go_wp2
    go_ret
    first
    | exact ⟨rfl, rfl⟩
    | (refine ⟨?_, rfl⟩; congr 2; simp; omega)
set_option maxHeartbeats 4000000 in
theorem Wo.namedR_any (s : ByteArray) (w : World) : Calls Try.prog 29 #[.string s] w fun e w' => e = .returned (.bool (Wo.named s)) ∧ w' = w := by
  have hs : (1 ≤ s.size ∧ s.size ≤ 255) ∧ Wo.named s = true ∨ (1 ≤ s.size ∧ ¬ s.size ≤ 255) ∧ Wo.named s = false ∨ (¬ 1 ≤ s.size) ∧ Wo.named s = false := by
    unfold Wo.named
    by_cases h : 1 ≤ s.size <;> by_cases h2 : s.size ≤ 255 <;> simp [h, h2]
  generalize Wo.named s = z at *
  rcases hs with ⟨⟨h1, h2⟩, rfl⟩ | ⟨⟨h1, h2⟩, rfl⟩ | ⟨h1, rfl⟩
  all_goals
    go_enter Try.func29, Try.ntmps29
    go_wp2
    go_ret
    first
    | exact ⟨rfl, rfl⟩
    | (refine ⟨?_, rfl⟩; congr 2; simp; omega)

theorem Wo.sound_split (W : Wo.W) : (W.1.length > 64 ∧ Wo.sound W = false) ∨ (W.1.length ≤ 64 ∧ W.2.1.size > 65536 ∧ Wo.sound W = false) ∨ (W.1.length ≤ 64 ∧ W.2.1.size ≤ 65536 ∧ W.2.2.size > 65536 ∧ Wo.sound W = false) ∨
    (W.1.length ≤ 64 ∧ W.2.1.size ≤ 65536 ∧ W.2.2.size ≤ 65536 ∧ Wo.sound W = decide (∀ k, k < W.1.length → Wo.okAt W.1 k = true)) := by
  unfold Wo.sound
  by_cases h : W.1.length ≤ 64 <;> by_cases h2 : W.2.1.size ≤ 65536 <;> by_cases h3 : W.2.2.size ≤ 65536 <;> simp [h, h2, h3] <;> omega
theorem Wo.okAt_split (fs : List Wo.F) (k : Nat) : (Wo.named (fs.getD k Wo.e0).1 = false ∧ Wo.okAt fs k = false) ∨ (Wo.named (fs.getD k Wo.e0).1 = true ∧ (fs.getD k Wo.e0).2.size > 65536 ∧ Wo.okAt fs k = false) ∨
    (Wo.named (fs.getD k Wo.e0).1 = true ∧ (fs.getD k Wo.e0).2.size ≤ 65536 ∧ k = 0 ∧ Wo.okAt fs k = true) ∨ (Wo.named (fs.getD k Wo.e0).1 = true ∧ (fs.getD k Wo.e0).2.size ≤ 65536 ∧ 0 < k ∧ Wo.okAt fs k = Wo.lt (fs.getD (k - 1) Wo.e0).1 (fs.getD k Wo.e0).1) := by
  unfold Wo.okAt
  generalize fs.getD k Wo.e0 = d
  generalize fs.getD (k - 1) Wo.e0 = p
  cases h : Wo.named d.1
  · exact .inl ⟨rfl, by simp⟩
  · by_cases h2 : d.2.size ≤ 65536
    · rcases Nat.eq_zero_or_pos k with h3 | h3
      · exact .inr (.inr (.inl ⟨rfl, h2, h3, by simp [h2, h3]⟩))
      · exact .inr (.inr (.inr ⟨rfl, h2, h3, by simp [h2, show ¬ k = 0 by omega]⟩))
    · exact .inr (.inl ⟨rfl, by omega, by simp [h2]⟩)
/-- What is read of files that lie in memory. -/
theorem Wo.Fs.at {w : World} {ad : Option Addr} {n cap : Nat} {fs : List Wo.F} (h : Wo.Fs w (.slice ad n cap) fs) (h0 : 0 < fs.length) : ∃ b off, ad = some ⟨b, off, none⟩ ∧ n = fs.length ∧ fs.length ≤ cap ∧ b < w.heap.size ∧ ∀ k, k < fs.length →
    w.cell? ⟨b, off + k * 2, none⟩ = some (.string (fs.getD k Wo.e0).1) ∧ ∃ da dc, w.cell? ⟨b, off + k * 2 + 1, none⟩ = some (.slice da (fs.getD k Wo.e0).2.size dc) ∧ By.In w (.slice da (fs.getD k Wo.e0).2.size dc) (fs.getD k Wo.e0).2 := by
  rcases h with ⟨_, h⟩ | ⟨a, c, _, h⟩ | ⟨_, b, off, c, hv, h1, h2, hc⟩
  · subst h; simp at h0
  · subst h; simp at h0
  · simp only [Value.slice.injEq] at hv
    obtain ⟨rfl, rfl, rfl⟩ := hv
    refine ⟨b, off, rfl, rfl, h1, h2, fun k hk => ?_⟩
    obtain ⟨c0, dv, c1, hd⟩ := hc k hk
    obtain ⟨da, dc, rfl⟩ := hd.slice
    exact ⟨c0, da, dc, c1, hd⟩

set_option maxHeartbeats 4000000 in
set_option maxRecDepth 1000000 in
theorem Wo.Sound_any (W : Wo.W) (v : Value) (w : World) (h : Wo.In w v W) : Calls Try.prog 11 #[v] w fun e w' => e = .returned (.bool (Wo.sound W)) ∧ Below w.heap.size w w' := by
  obtain ⟨fv, iv, ov, rfl, hf, hi, ho⟩ := h
  obtain ⟨fs, inp, out⟩ := W
  simp only at hf hi ho
  obtain ⟨ad, cap, rfl⟩ := hf.slice
  obtain ⟨ad1, cap1, rfl⟩ := hi.slice
  obtain ⟨ad2, cap2, rfl⟩ := ho.slice
  have hsp := Wo.sound_split (fs, inp, out)
  simp only at hsp
  have HF := Lib.hid hf
  clear hf hi ho
  have hb0 : ∀ o, Below w.heap.size w (w.alloc o) := fun o => (Below.refl _ _).alloc (Nat.le_refl _) _
  generalize Wo.sound (fs, inp, out) = z at *
  rcases hsp with ⟨h1, rfl⟩ | ⟨h1, h2, rfl⟩ | ⟨h1, h2, h3, rfl⟩ | ⟨h1, h2, h3, hz⟩
  · have h1 : (fs.length : Int) > 64 := by omega
    go_enter Try.func11, Try.ntmps11
    go_wp2_with fail
    go_ret
    exact ⟨rfl, hb0 _⟩
  · have h1 : ¬ (fs.length : Int) > 64 := by omega
    have h2 : (inp.size : Int) > 65536 := by omega
    go_enter Try.func11, Try.ntmps11
    go_wp2_with fail
    go_ret
    exact ⟨rfl, hb0 _⟩
  · have h1 : ¬ (fs.length : Int) > 64 := by omega
    have h2 : ¬ (inp.size : Int) > 65536 := by omega
    have h3 : (out.size : Int) > 65536 := by omega
    go_enter Try.func11, Try.ntmps11
    go_wp2_with fail
    go_ret
    exact ⟨rfl, hb0 _⟩
  · have h1b : ¬ (fs.length : Int) > 64 := by omega
    have h2b : ¬ (inp.size : Int) > 65536 := by omega
    have h3b : ¬ (out.size : Int) > 65536 := by omega
    have HZ := Lib.hid hz
    clear hz
    go_enter Try.func11, Try.ntmps11
    go_wp2_with fail
    go_loopw [24] (fun i wr => ∃ k : Nat, i = .int .i64 k ∧ k ≤ fs.length ∧ (∀ j, j < k → Wo.okAt fs j = true) ∧ Below (w.heap.size + 1) (w.alloc (.cells #[.slice ad fs.length cap, .slice ad1 inp.size cap1, .slice ad2 out.size cap2] 26)) wr) (fun i _ => fs.length - (intOf i).toNat)
    case atStart => exact ⟨0, rfl, Nat.zero_le _, fun j h => by omega, Below.refl _ _⟩
    case round =>
      obtain ⟨k, rfl, hk, hall, hbw⟩ := hrel
      have HALL := Lib.hid hall
      have HBW := Lib.hid ((hb0 _).trans (hbw.mono (by omega)))
      have HBV := Lib.hid hbw
      have q0 := (hbw.block w.heap.size (by omega)).trans (heap_alloc_new w _)
      have d0 := Wo.cell_of q0 0
      have hzw : w.heap.size < wr.heap.size := (Array.getElem?_eq_some_iff.1 q0).1
      clear hall hbw
      by_cases hlt : k < fs.length
      · obtain ⟨b, off, rfl, _, hcap, hbl, hcell⟩ := (HF.out.below HBW.out (Nat.le_refl _)).at (by omega)
        obtain ⟨c0, da, dc, c1, _⟩ := hcell k hlt
        have hprev : Hid (0 < k → wr.cell? ⟨b, off + (k - 1) * 2, none⟩ = some (.string (fs.getD (k - 1) Wo.e0).1)) := Lib.hid (fun _ => (hcell (k - 1) (by omega)).1)
        have hbad : Wo.okAt fs k = false → z = false := fun h => by
          rw [HZ.out]
          refine decide_eq_false (fun hh => ?_)
          rw [hh k hlt] at h
          cases h
        have hsp := Wo.okAt_split fs k
        have HBAD := Lib.hid hbad
        have KN := Wo.named_any (fs.getD k Wo.e0).1
        unfold Wo.lt at hsp
        clear hcell hbad
        generalize fs.getD k Wo.e0 = d at *
        generalize fs.getD (k - 1) Wo.e0 = p at *
        generalize Wo.named d.1 = nd at *
        have HBX : Hid (∀ o n, Below w.heap.size w ((wr.alloc o).drewN n)) := Lib.hid (fun o n => below_drewN (HBW.out.alloc HBW.out.size o) n)
        have HBY : Hid (∀ o n, Below (w.heap.size + 1) (w.alloc (.cells #[.slice (some ⟨b, off, none⟩) fs.length cap, .slice ad1 inp.size cap1, .slice ad2 out.size cap2] 26)) ((wr.alloc o).drewN n)) := Lib.hid (fun o n => below_drewN (HBV.out.alloc (by omega) o) n)
        have hkI : ¬ ((k : Int) > 0) ∨ ((k : Int) > 0) := by omega
        rcases hsp with ⟨rfl, ho⟩ | ⟨rfl, hs, ho⟩ | ⟨rfl, hs, hk0, ho⟩ | ⟨rfl, hs, hk0, ho⟩
        · obtain rfl := HBAD.out ho
          clear ho hprev
          go_wp2_with fail
          go_quiet (first | (go_at_call 24; refine Calls.quiet_of_same (KN _)))
          go_wp2_with fail
          go_ret
          exact ⟨rfl, HBX.out _ _⟩
        · obtain rfl := HBAD.out ho
          have hsI : (d.2.size : Int) > 65536 := by omega
          clear ho hprev
          go_wp2_with fail
          go_quiet (first | (go_at_call 24; refine Calls.quiet_of_same (KN _)))
          go_wp2_with fail
          go_ret
          exact ⟨rfl, HBX.out _ _⟩
        · subst hk0
          have hsI : decide ((d.2.size : Int) > 65536) = false := decide_eq_false (by omega)
          have hsJ : ¬ (d.2.size : Int) > 65536 := by omega
          simp only [Nat.zero_mul, Nat.add_zero] at c0 c1
          have HO := Lib.hid ho
          clear hprev ho
          go_wp2_with fail
          go_quiet (first | (go_at_call 24; refine Calls.quiet_of_same (KN _)))
          go_wp2_with fail
          go_roundw
          case rel => exact ⟨1, by first | rfl | go_num | simp, by omega, fun j hj => (show j = 0 by omega) ▸ HO.out, HBY.out _ _⟩
          case measure => simp [intOf]; omega
        · obtain ⟨j, rfl⟩ : ∃ j, k = j + 1 := ⟨k - 1, by omega⟩
          have hsI : decide ((d.2.size : Int) > 65536) = false := decide_eq_false (by omega)
          have hsJ : ¬ (d.2.size : Int) > 65536 := by omega
          have cp := hprev.out hk0
          simp only [Nat.add_sub_cancel] at cp
          have hkj : ((j : Int) + 1) > 0 := by omega
          have hkd : decide (((j : Int) + 1) > 0) = true := decide_eq_true hkj
          cases hL : Op.bytesLess p.1.toList d.1.toList with
          | false =>
            obtain rfl := HBAD.out (ho.trans hL)
            clear ho hprev
            go_wp2_with fail
            go_quiet (first | (go_at_call 24; refine Calls.quiet_of_same (KN _)))
            go_wp2_with fail
            go_ret
            exact ⟨rfl, HBX.out _ _⟩
          | true =>
            have HO := Lib.hid (ho.trans hL)
            clear ho hprev
            go_wp2_with fail
            go_quiet (first | (go_at_call 24; refine Calls.quiet_of_same (KN _)))
            go_wp2_with fail
            go_roundw
            case rel =>
              refine ⟨j + 1 + 1, by first | rfl | go_num | (simp; try omega), by omega, fun i hi => ?_, HBY.out _ _⟩
              rcases Nat.lt_or_ge i (j + 1) with h | h
              · exact HALL.out i h
              · obtain rfl : i = j + 1 := by omega
                exact HO.out
            case measure => simp [intOf]; omega
      · have hz : z = true := by
          rw [HZ.out]
          exact decide_eq_true (fun j hj => HALL.out j (by omega))
        subst hz
        go_wp2_with fail
        go_ret
        exact ⟨rfl, HBW.out⟩
end Go.Proofs.Ytdikkknjdbchbaa
