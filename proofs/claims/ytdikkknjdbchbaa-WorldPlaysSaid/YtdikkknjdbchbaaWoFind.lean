/-
  world.find: the place of a name among files whose names rise.
-/
import Derived.Test.YtdikkknjdbchbaaWoStore
import Derived.Test.YtdikkknjdbchbaaShelf
namespace Go.Proofs.Ytdikkknjdbchbaa
open Go.RowKit
set_option linter.unusedVariables false

/-- Before place i all names are less, from it on none is. -/
def Wo.cutAt (fs : List Wo.F) (name : ByteArray) (i : Nat) : Prop := i ≤ fs.length ∧ (∀ j, j < i → Wo.lt (fs.getD j Wo.e0).1 name = true) ∧ (∀ j, i ≤ j → j < fs.length → Wo.lt (fs.getD j Wo.e0).1 name = false)
def Wo.rising (fs : List Wo.F) : Prop := ∀ i j, i < j → j < fs.length → Wo.lt (fs.getD i Wo.e0).1 (fs.getD j Wo.e0).1 = true
def Wo.hit (fs : List Wo.F) (name : ByteArray) (i : Nat) : Bool := decide (i < fs.length) && ((fs.getD i Wo.e0).1.toList == name.toList)

theorem Wo.toList_eq (s : ByteArray) : s.data.toList = s.toList := (ByteArray.toList_eq s).symm

set_option maxHeartbeats 4000000 in
set_option maxRecDepth 1000000 in
theorem Wo.cmpF_any (f : Wo.F) (dv : Value) (name : ByteArray) (hd : ∃ a n c, dv = .slice a n c) (w : World) : Calls Try.prog 33 #[.agg #[.string f.1, dv], .string name] w fun e w' => e = .returned (.int .i64 (Lib.compareBytes f.1.data.toList name.data.toList)) ∧ Below w.heap.size w w' := by
  obtain ⟨a, n, c, rfl⟩ := hd
  go_enter Try.func33, Try.ntmps33
  go_wp2_with fail
  refine (Try.strings_Compare f.1 name _).mono ?_
  rintro x w1 ⟨rfl, rfl⟩
  go_wp2
  go_ret
  exact ⟨rfl, (Below.refl _ _).alloc (Nat.le_refl _) _⟩

set_option maxHeartbeats 4000000 in
set_option maxRecDepth 1000000 in
theorem Wo.search_any (fs : List Wo.F) (ad : Option Addr) (cap : Nat) (name : ByteArray) (i : Nat) (w : World) (h : Wo.Fs w (.slice ad fs.length cap) fs) (hc : Wo.cutAt fs name i) (hlen : fs.length ≤ 64) :
    Calls Try.prog 32 #[.slice ad fs.length cap, .string name, .func (Fn.func 33) #[] #[]] w fun e w' => e = .returned (.tuple #[.int .i64 i, .bool (Wo.hit fs name i)]) ∧ Below w.heap.size w w' := by
  have H := Lib.hid h; clear h
  obtain ⟨hi, hlo, hhi⟩ := hc
  go_enter Try.func32, Try.ntmps32
  go_wp2_with fail
  go_loopw [9, 10] (fun x y wr => ∃ lo up : Nat, x = .int .i64 lo ∧ y = .int .i64 up ∧ lo ≤ i ∧ i ≤ up ∧ up ≤ fs.length ∧ Below w.heap.size w wr) (fun x y _ => (intOf y - intOf x).toNat)
  case atStart => exact ⟨0, fs.length, rfl, rfl, Nat.zero_le _, hi, Nat.le_refl _, Below.refl _ _⟩
  case round =>
    obtain ⟨lo, up, rfl, rfl, h1, h2, h3, hbw⟩ := hrel
    obtain ⟨wo, hwo⟩ : ∃ z, z = wr := ⟨_, rfl⟩
    subst hwo
    have HBW := Lib.hid hbw
    by_cases hlt : lo < up
    · obtain ⟨m, hm⟩ : ∃ m : Nat, (lo + up) / 2 = m := ⟨_, rfl⟩
      have hm1 : lo ≤ m := by omega
      have hm2 : m < up := by omega
      have hmi : ((lo : Int) + (up : Int)) / 2 = (m : Int) := by omega
      obtain ⟨b, off, rfl, _, hcap, hbl, hcell⟩ := (H.out.below hbw (Nat.le_refl _)).at (by omega)
      obtain ⟨c0, da, dc, c1, _⟩ := hcell m (by omega)
      have KC := fun w => Wo.cmpF_any (fs.getD m Wo.e0) (.slice da (fs.getD m Wo.e0).2.size dc) name ⟨_, _, _, rfl⟩ w
      have hcmp : (m < i → Lib.compareBytes (fs.getD m Wo.e0).1.data.toList name.data.toList < 0) ∧ (i ≤ m → ¬ Lib.compareBytes (fs.getD m Wo.e0).1.data.toList name.data.toList < 0) := by
        constructor
        · intro h
          have := hlo m h
          unfold Wo.lt at this
          rw [← Wo.toList_eq, ← Wo.toList_eq] at this
          exact (Wo.cmp_lt _ _).2 this
        · intro h h4
          have := hhi m h (by omega)
          unfold Wo.lt at this
          rw [← Wo.toList_eq, ← Wo.toList_eq] at this
          rw [(Wo.cmp_lt _ _).1 h4] at this
          cases this
      obtain ⟨hcm1, hcm2⟩ := hcmp
      have hsz := HBW.out.size
      clear hcell hbw
      generalize fs.getD m Wo.e0 = d at *
      generalize Lib.compareBytes d.1.data.toList name.data.toList = z at *
      rcases Nat.lt_or_ge m i with hmi2 | hmi2
      · have hz := hcm1 hmi2
        have hm3 : m < 64 := by omega
        clear hcm1 hcm2 hm
        go_wp2_with fail
        refine (KC _).mono ?_
        rintro x w1 ⟨rfl, hb1⟩
        have HB1 := Lib.hid (HBW.out.trans (hb1.mono hsz))
        clear hb1 KC
        go_wp2_with fail
        go_roundw
        case rel => exact ⟨m + 1, up, by first | rfl | go_num | (simp; try omega), rfl, by omega, by omega, by omega, HB1.out⟩
        case measure => simp [intOf]; omega
      · have hz := hcm2 hmi2
        clear hcm1 hcm2 hm
        go_wp2_with fail
        refine (KC _).mono ?_
        rintro x w1 ⟨rfl, hb1⟩
        have HB1 := Lib.hid (HBW.out.trans (hb1.mono hsz))
        clear hb1 KC
        go_wp2_with fail
        go_roundw
        case rel => exact ⟨lo, m, rfl, rfl, by omega, by omega, by omega, HB1.out⟩
        case measure => simp [intOf]; omega
    · obtain rfl : lo = i := by omega
      have hsz := HBW.out.size
      by_cases hin : lo < fs.length
      · obtain ⟨b, off, rfl, _, hcap, hbl, hcell⟩ := (H.out.below hbw (Nat.le_refl _)).at (by omega)
        obtain ⟨c0, da, dc, c1, _⟩ := hcell lo hin
        have KC := fun w => Wo.cmpF_any (fs.getD lo Wo.e0) (.slice da (fs.getD lo Wo.e0).2.size dc) name ⟨_, _, _, rfl⟩ w
        have hhit : Wo.hit fs name lo = decide (Lib.compareBytes (fs.getD lo Wo.e0).1.data.toList name.data.toList = 0) := by
          unfold Wo.hit
          rw [Wo.toList_eq, Wo.toList_eq]
          simp only [hin, decide_true, Bool.true_and]
          by_cases he : (fs.getD lo Wo.e0).1.toList = name.toList
          · rw [decide_eq_true ((Wo.cmp_eq _ _).2 he)]
            simpa using he
          · rw [decide_eq_false (fun h => he ((Wo.cmp_eq _ _).1 h))]
            simpa using he
        have HH := Lib.hid hhit
        clear hcell hbw hhit
        generalize fs.getD lo Wo.e0 = d at *
        generalize Lib.compareBytes d.1.data.toList name.data.toList = z at *
        go_wp2_with fail
        refine (KC _).mono ?_
        rintro x w1 ⟨rfl, hb1⟩
        have HB1 := Lib.hid (HBW.out.trans (hb1.mono hsz))
        clear hb1 KC
        go_wp2_with fail
        all_goals
          go_ret2
          exact ⟨by rw [HH.out]; first | rfl | simp_all, HB1.out⟩
      · have hhit : Wo.hit fs name lo = false := by
          unfold Wo.hit
          simp [hin]
        have HH := Lib.hid hhit
        have hnd : decide ((lo : Int) < (fs.length : Int)) = false := decide_eq_false (by omega)
        clear hbw hhit
        go_wp2_with fail
        go_ret2
        exact ⟨by rw [HH.out]; first | rfl | simp_all, HBW.out⟩

set_option maxHeartbeats 4000000 in
set_option maxRecDepth 1000000 in
theorem Wo.find_any (W : Wo.W) (v : Value) (name : ByteArray) (i : Nat) (w : World) (h : Wo.In w v W) (hc : Wo.cutAt W.1 name i) (hlen : W.1.length ≤ 64) : Calls Try.prog 23 #[v, .string name] w fun e w' => e = .returned (.tuple #[.int .i64 i, .bool (Wo.hit W.1 name i)]) ∧ Below w.heap.size w w' := by
  obtain ⟨fv, iv, ov, rfl, hf, hi, ho⟩ := h
  obtain ⟨fs, inp, out⟩ := W
  simp only at hf hi ho hc hlen
  obtain ⟨ad, cap, rfl⟩ := hf.slice
  obtain ⟨ad1, cap1, rfl⟩ := hi.slice
  obtain ⟨ad2, cap2, rfl⟩ := ho.slice
  go_enter Try.func23, Try.ntmps23
  have hb0 : ∀ o, Below w.heap.size w (w.alloc o) := fun o => (Below.refl _ _).alloc (Nat.le_refl _) _
  have KS := Lib.hid (fun w h => Wo.search_any fs ad cap name i w h hc hlen)
  have HF := Lib.hid (fun o => hf.below (hb0 o) (Nat.le_refl _))
  clear hc hf hi ho
  generalize Wo.hit fs name i = z at *
  go_wp2_with fail
  refine (KS.out _ (HF.out _)).mono ?_
  rintro x w1 ⟨rfl, hb1⟩
  have HB1 := Lib.hid ((hb0 _).trans (hb1.mono (by simp)))
  clear hb1
  go_wp2_with fail
  go_ret2
  exact ⟨rfl, HB1.out⟩
end Go.Proofs.Ytdikkknjdbchbaa
