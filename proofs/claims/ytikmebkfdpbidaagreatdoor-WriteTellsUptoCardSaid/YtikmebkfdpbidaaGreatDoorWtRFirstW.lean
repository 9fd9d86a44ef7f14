/-
  The document's First and Rest of any character.
-/
import Derived.Test.YtikmebkfdpbidaaGreatDoorWi
namespace Go.Proofs.YtikmebkfdpbidaaGreatDoor
open Go.RowKit
set_option linter.unusedVariables false
set_option linter.unusedSimpArgs false

set_option maxHeartbeats 4000000 in
set_option maxRecDepth 1000000 in
theorem Wt.FirstR_any (r : Int) (h : Ru.okR r) (w : World) :
    Calls Tryz.prog 114 #[.int .i32 r] w fun e w' => e = .returned (.bool (Wt.firstB r)) ∧ Below w.heap.size w w' := by
  have KL := fun w' => Ch.letterR_any r w'
  have KB := fun w' => Wt.blankR_any r w'
  have hle : Ch.letterR r = Ch.letterB r := (Ch.letter_eq r (by unfold Ru.okR at h; omega) (by unfold Ru.okR at h; omega)).symm
  rw [hle] at KL
  have hd : Wt.firstB r = (Ch.letterB r || Wt.inA r || (decide (127 < r) && !Ch.blankB r)) := rfl
  obtain ⟨x, hx⟩ : ∃ z, Ch.letterB r = z := ⟨_, rfl⟩
  obtain ⟨z, hz⟩ : ∃ z, Ch.blankB r = z := ⟨_, rfl⟩
  obtain ⟨R, hR⟩ : ∃ z, Wt.firstB r = z := ⟨_, rfl⟩
  rw [hx] at KL hd
  rw [hz] at KB hd
  rw [hR] at hd ⊢
  have HRD := Lib.hid hd
  clear hx hz hR hd hle h
  have H0 : (w.alloc (.stringIter ⟨#[33, 36, 37, 38, 42, 47, 58, 60, 61, 62, 63, 94, 95, 126]⟩ 0)).heap[w.heap.size]? = some (.stringIter ⟨#[33, 36, 37, 38, 42, 47, 58, 60, 61, 62, 63, 94, 95, 126]⟩ 0) := heap_alloc_new w _
  have HB0 : Below w.heap.size w (w.alloc (.stringIter ⟨#[33, 36, 37, 38, 42, 47, 58, 60, 61, 62, 63, 94, 95, 126]⟩ 0)) := (Below.refl _ _).alloc (Nat.le_refl _) _
  go_enter Tryz.func114, Tryz.ntmps114
  go_wp2_with fail
  go_loopw [] (fun wr => ∃ (pos : Nat), wr.heap[w.heap.size]? = some (.stringIter ⟨#[33, 36, 37, 38, 42, 47, 58, 60, 61, 62, 63, 94, 95, 126]⟩ pos) ∧ pos ≤ 14 ∧ Below w.heap.size w wr ∧ (∀ j, j < pos → r ≠ ([33, 36, 37, 38, 42, 47, 58, 60, 61, 62, 63, 94, 95, 126] : List Int).getD j 0)) (fun wr => 15 - wr.iterPos w.heap.size)
  case atStart => exact ⟨0, H0, by decide, HB0, fun j hj => by omega⟩
  case round =>
    obtain ⟨pos, hit, hpos, hb, hmiss⟩ := hrel
    clear H0 HB0
    have HM := Lib.hid hmiss
    have HBW := Lib.hid hb
    have HIT := Lib.hid hit
    have hms : wr.iterPos w.heap.size = pos := by simp [World.iterPos, hit]
    have HMS := Lib.hid hms
    have hcase : pos = 0 ∨ pos = 1 ∨ pos = 2 ∨ pos = 3 ∨ pos = 4 ∨ pos = 5 ∨ pos = 6 ∨ pos = 7 ∨ pos = 8 ∨ pos = 9 ∨ pos = 10 ∨ pos = 11 ∨ pos = 12 ∨ pos = 13 ∨ pos = 14 := by omega
    clear hmiss hb hpos hms
    rcases hcase with rfl | rfl | rfl | rfl | rfl | rfl | rfl | rfl | rfl | rfl | rfl | rfl | rfl | rfl | rfl
    · have hnx : ∀ ty, (Instr.next (.pointer (some ⟨w.heap.size, 0, none⟩)) true ty).run Tryz.prog wr = .ok (.tuple #[.bool true, .int .i64 0, .int .i32 33]) (wr.iterAt w.heap.size ⟨#[33, 36, 37, 38, 42, 47, 58, 60, 61, 62, 63, 94, 95, 126]⟩ 1) := fun ty => Lib.run_next_ascii_at wr w.heap.size _ 0 ty hit (by decide) (by decide)
      have hit2 := Lib.iterAt_heap wr w.heap.size ⟨#[33, 36, 37, 38, 42, 47, 58, 60, 61, 62, 63, 94, 95, 126]⟩ 0 1 hit
      have hb2 := Lib.below_iterAt HBW.out (k := w.heap.size) (Nat.le_refl _) ⟨#[33, 36, 37, 38, 42, 47, 58, 60, 61, 62, 63, 94, 95, 126]⟩ 1
      obtain ⟨W, hW⟩ : ∃ z, wr.iterAt w.heap.size ⟨#[33, 36, 37, 38, 42, 47, 58, 60, 61, 62, 63, 94, 95, 126]⟩ 1 = z := ⟨_, rfl⟩
      rw [hW] at hnx hit2 hb2
      have HI := Lib.hid (And.intro hit2 hb2)
      have hms2 : Hid (W.iterPos w.heap.size = 1) := Lib.hid (by simp [World.iterPos, hit2])
      clear hit hit2 hb2 hW
      by_cases hr : r = 33
      · subst hr
        go_wp2_with fail
        go_ret
        exact ⟨Wt.retB (by rw [HRD.out, show Wt.inA 33 = true from by decide]; simp), HI.out.2⟩
      · have hne : (r == (33 : Int)) = false := beq_eq_false_iff_ne.2 hr
        go_wp2_with fail
        refine ⟨⟨1, HI.out.1, by decide, HI.out.2, fun j hj => ?_⟩, by rw [HMS.out, hms2.out]; decide⟩
        by_cases e : j < 0
        · exact HM.out j e
        · obtain rfl : j = 0 := by omega
          exact hr
    · have hnx : ∀ ty, (Instr.next (.pointer (some ⟨w.heap.size, 0, none⟩)) true ty).run Tryz.prog wr = .ok (.tuple #[.bool true, .int .i64 1, .int .i32 36]) (wr.iterAt w.heap.size ⟨#[33, 36, 37, 38, 42, 47, 58, 60, 61, 62, 63, 94, 95, 126]⟩ 2) := fun ty => Lib.run_next_ascii_at wr w.heap.size _ 1 ty hit (by decide) (by decide)
      have hit2 := Lib.iterAt_heap wr w.heap.size ⟨#[33, 36, 37, 38, 42, 47, 58, 60, 61, 62, 63, 94, 95, 126]⟩ 1 2 hit
      have hb2 := Lib.below_iterAt HBW.out (k := w.heap.size) (Nat.le_refl _) ⟨#[33, 36, 37, 38, 42, 47, 58, 60, 61, 62, 63, 94, 95, 126]⟩ 2
      obtain ⟨W, hW⟩ : ∃ z, wr.iterAt w.heap.size ⟨#[33, 36, 37, 38, 42, 47, 58, 60, 61, 62, 63, 94, 95, 126]⟩ 2 = z := ⟨_, rfl⟩
      rw [hW] at hnx hit2 hb2
      have HI := Lib.hid (And.intro hit2 hb2)
      have hms2 : Hid (W.iterPos w.heap.size = 2) := Lib.hid (by simp [World.iterPos, hit2])
      clear hit hit2 hb2 hW
      by_cases hr : r = 36
      · subst hr
        go_wp2_with fail
        go_ret
        exact ⟨Wt.retB (by rw [HRD.out, show Wt.inA 36 = true from by decide]; simp), HI.out.2⟩
      · have hne : (r == (36 : Int)) = false := beq_eq_false_iff_ne.2 hr
        go_wp2_with fail
        refine ⟨⟨2, HI.out.1, by decide, HI.out.2, fun j hj => ?_⟩, by rw [HMS.out, hms2.out]; decide⟩
        by_cases e : j < 1
        · exact HM.out j e
        · obtain rfl : j = 1 := by omega
          exact hr
    · have hnx : ∀ ty, (Instr.next (.pointer (some ⟨w.heap.size, 0, none⟩)) true ty).run Tryz.prog wr = .ok (.tuple #[.bool true, .int .i64 2, .int .i32 37]) (wr.iterAt w.heap.size ⟨#[33, 36, 37, 38, 42, 47, 58, 60, 61, 62, 63, 94, 95, 126]⟩ 3) := fun ty => Lib.run_next_ascii_at wr w.heap.size _ 2 ty hit (by decide) (by decide)
      have hit2 := Lib.iterAt_heap wr w.heap.size ⟨#[33, 36, 37, 38, 42, 47, 58, 60, 61, 62, 63, 94, 95, 126]⟩ 2 3 hit
      have hb2 := Lib.below_iterAt HBW.out (k := w.heap.size) (Nat.le_refl _) ⟨#[33, 36, 37, 38, 42, 47, 58, 60, 61, 62, 63, 94, 95, 126]⟩ 3
      obtain ⟨W, hW⟩ : ∃ z, wr.iterAt w.heap.size ⟨#[33, 36, 37, 38, 42, 47, 58, 60, 61, 62, 63, 94, 95, 126]⟩ 3 = z := ⟨_, rfl⟩
      rw [hW] at hnx hit2 hb2
      have HI := Lib.hid (And.intro hit2 hb2)
      have hms2 : Hid (W.iterPos w.heap.size = 3) := Lib.hid (by simp [World.iterPos, hit2])
      clear hit hit2 hb2 hW
      by_cases hr : r = 37
      · subst hr
        go_wp2_with fail
        go_ret
        exact ⟨Wt.retB (by rw [HRD.out, show Wt.inA 37 = true from by decide]; simp), HI.out.2⟩
      · have hne : (r == (37 : Int)) = false := beq_eq_false_iff_ne.2 hr
        go_wp2_with fail
        refine ⟨⟨3, HI.out.1, by decide, HI.out.2, fun j hj => ?_⟩, by rw [HMS.out, hms2.out]; decide⟩
        by_cases e : j < 2
        · exact HM.out j e
        · obtain rfl : j = 2 := by omega
          exact hr
    · have hnx : ∀ ty, (Instr.next (.pointer (some ⟨w.heap.size, 0, none⟩)) true ty).run Tryz.prog wr = .ok (.tuple #[.bool true, .int .i64 3, .int .i32 38]) (wr.iterAt w.heap.size ⟨#[33, 36, 37, 38, 42, 47, 58, 60, 61, 62, 63, 94, 95, 126]⟩ 4) := fun ty => Lib.run_next_ascii_at wr w.heap.size _ 3 ty hit (by decide) (by decide)
      have hit2 := Lib.iterAt_heap wr w.heap.size ⟨#[33, 36, 37, 38, 42, 47, 58, 60, 61, 62, 63, 94, 95, 126]⟩ 3 4 hit
      have hb2 := Lib.below_iterAt HBW.out (k := w.heap.size) (Nat.le_refl _) ⟨#[33, 36, 37, 38, 42, 47, 58, 60, 61, 62, 63, 94, 95, 126]⟩ 4
      obtain ⟨W, hW⟩ : ∃ z, wr.iterAt w.heap.size ⟨#[33, 36, 37, 38, 42, 47, 58, 60, 61, 62, 63, 94, 95, 126]⟩ 4 = z := ⟨_, rfl⟩
      rw [hW] at hnx hit2 hb2
      have HI := Lib.hid (And.intro hit2 hb2)
      have hms2 : Hid (W.iterPos w.heap.size = 4) := Lib.hid (by simp [World.iterPos, hit2])
      clear hit hit2 hb2 hW
      by_cases hr : r = 38
      · subst hr
        go_wp2_with fail
        go_ret
        exact ⟨Wt.retB (by rw [HRD.out, show Wt.inA 38 = true from by decide]; simp), HI.out.2⟩
      · have hne : (r == (38 : Int)) = false := beq_eq_false_iff_ne.2 hr
        go_wp2_with fail
        refine ⟨⟨4, HI.out.1, by decide, HI.out.2, fun j hj => ?_⟩, by rw [HMS.out, hms2.out]; decide⟩
        by_cases e : j < 3
        · exact HM.out j e
        · obtain rfl : j = 3 := by omega
          exact hr
    · have hnx : ∀ ty, (Instr.next (.pointer (some ⟨w.heap.size, 0, none⟩)) true ty).run Tryz.prog wr = .ok (.tuple #[.bool true, .int .i64 4, .int .i32 42]) (wr.iterAt w.heap.size ⟨#[33, 36, 37, 38, 42, 47, 58, 60, 61, 62, 63, 94, 95, 126]⟩ 5) := fun ty => Lib.run_next_ascii_at wr w.heap.size _ 4 ty hit (by decide) (by decide)
      have hit2 := Lib.iterAt_heap wr w.heap.size ⟨#[33, 36, 37, 38, 42, 47, 58, 60, 61, 62, 63, 94, 95, 126]⟩ 4 5 hit
      have hb2 := Lib.below_iterAt HBW.out (k := w.heap.size) (Nat.le_refl _) ⟨#[33, 36, 37, 38, 42, 47, 58, 60, 61, 62, 63, 94, 95, 126]⟩ 5
      obtain ⟨W, hW⟩ : ∃ z, wr.iterAt w.heap.size ⟨#[33, 36, 37, 38, 42, 47, 58, 60, 61, 62, 63, 94, 95, 126]⟩ 5 = z := ⟨_, rfl⟩
      rw [hW] at hnx hit2 hb2
      have HI := Lib.hid (And.intro hit2 hb2)
      have hms2 : Hid (W.iterPos w.heap.size = 5) := Lib.hid (by simp [World.iterPos, hit2])
      clear hit hit2 hb2 hW
      by_cases hr : r = 42
      · subst hr
        go_wp2_with fail
        go_ret
        exact ⟨Wt.retB (by rw [HRD.out, show Wt.inA 42 = true from by decide]; simp), HI.out.2⟩
      · have hne : (r == (42 : Int)) = false := beq_eq_false_iff_ne.2 hr
        go_wp2_with fail
        refine ⟨⟨5, HI.out.1, by decide, HI.out.2, fun j hj => ?_⟩, by rw [HMS.out, hms2.out]; decide⟩
        by_cases e : j < 4
        · exact HM.out j e
        · obtain rfl : j = 4 := by omega
          exact hr
    · have hnx : ∀ ty, (Instr.next (.pointer (some ⟨w.heap.size, 0, none⟩)) true ty).run Tryz.prog wr = .ok (.tuple #[.bool true, .int .i64 5, .int .i32 47]) (wr.iterAt w.heap.size ⟨#[33, 36, 37, 38, 42, 47, 58, 60, 61, 62, 63, 94, 95, 126]⟩ 6) := fun ty => Lib.run_next_ascii_at wr w.heap.size _ 5 ty hit (by decide) (by decide)
      have hit2 := Lib.iterAt_heap wr w.heap.size ⟨#[33, 36, 37, 38, 42, 47, 58, 60, 61, 62, 63, 94, 95, 126]⟩ 5 6 hit
      have hb2 := Lib.below_iterAt HBW.out (k := w.heap.size) (Nat.le_refl _) ⟨#[33, 36, 37, 38, 42, 47, 58, 60, 61, 62, 63, 94, 95, 126]⟩ 6
      obtain ⟨W, hW⟩ : ∃ z, wr.iterAt w.heap.size ⟨#[33, 36, 37, 38, 42, 47, 58, 60, 61, 62, 63, 94, 95, 126]⟩ 6 = z := ⟨_, rfl⟩
      rw [hW] at hnx hit2 hb2
      have HI := Lib.hid (And.intro hit2 hb2)
      have hms2 : Hid (W.iterPos w.heap.size = 6) := Lib.hid (by simp [World.iterPos, hit2])
      clear hit hit2 hb2 hW
      by_cases hr : r = 47
      · subst hr
        go_wp2_with fail
        go_ret
        exact ⟨Wt.retB (by rw [HRD.out, show Wt.inA 47 = true from by decide]; simp), HI.out.2⟩
      · have hne : (r == (47 : Int)) = false := beq_eq_false_iff_ne.2 hr
        go_wp2_with fail
        refine ⟨⟨6, HI.out.1, by decide, HI.out.2, fun j hj => ?_⟩, by rw [HMS.out, hms2.out]; decide⟩
        by_cases e : j < 5
        · exact HM.out j e
        · obtain rfl : j = 5 := by omega
          exact hr
    · have hnx : ∀ ty, (Instr.next (.pointer (some ⟨w.heap.size, 0, none⟩)) true ty).run Tryz.prog wr = .ok (.tuple #[.bool true, .int .i64 6, .int .i32 58]) (wr.iterAt w.heap.size ⟨#[33, 36, 37, 38, 42, 47, 58, 60, 61, 62, 63, 94, 95, 126]⟩ 7) := fun ty => Lib.run_next_ascii_at wr w.heap.size _ 6 ty hit (by decide) (by decide)
      have hit2 := Lib.iterAt_heap wr w.heap.size ⟨#[33, 36, 37, 38, 42, 47, 58, 60, 61, 62, 63, 94, 95, 126]⟩ 6 7 hit
      have hb2 := Lib.below_iterAt HBW.out (k := w.heap.size) (Nat.le_refl _) ⟨#[33, 36, 37, 38, 42, 47, 58, 60, 61, 62, 63, 94, 95, 126]⟩ 7
      obtain ⟨W, hW⟩ : ∃ z, wr.iterAt w.heap.size ⟨#[33, 36, 37, 38, 42, 47, 58, 60, 61, 62, 63, 94, 95, 126]⟩ 7 = z := ⟨_, rfl⟩
      rw [hW] at hnx hit2 hb2
      have HI := Lib.hid (And.intro hit2 hb2)
      have hms2 : Hid (W.iterPos w.heap.size = 7) := Lib.hid (by simp [World.iterPos, hit2])
      clear hit hit2 hb2 hW
      by_cases hr : r = 58
      · subst hr
        go_wp2_with fail
        go_ret
        exact ⟨Wt.retB (by rw [HRD.out, show Wt.inA 58 = true from by decide]; simp), HI.out.2⟩
      · have hne : (r == (58 : Int)) = false := beq_eq_false_iff_ne.2 hr
        go_wp2_with fail
        refine ⟨⟨7, HI.out.1, by decide, HI.out.2, fun j hj => ?_⟩, by rw [HMS.out, hms2.out]; decide⟩
        by_cases e : j < 6
        · exact HM.out j e
        · obtain rfl : j = 6 := by omega
          exact hr
    · have hnx : ∀ ty, (Instr.next (.pointer (some ⟨w.heap.size, 0, none⟩)) true ty).run Tryz.prog wr = .ok (.tuple #[.bool true, .int .i64 7, .int .i32 60]) (wr.iterAt w.heap.size ⟨#[33, 36, 37, 38, 42, 47, 58, 60, 61, 62, 63, 94, 95, 126]⟩ 8) := fun ty => Lib.run_next_ascii_at wr w.heap.size _ 7 ty hit (by decide) (by decide)
      have hit2 := Lib.iterAt_heap wr w.heap.size ⟨#[33, 36, 37, 38, 42, 47, 58, 60, 61, 62, 63, 94, 95, 126]⟩ 7 8 hit
      have hb2 := Lib.below_iterAt HBW.out (k := w.heap.size) (Nat.le_refl _) ⟨#[33, 36, 37, 38, 42, 47, 58, 60, 61, 62, 63, 94, 95, 126]⟩ 8
      obtain ⟨W, hW⟩ : ∃ z, wr.iterAt w.heap.size ⟨#[33, 36, 37, 38, 42, 47, 58, 60, 61, 62, 63, 94, 95, 126]⟩ 8 = z := ⟨_, rfl⟩
      rw [hW] at hnx hit2 hb2
      have HI := Lib.hid (And.intro hit2 hb2)
      have hms2 : Hid (W.iterPos w.heap.size = 8) := Lib.hid (by simp [World.iterPos, hit2])
      clear hit hit2 hb2 hW
      by_cases hr : r = 60
      · subst hr
        go_wp2_with fail
        go_ret
        exact ⟨Wt.retB (by rw [HRD.out, show Wt.inA 60 = true from by decide]; simp), HI.out.2⟩
      · have hne : (r == (60 : Int)) = false := beq_eq_false_iff_ne.2 hr
        go_wp2_with fail
        refine ⟨⟨8, HI.out.1, by decide, HI.out.2, fun j hj => ?_⟩, by rw [HMS.out, hms2.out]; decide⟩
        by_cases e : j < 7
        · exact HM.out j e
        · obtain rfl : j = 7 := by omega
          exact hr
    · have hnx : ∀ ty, (Instr.next (.pointer (some ⟨w.heap.size, 0, none⟩)) true ty).run Tryz.prog wr = .ok (.tuple #[.bool true, .int .i64 8, .int .i32 61]) (wr.iterAt w.heap.size ⟨#[33, 36, 37, 38, 42, 47, 58, 60, 61, 62, 63, 94, 95, 126]⟩ 9) := fun ty => Lib.run_next_ascii_at wr w.heap.size _ 8 ty hit (by decide) (by decide)
      have hit2 := Lib.iterAt_heap wr w.heap.size ⟨#[33, 36, 37, 38, 42, 47, 58, 60, 61, 62, 63, 94, 95, 126]⟩ 8 9 hit
      have hb2 := Lib.below_iterAt HBW.out (k := w.heap.size) (Nat.le_refl _) ⟨#[33, 36, 37, 38, 42, 47, 58, 60, 61, 62, 63, 94, 95, 126]⟩ 9
      obtain ⟨W, hW⟩ : ∃ z, wr.iterAt w.heap.size ⟨#[33, 36, 37, 38, 42, 47, 58, 60, 61, 62, 63, 94, 95, 126]⟩ 9 = z := ⟨_, rfl⟩
      rw [hW] at hnx hit2 hb2
      have HI := Lib.hid (And.intro hit2 hb2)
      have hms2 : Hid (W.iterPos w.heap.size = 9) := Lib.hid (by simp [World.iterPos, hit2])
      clear hit hit2 hb2 hW
      by_cases hr : r = 61
      · subst hr
        go_wp2_with fail
        go_ret
        exact ⟨Wt.retB (by rw [HRD.out, show Wt.inA 61 = true from by decide]; simp), HI.out.2⟩
      · have hne : (r == (61 : Int)) = false := beq_eq_false_iff_ne.2 hr
        go_wp2_with fail
        refine ⟨⟨9, HI.out.1, by decide, HI.out.2, fun j hj => ?_⟩, by rw [HMS.out, hms2.out]; decide⟩
        by_cases e : j < 8
        · exact HM.out j e
        · obtain rfl : j = 8 := by omega
          exact hr
    · have hnx : ∀ ty, (Instr.next (.pointer (some ⟨w.heap.size, 0, none⟩)) true ty).run Tryz.prog wr = .ok (.tuple #[.bool true, .int .i64 9, .int .i32 62]) (wr.iterAt w.heap.size ⟨#[33, 36, 37, 38, 42, 47, 58, 60, 61, 62, 63, 94, 95, 126]⟩ 10) := fun ty => Lib.run_next_ascii_at wr w.heap.size _ 9 ty hit (by decide) (by decide)
      have hit2 := Lib.iterAt_heap wr w.heap.size ⟨#[33, 36, 37, 38, 42, 47, 58, 60, 61, 62, 63, 94, 95, 126]⟩ 9 10 hit
      have hb2 := Lib.below_iterAt HBW.out (k := w.heap.size) (Nat.le_refl _) ⟨#[33, 36, 37, 38, 42, 47, 58, 60, 61, 62, 63, 94, 95, 126]⟩ 10
      obtain ⟨W, hW⟩ : ∃ z, wr.iterAt w.heap.size ⟨#[33, 36, 37, 38, 42, 47, 58, 60, 61, 62, 63, 94, 95, 126]⟩ 10 = z := ⟨_, rfl⟩
      rw [hW] at hnx hit2 hb2
      have HI := Lib.hid (And.intro hit2 hb2)
      have hms2 : Hid (W.iterPos w.heap.size = 10) := Lib.hid (by simp [World.iterPos, hit2])
      clear hit hit2 hb2 hW
      by_cases hr : r = 62
      · subst hr
        go_wp2_with fail
        go_ret
        exact ⟨Wt.retB (by rw [HRD.out, show Wt.inA 62 = true from by decide]; simp), HI.out.2⟩
      · have hne : (r == (62 : Int)) = false := beq_eq_false_iff_ne.2 hr
        go_wp2_with fail
        refine ⟨⟨10, HI.out.1, by decide, HI.out.2, fun j hj => ?_⟩, by rw [HMS.out, hms2.out]; decide⟩
        by_cases e : j < 9
        · exact HM.out j e
        · obtain rfl : j = 9 := by omega
          exact hr
    · have hnx : ∀ ty, (Instr.next (.pointer (some ⟨w.heap.size, 0, none⟩)) true ty).run Tryz.prog wr = .ok (.tuple #[.bool true, .int .i64 10, .int .i32 63]) (wr.iterAt w.heap.size ⟨#[33, 36, 37, 38, 42, 47, 58, 60, 61, 62, 63, 94, 95, 126]⟩ 11) := fun ty => Lib.run_next_ascii_at wr w.heap.size _ 10 ty hit (by decide) (by decide)
      have hit2 := Lib.iterAt_heap wr w.heap.size ⟨#[33, 36, 37, 38, 42, 47, 58, 60, 61, 62, 63, 94, 95, 126]⟩ 10 11 hit
      have hb2 := Lib.below_iterAt HBW.out (k := w.heap.size) (Nat.le_refl _) ⟨#[33, 36, 37, 38, 42, 47, 58, 60, 61, 62, 63, 94, 95, 126]⟩ 11
      obtain ⟨W, hW⟩ : ∃ z, wr.iterAt w.heap.size ⟨#[33, 36, 37, 38, 42, 47, 58, 60, 61, 62, 63, 94, 95, 126]⟩ 11 = z := ⟨_, rfl⟩
      rw [hW] at hnx hit2 hb2
      have HI := Lib.hid (And.intro hit2 hb2)
      have hms2 : Hid (W.iterPos w.heap.size = 11) := Lib.hid (by simp [World.iterPos, hit2])
      clear hit hit2 hb2 hW
      by_cases hr : r = 63
      · subst hr
        go_wp2_with fail
        go_ret
        exact ⟨Wt.retB (by rw [HRD.out, show Wt.inA 63 = true from by decide]; simp), HI.out.2⟩
      · have hne : (r == (63 : Int)) = false := beq_eq_false_iff_ne.2 hr
        go_wp2_with fail
        refine ⟨⟨11, HI.out.1, by decide, HI.out.2, fun j hj => ?_⟩, by rw [HMS.out, hms2.out]; decide⟩
        by_cases e : j < 10
        · exact HM.out j e
        · obtain rfl : j = 10 := by omega
          exact hr
    · have hnx : ∀ ty, (Instr.next (.pointer (some ⟨w.heap.size, 0, none⟩)) true ty).run Tryz.prog wr = .ok (.tuple #[.bool true, .int .i64 11, .int .i32 94]) (wr.iterAt w.heap.size ⟨#[33, 36, 37, 38, 42, 47, 58, 60, 61, 62, 63, 94, 95, 126]⟩ 12) := fun ty => Lib.run_next_ascii_at wr w.heap.size _ 11 ty hit (by decide) (by decide)
      have hit2 := Lib.iterAt_heap wr w.heap.size ⟨#[33, 36, 37, 38, 42, 47, 58, 60, 61, 62, 63, 94, 95, 126]⟩ 11 12 hit
      have hb2 := Lib.below_iterAt HBW.out (k := w.heap.size) (Nat.le_refl _) ⟨#[33, 36, 37, 38, 42, 47, 58, 60, 61, 62, 63, 94, 95, 126]⟩ 12
      obtain ⟨W, hW⟩ : ∃ z, wr.iterAt w.heap.size ⟨#[33, 36, 37, 38, 42, 47, 58, 60, 61, 62, 63, 94, 95, 126]⟩ 12 = z := ⟨_, rfl⟩
      rw [hW] at hnx hit2 hb2
      have HI := Lib.hid (And.intro hit2 hb2)
      have hms2 : Hid (W.iterPos w.heap.size = 12) := Lib.hid (by simp [World.iterPos, hit2])
      clear hit hit2 hb2 hW
      by_cases hr : r = 94
      · subst hr
        go_wp2_with fail
        go_ret
        exact ⟨Wt.retB (by rw [HRD.out, show Wt.inA 94 = true from by decide]; simp), HI.out.2⟩
      · have hne : (r == (94 : Int)) = false := beq_eq_false_iff_ne.2 hr
        go_wp2_with fail
        refine ⟨⟨12, HI.out.1, by decide, HI.out.2, fun j hj => ?_⟩, by rw [HMS.out, hms2.out]; decide⟩
        by_cases e : j < 11
        · exact HM.out j e
        · obtain rfl : j = 11 := by omega
          exact hr
    · have hnx : ∀ ty, (Instr.next (.pointer (some ⟨w.heap.size, 0, none⟩)) true ty).run Tryz.prog wr = .ok (.tuple #[.bool true, .int .i64 12, .int .i32 95]) (wr.iterAt w.heap.size ⟨#[33, 36, 37, 38, 42, 47, 58, 60, 61, 62, 63, 94, 95, 126]⟩ 13) := fun ty => Lib.run_next_ascii_at wr w.heap.size _ 12 ty hit (by decide) (by decide)
      have hit2 := Lib.iterAt_heap wr w.heap.size ⟨#[33, 36, 37, 38, 42, 47, 58, 60, 61, 62, 63, 94, 95, 126]⟩ 12 13 hit
      have hb2 := Lib.below_iterAt HBW.out (k := w.heap.size) (Nat.le_refl _) ⟨#[33, 36, 37, 38, 42, 47, 58, 60, 61, 62, 63, 94, 95, 126]⟩ 13
      obtain ⟨W, hW⟩ : ∃ z, wr.iterAt w.heap.size ⟨#[33, 36, 37, 38, 42, 47, 58, 60, 61, 62, 63, 94, 95, 126]⟩ 13 = z := ⟨_, rfl⟩
      rw [hW] at hnx hit2 hb2
      have HI := Lib.hid (And.intro hit2 hb2)
      have hms2 : Hid (W.iterPos w.heap.size = 13) := Lib.hid (by simp [World.iterPos, hit2])
      clear hit hit2 hb2 hW
      by_cases hr : r = 95
      · subst hr
        go_wp2_with fail
        go_ret
        exact ⟨Wt.retB (by rw [HRD.out, show Wt.inA 95 = true from by decide]; simp), HI.out.2⟩
      · have hne : (r == (95 : Int)) = false := beq_eq_false_iff_ne.2 hr
        go_wp2_with fail
        refine ⟨⟨13, HI.out.1, by decide, HI.out.2, fun j hj => ?_⟩, by rw [HMS.out, hms2.out]; decide⟩
        by_cases e : j < 12
        · exact HM.out j e
        · obtain rfl : j = 12 := by omega
          exact hr
    · have hnx : ∀ ty, (Instr.next (.pointer (some ⟨w.heap.size, 0, none⟩)) true ty).run Tryz.prog wr = .ok (.tuple #[.bool true, .int .i64 13, .int .i32 126]) (wr.iterAt w.heap.size ⟨#[33, 36, 37, 38, 42, 47, 58, 60, 61, 62, 63, 94, 95, 126]⟩ 14) := fun ty => Lib.run_next_ascii_at wr w.heap.size _ 13 ty hit (by decide) (by decide)
      have hit2 := Lib.iterAt_heap wr w.heap.size ⟨#[33, 36, 37, 38, 42, 47, 58, 60, 61, 62, 63, 94, 95, 126]⟩ 13 14 hit
      have hb2 := Lib.below_iterAt HBW.out (k := w.heap.size) (Nat.le_refl _) ⟨#[33, 36, 37, 38, 42, 47, 58, 60, 61, 62, 63, 94, 95, 126]⟩ 14
      obtain ⟨W, hW⟩ : ∃ z, wr.iterAt w.heap.size ⟨#[33, 36, 37, 38, 42, 47, 58, 60, 61, 62, 63, 94, 95, 126]⟩ 14 = z := ⟨_, rfl⟩
      rw [hW] at hnx hit2 hb2
      have HI := Lib.hid (And.intro hit2 hb2)
      have hms2 : Hid (W.iterPos w.heap.size = 14) := Lib.hid (by simp [World.iterPos, hit2])
      clear hit hit2 hb2 hW
      by_cases hr : r = 126
      · subst hr
        go_wp2_with fail
        go_ret
        exact ⟨Wt.retB (by rw [HRD.out, show Wt.inA 126 = true from by decide]; simp), HI.out.2⟩
      · have hne : (r == (126 : Int)) = false := beq_eq_false_iff_ne.2 hr
        go_wp2_with fail
        refine ⟨⟨14, HI.out.1, by decide, HI.out.2, fun j hj => ?_⟩, by rw [HMS.out, hms2.out]; decide⟩
        by_cases e : j < 13
        · exact HM.out j e
        · obtain rfl : j = 13 := by omega
          exact hr
    · have hnx : ∀ ty, (Instr.next (.pointer (some ⟨w.heap.size, 0, none⟩)) true ty).run Tryz.prog wr = _ := fun ty => Lib.run_next_end_at wr w.heap.size _ 14 ty hit (by decide)
      have hA : Wt.inA r = false := by
        have n0 : r ≠ 33 := HM.out 0 (by decide)
        have n1 : r ≠ 36 := HM.out 1 (by decide)
        have n2 : r ≠ 37 := HM.out 2 (by decide)
        have n3 : r ≠ 38 := HM.out 3 (by decide)
        have n4 : r ≠ 42 := HM.out 4 (by decide)
        have n5 : r ≠ 47 := HM.out 5 (by decide)
        have n6 : r ≠ 58 := HM.out 6 (by decide)
        have n7 : r ≠ 60 := HM.out 7 (by decide)
        have n8 : r ≠ 61 := HM.out 8 (by decide)
        have n9 : r ≠ 62 := HM.out 9 (by decide)
        have n10 : r ≠ 63 := HM.out 10 (by decide)
        have n11 : r ≠ 94 := HM.out 11 (by decide)
        have n12 : r ≠ 95 := HM.out 12 (by decide)
        have n13 : r ≠ 126 := HM.out 13 (by decide)
        simp [Wt.inA, n0, n1, n2, n3, n4, n5, n6, n7, n8, n9, n10, n11, n12, n13]
      have hRR := HRD.out
      rw [hA, Bool.or_false] at hRR
      have HRR := Lib.hid hRR
      clear hRR hA hit
      have h127 : r ≤ 127 ∨ 127 < r := by omega
      rcases h127 with h127 | h127
      all_goals cases x
      all_goals cases z
      all_goals
        go_wp2_with (first
          | (go_at_call 164; refine (KL _).mono ?_; rintro e w1 ⟨rfl, hbl⟩)
          | (go_at_call 110; refine (KB _).mono ?_; rintro e w' ⟨rfl, rfl⟩))
      all_goals
        go_ret
        refine ⟨?_, by first | exact HBW.out.trans (hbl.mono HBW.out.size) | exact HBW.out⟩
        rw [HRR.out]
        first
          | (refine Wt.retB (a := true) ?_; simp [*]; done)
          | (refine Wt.retB (a := false) ?_; simp [*]; done)
          | (refine Wt.retB (a := false) ?_; simp; omega)
          | (refine Wt.retB (a := true) ?_; simp; omega)
set_option maxHeartbeats 4000000 in
theorem Wt.RestR_any (r : Int) (h : Ru.okR r) (w : World) :
    Calls Tryz.prog 113 #[.int .i32 r] w fun e w' => e = .returned (.bool (Wt.restB r)) ∧ Below w.heap.size w w' := by
  have KF := fun w' => Wt.FirstR_any r h w'
  obtain ⟨x, hx⟩ : ∃ z, Wt.firstB r = z := ⟨_, rfl⟩
  have hd : Wt.restB r = (x || (decide (48 ≤ r) && decide (r ≤ 57)) || Wt.inB r) := by rw [← hx]; rfl
  obtain ⟨R, hR⟩ : ∃ z, Wt.restB r = z := ⟨_, rfl⟩
  rw [hx] at KF
  rw [hR] at hd ⊢
  have HRD := Lib.hid hd
  clear hx hR hd h
  have hcase : (r = 43 ∨ r = 45 ∨ r = 46 ∨ r = 64) ∨ (48 ≤ r ∧ r ≤ 57) ∨ (r < 48 ∧ r ≠ 43 ∧ r ≠ 45 ∧ r ≠ 46) ∨ (57 < r ∧ r ≠ 64) := by omega
  have n43 : r ≠ 43 → (r == (43 : Int)) = false := fun e => beq_eq_false_iff_ne.2 e
  have n45 : r ≠ 45 → (r == (45 : Int)) = false := fun e => beq_eq_false_iff_ne.2 e
  have n46 : r ≠ 46 → (r == (46 : Int)) = false := fun e => beq_eq_false_iff_ne.2 e
  have n64 : r ≠ 64 → (r == (64 : Int)) = false := fun e => beq_eq_false_iff_ne.2 e
  cases x
  · rcases hcase with (rfl | rfl | rfl | rfl) | ⟨h1, h2⟩ | ⟨h1, h2, h3, h4⟩ | ⟨h1, h2⟩
    · go_enter Tryz.func113, Tryz.ntmps113
      go_wp2_with (go_at_call 114; refine (KF _).mono ?_; rintro e w1 ⟨rfl, hb⟩)
      go_ret
      exact ⟨Wt.retB (a := true) (by rw [HRD.out]; decide), hb⟩
    · go_enter Tryz.func113, Tryz.ntmps113
      go_wp2_with (go_at_call 114; refine (KF _).mono ?_; rintro e w1 ⟨rfl, hb⟩)
      go_ret
      exact ⟨Wt.retB (a := true) (by rw [HRD.out]; decide), hb⟩
    · go_enter Tryz.func113, Tryz.ntmps113
      go_wp2_with (go_at_call 114; refine (KF _).mono ?_; rintro e w1 ⟨rfl, hb⟩)
      go_ret
      exact ⟨Wt.retB (a := true) (by rw [HRD.out]; decide), hb⟩
    · go_enter Tryz.func113, Tryz.ntmps113
      go_wp2_with (go_at_call 114; refine (KF _).mono ?_; rintro e w1 ⟨rfl, hb⟩)
      go_ret
      exact ⟨Wt.retB (a := true) (by rw [HRD.out]; decide), hb⟩
    · go_enter Tryz.func113, Tryz.ntmps113
      go_wp2_with (go_at_call 114; refine (KF _).mono ?_; rintro e w1 ⟨rfl, hb⟩)
      all_goals
        go_ret
        refine ⟨?_, hb⟩
        first
          | (refine Wt.retB (a := true) ?_; rw [HRD.out]; simp [h1, h2]; done)
          | (refine Wt.retB (a := decide (r ≤ 57)) ?_; rw [HRD.out]; simp [h1, h2]; done)
          | (exfalso; omega)
    · have m1 := n43 h2
      have m2 := n45 h3
      have m3 := n46 h4
      have m4 := n64 (by omega)
      have hB : Wt.inB r = false := by simp [Wt.inB]; omega
      go_enter Tryz.func113, Tryz.ntmps113
      go_wp2_with (go_at_call 114; refine (KF _).mono ?_; rintro e w1 ⟨rfl, hb⟩)
      all_goals
        go_ret
        refine ⟨?_, hb⟩
        refine Wt.retB (a := false) ?_
        rw [HRD.out, hB]
        simp
        omega
    · have m1 := n43 (by omega)
      have m2 := n45 (by omega)
      have m3 := n46 (by omega)
      have m4 := n64 h2
      have hB : Wt.inB r = false := by simp [Wt.inB]; omega
      go_enter Tryz.func113, Tryz.ntmps113
      go_wp2_with (go_at_call 114; refine (KF _).mono ?_; rintro e w1 ⟨rfl, hb⟩)
      all_goals
        go_ret
        refine ⟨?_, hb⟩
        first
          | (refine Wt.retB (a := false) ?_
             rw [HRD.out, hB]
             simp
             omega)
          | (refine Wt.retB (a := decide (r ≤ 57)) ?_
             rw [HRD.out, hB]
             simp
             omega)
  · clear hcase n43 n45 n46 n64
    go_enter Tryz.func113, Tryz.ntmps113
    go_wp2_with (go_at_call 114; refine (KF _).mono ?_; rintro e w1 ⟨rfl, hb⟩)
    all_goals
      go_ret
      exact ⟨Wt.retB (a := true) (by rw [HRD.out]; simp), hb⟩
end Go.Proofs.YtikmebkfdpbidaaGreatDoor
