/-
  lists.Items of the empty list.
-/
import Derived.Test.YthcdkhegdlbdiaaGreatDoorDtCopy
import Derived.BigQuiet
import Derived.Laws.AppendOwn
namespace Go.Proofs.YthcdkhegdlbdiaaGreatDoor
open Go.RowKit
set_option linter.unusedVariables false

theorem Dt.addr_add (b off j : Nat) : (⟨b, off, none⟩ : Addr).add j = ⟨b, off + j, none⟩ := by
  first | rfl | simp [Addr.add]
theorem Dt.row_at {w : World} {b : Nat} {C : Array Value} {t : TypeId} (h : w.heap[b]? = some (.cells C t (0, 0))) : ∀ (j : Nat) (u : Value), C.toList[j]? = some u → w.cell? ((⟨b, 0, none⟩ : Addr).add j) = some u := by
  intro j u hu
  rw [Dt.addr_add, Nat.zero_add, Dt.cell_of h]
  simpa using hu
/-- One row of eleven cells that the call owns. -/
theorem Dt.own_one {w : World} {B : Nat} {t : TypeId} {v : Value} {a0 a1 a2 a3 a4 a5 a6 a7 a8 a9 a10 : Value} (h : w.ownsRow B t 11 v (0 + 1) ([] ++ [a0, a1, a2, a3, a4, a5, a6, a7, a8, a9, a10])) :
    ∃ g cap, v = .slice (some ⟨g, 0, none⟩) 1 cap ∧ B ≤ g ∧ (w.cell? ⟨g, 0, none⟩ = some a0 ∧ w.cell? ⟨g, 1, none⟩ = some a1 ∧ w.cell? ⟨g, 2, none⟩ = some a2 ∧ w.cell? ⟨g, 3, none⟩ = some a3 ∧ w.cell? ⟨g, 4, none⟩ = some a4 ∧ w.cell? ⟨g, 5, none⟩ = some a5 ∧ w.cell? ⟨g, 6, none⟩ = some a6 ∧ w.cell? ⟨g, 7, none⟩ = some a7 ∧ w.cell? ⟨g, 8, none⟩ = some a8 ∧ w.cell? ⟨g, 9, none⟩ = some a9 ∧ w.cell? ⟨g, 10, none⟩ = some a10) := by
  rcases h.2 with ⟨_, h0⟩ | ⟨g, cap, cur, rfl, hB, hg, hr⟩
  · omega
  · have e := fun j u (hj : ([] ++ [a0, a1, a2, a3, a4, a5, a6, a7, a8, a9, a10])[j]? = some u) => h.cells (g := g) rfl j u hj
    refine ⟨g, cap, rfl, hB, ?_⟩
    simp only [Dt.addr_add, Nat.zero_add] at e
    exact ⟨e 0 _ rfl, e 1 _ rfl, e 2 _ rfl, e 3 _ rfl, e 4 _ rfl, e 5 _ rfl, e 6 _ rfl, e 7 _ rfl, e 8 _ rfl, e 9 _ rfl, e 10 _ rfl⟩
theorem Dt.infoDatum : (Tryz.prog.info? 49).map (fun i => (i.zero, i.size, i.bytes)) = some (some (.agg Dt.zero), 11, 192) := by kernel_rfl

set_option maxHeartbeats 4000000 in
set_option maxRecDepth 1000000 in
theorem Ls.items_nil (lst : Value) (hl : ∃ ad cap, lst = .slice ad 0 cap) (w : World) : Calls Tryz.prog 41 #[Dt.leaf 1 ⟨#[]⟩ lst] w fun e w' => e = .returned (.tuple #[.slice none 0 0, .bool true]) ∧ Below w.heap.size w w' := by
  obtain ⟨ad, cap, rfl⟩ := hl
  have hb0 : ∀ o, Below w.heap.size w (w.alloc o) := fun o => (Below.refl _ _).alloc (Nat.le_refl _) _
  unfold Dt.leaf Dt.cells
  go_enter Tryz.func41, Tryz.ntmps41
  go_wp2_with fail
  go_loopw [2] (fun i wr => i = .slice none 0 0 ∧ wr = w.alloc (.cells #[.int .i64 1, .int .i64 0, .bool false, .slice none 0 0, .slice none 0 0, .bool false, .slice none 0 0, .slice none 0 0, .string ⟨#[]⟩, .slice none 0 0, .slice ad 0 cap] 49)) (fun _ _ => 0)
  case atStart => exact ⟨rfl, rfl⟩
  case round =>
    obtain ⟨rfl, rfl⟩ := hrel
    go_wp2_with fail
    go_quiet (fail)
    have HB := Lib.hid (below_drewN (hb0 (.cells #[.int .i64 1, .int .i64 0, .bool false, .slice none 0 0, .slice none 0 0, .bool false, .slice none 0 0, .slice none 0 0, .string ⟨#[]⟩, .slice none 0 0, .slice ad 0 cap] 49)) nq)
    go_wp2
    go_ret2
    exact ⟨rfl, HB.out⟩
set_option maxHeartbeats 4000000 in
set_option maxRecDepth 1000000 in
theorem Ls.read_nil (lst : Value) (hl : ∃ ad cap, lst = .slice ad 0 cap) (w : World) : Calls Tryz.prog 32 #[Dt.leaf 1 ⟨#[]⟩ lst, .slice none 0 0] w fun e w' => e = .returned (.tuple #[.slice none 0 0, .int .i64 0]) ∧ Below w.heap.size w w' := by
  have hV : Dt.valid ⟨#[]⟩ := fun w => Dt.valid_short [] (by decide) (by simp) w
  have KS := Lib.hid (fun w => Dt.Sound_leaf 1 ⟨#[]⟩ lst (.inl ⟨rfl, rfl⟩) hl hV w)
  have KI := Lib.hid (fun w => Ls.items_nil lst hl w)
  clear hV
  obtain ⟨i0, hi, hz0, hz1, hz2⟩ := info_parts Dt.infoDatum
  obtain ⟨ad, cap, rfl⟩ := hl
  have hq0 : ∀ o, (w.alloc o).heap[w.heap.size]? = some o := fun o => heap_alloc_new w o
  have hb0 : ∀ o, Below w.heap.size w (w.alloc o) := fun o => (Below.refl _ _).alloc (Nat.le_refl _) _
  have hsz : ∀ o, (w.alloc o).heap.size = w.heap.size + 1 := by intro o; simp
  have hq1 : ∀ o o2, ((w.alloc o).alloc o2).heap[w.heap.size + 1]? = some o2 := by
    intro o o2
    have := heap_alloc_new (w.alloc o) o2
    rwa [hsz] at this
  have hq2 : ∀ o o2, ((w.alloc o).alloc o2).heap[w.heap.size]? = some o := fun o o2 => (Lib.alloc_old _ _ _ (by rw [hsz]; omega)).trans (hq0 o)
  have hb1 : ∀ o o2, Below w.heap.size w ((w.alloc o).alloc o2) := fun o o2 => (hb0 o).alloc (by rw [hsz]; omega) _
  have hown : ∀ o o2, ((w.alloc o).alloc o2).ownsRow (w.heap.size + 1) 49 11 (.slice none 0 0) 0 [] := fun o o2 => ⟨by simp, .inl ⟨rfl, rfl⟩⟩
  unfold Dt.leaf Dt.cells at *
  go_enter Tryz.func32, Tryz.ntmps32
  go_wp2_with (at_builtin; refine wpList_append_own _ rfl _ _ 47 rfl (w.heap.size + 1) 49 i0 (.agg Dt.zero) 11 192 Tryz.underlying47 hi hz0 hz1 hz2 rfl (by decide) _ _ _ rfl (hown _ _) ⟨w.heap.size + 1, 0, none⟩ 1 1 [.int .i64 1, .int .i64 0, .bool false, .slice none 0 0, .slice none 0 0, .bool false, .slice none 0 0, .slice none 0 0, .string ⟨#[]⟩, .slice none 0 0, .slice ad 0 cap] rfl rfl (Dt.row_at (hq1 _ _)) ?c2 ?c3 ?c4 ?c5 ?_)
  case c2 => intro u hu; simp only [List.mem_cons, List.not_mem_nil, or_false] at hu; rcases hu with rfl | rfl | rfl | rfl | rfl | rfl | rfl | rfl | rfl | rfl | rfl <;> rfl
  case c3 => unfold maxLen; omega
  case c4 => omega
  case c5 => simp
  intro v' w1 hown' hgrow _
  obtain ⟨g, cp, rfl, hBg, c0, c1, c2, c3, c4, c5, c6, c7, c8, c9, c10⟩ := Dt.own_one hown'
  have HB1 := Lib.hid ((hb1 _ _).grown hgrow (by simp; omega) (fun k hk => by cases hk))
  have q0 := (hgrow.block w.heap.size (by simp; omega) (by simp [Value.ownBlock])).trans (hq2 _ _)
  have hz1 : w.heap.size < w1.heap.size := (Array.getElem?_eq_some_iff.1 q0).1
  have hgl : g < w1.heap.size := World.block_lt_of_cell? w1 _ c0
  have Q0 := Lib.hid q0
  clear hown' hgrow hown hq0 hq1 hq2 hb1 hb0 hsz q0
  go_wp2_with fail
  go_loopw [15] (fun i wr => ∃ j : Nat, i = .int .i64 j ∧ j ≤ 1 ∧ Below w1.heap.size w1 wr) (fun i _ => 1 - (intOf i).toNat)
  case atStart => exact ⟨0, rfl, Nat.zero_le _, Below.refl _ _⟩
  case round =>
    obtain ⟨j, rfl, hj, hbz⟩ := hrel
    obtain ⟨wo, hwo⟩ : ∃ z, z = wr := ⟨_, rfl⟩
    subst hwo
    have hzz := hbz.size
    by_cases hj0 : j = 0
    · subst hj0
      have c0 := (hbz.cell (p := ⟨g, 0, none⟩) hgl).trans c0
      have c1 := (hbz.cell (p := ⟨g, 1, none⟩) hgl).trans c1
      have c2 := (hbz.cell (p := ⟨g, 2, none⟩) hgl).trans c2
      have c3 := (hbz.cell (p := ⟨g, 3, none⟩) hgl).trans c3
      have c4 := (hbz.cell (p := ⟨g, 4, none⟩) hgl).trans c4
      have c5 := (hbz.cell (p := ⟨g, 5, none⟩) hgl).trans c5
      have c6 := (hbz.cell (p := ⟨g, 6, none⟩) hgl).trans c6
      have c7 := (hbz.cell (p := ⟨g, 7, none⟩) hgl).trans c7
      have c8 := (hbz.cell (p := ⟨g, 8, none⟩) hgl).trans c8
      have c9 := (hbz.cell (p := ⟨g, 9, none⟩) hgl).trans c9
      have c10 := (hbz.cell (p := ⟨g, 10, none⟩) hgl).trans c10
      have HBZ := Lib.hid hbz
      have hb0 : ∀ o, Below wo.heap.size wo (wo.alloc o) := fun o => (Below.refl _ _).alloc (Nat.le_refl _) _
      clear hbz
      go_wp2_with fail
      refine (KS.out _).mono ?_
      rintro x w5 ⟨rfl, hb5⟩
      have HB5 := Lib.hid (HBZ.out.trans (((hb0 _).trans (hb5.mono (by simp))).mono hzz))
      clear hb5 hb0 c0 c1 c2 c3 c4 c5 c6 c7 c8 c9 c10
      go_wp2_with fail
      go_roundw
      case rel => exact ⟨1, by first | rfl | go_num | simp, Nat.le_refl _, HB5.out⟩
      case measure => simp [intOf]
    · obtain rfl : j = 1 := by omega
      have q1 := (hbz.block w.heap.size hz1).trans Q0.out
      obtain ⟨e0, e1, e2, e3, e4, e5, e6, e7, e8, e9, e10⟩ := Dt.cells11 q1
      have HBZ := Lib.hid (HB1.out.trans (hbz.mono (Nat.le_of_lt hz1)))
      clear hbz q1 c0 c1 c2 c3 c4 c5 c6 c7 c8 c9 c10
      go_wp2_with fail
      refine (KI.out _).mono ?_
      rintro x w6 ⟨rfl, hb6⟩
      have HB6 := Lib.hid (HBZ.out.trans (hb6.mono (by omega)))
      clear hb6
      go_wp2_with fail
      go_ret2
      exact ⟨rfl, HB6.out⟩
set_option maxHeartbeats 4000000 in
set_option maxRecDepth 1000000 in
theorem Ls.Items_nil (lst : Value) (hl : ∃ ad cap, lst = .slice ad 0 cap) (w : World) : Calls Tryz.prog 23 #[Dt.leaf 1 ⟨#[]⟩ lst] w fun e w' => e = .returned (.tuple #[.slice none 0 0, .int .i64 0]) ∧ Below w.heap.size w w' := by
  have KR := Lib.hid (fun w => Ls.read_nil lst hl w)
  obtain ⟨ad, cap, rfl⟩ := hl
  have hb0 : ∀ o, Below w.heap.size w (w.alloc o) := fun o => (Below.refl _ _).alloc (Nat.le_refl _) _
  unfold Dt.leaf Dt.cells at *
  go_enter Tryz.func23, Tryz.ntmps23
  go_wp2_with fail
  refine (KR.out _).mono ?_
  rintro x w1 ⟨rfl, hb1⟩
  have HB1 := Lib.hid ((hb0 _).trans (hb1.mono (by simp)))
  clear hb1 hb0 KR
  go_wp2_with fail
  go_loopw [15] (fun i wr => i = .int .i64 0 ∧ wr = w1) (fun _ _ => 0)
  case atStart => exact ⟨rfl, rfl⟩
  case round =>
    obtain ⟨rfl, rfl⟩ := hrel
    go_wp2_with fail
    go_ret2
    exact ⟨rfl, HB1.out⟩
end Go.Proofs.YthcdkhegdlbdiaaGreatDoor
