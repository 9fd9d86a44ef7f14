/-
  The name of a key that is a short text, in a table of kind 2.
-/
import Derived.Test.YtmkadnlcfbbgfaaGreatDoorDtCopy
import Derived.Test.YtmkadnlcfbbgfaaGreatDoorChFold
import Derived.Laws.AppendOwn
namespace Go.Proofs.YtmkadnlcfbbgfaaGreatDoor
open Go.RowKit
set_option linter.unusedVariables false

theorem Dt.addr_add (b off j : Nat) : (⟨b, off, none⟩ : Addr).add j = ⟨b, off + j, none⟩ := by
  first | rfl | simp [Addr.add]
theorem Dt.row_at {w : World} {b : Nat} {C : Array Value} {t : TypeId} (h : w.heap[b]? = some (.cells C t (0, 0))) : ∀ (j : Nat) (u : Value), C.toList[j]? = some u → w.cell? ((⟨b, 0, none⟩ : Addr).add j) = some u := by
  intro j u hu
  rw [Dt.addr_add, Nat.zero_add, Dt.cell_of h]
  simpa using hu
theorem Dt.infoDatum : (Tryz.prog.info? 30).map (fun i => (i.zero, i.size, i.bytes)) = some (some (.agg #[.int .i64 0, .int .i64 0, .bool false, .slice none 0 0, .slice none 0 0, .bool false, .slice none 0 0, .slice none 0 0, .string ⟨#[]⟩, .slice none 0 0, .slice none 0 0]), 11, 192) := by kernel_rfl
/-- A row of n cells (n > 0) that the call owns. -/
theorem Dt.own_open {w : World} {B sz n : Nat} {t : TypeId} {v : Value} {xs : List Value} (h : w.ownsRow B t sz v n xs) (hn : 0 < n) : ∃ g cap, v = .slice (some ⟨g, 0, none⟩) n cap ∧ B ≤ g ∧ g < w.heap.size ∧ ∀ j u, xs[j]? = some u → w.cell? ⟨g, j, none⟩ = some u := by
  rcases h.2 with ⟨_, h0⟩ | ⟨g, cap, cur, rfl, hB, hg, hr⟩
  · omega
  · refine ⟨g, cap, rfl, hB, (Array.getElem?_eq_some_iff.1 hg).1, fun j u hj => ?_⟩
    have := h.cells (g := g) rfl j u hj
    rwa [Dt.addr_add, Nat.zero_add] at this

set_option maxHeartbeats 4000000 in
set_option maxRecDepth 1000000 in
theorem Tb.name_get (p r : Nat) (last : Int) (s fs : ByteArray) (hs : s.size ≤ 8) (hV : Dt.valid s) (hF : ∀ w : World, Calls Tryz.prog 18 #[.string s] w fun e w' => e = .returned (.string fs) ∧ Below w.heap.size w w') (ad : Option Addr) (cap : Nat) (w : World)
    (hp : w.heap[p]? = some (.cells #[.int .i64 2, .int .i64 last, .map (some r)] 44 (0, 0))) :
    Calls Tryz.prog 12 #[.pointer (some ⟨p, 0, none⟩), Dt.leaf 5 s (.slice ad 0 cap), .slice none 0 0] w fun e w' => e = .returned (.tuple #[.string fs, .int .i64 0]) ∧ Below w.heap.size w w' := by
  have KS := Lib.hid (fun w => Dt.Sound_leaf 5 s (.slice ad 0 cap) (.inr (.inr (.inl rfl))) ⟨_, _, rfl⟩ hV w)
  have KF := Lib.hid hF
  clear hV hF
  obtain ⟨i0, hi, hz0, hz1, hz2⟩ := info_parts Dt.infoDatum
  have hpl : p < w.heap.size := (Array.getElem?_eq_some_iff.1 hp).1
  have hq0 : ∀ o, (w.alloc o).heap[w.heap.size]? = some o := fun o => heap_alloc_new w o
  have hsz : ∀ o, (w.alloc o).heap.size = w.heap.size + 1 := by intro o; simp
  have hq1 : ∀ o o2, ((w.alloc o).alloc o2).heap[w.heap.size + 1]? = some o2 := by
    intro o o2
    have := heap_alloc_new (w.alloc o) o2
    rwa [hsz] at this
  have hq2 : ∀ o o2, ((w.alloc o).alloc o2).heap[w.heap.size]? = some o := fun o o2 => (Lib.alloc_old _ _ _ (by rw [hsz]; omega)).trans (hq0 o)
  have hqp : ∀ o o2, ((w.alloc o).alloc o2).heap[p]? = _ := fun o o2 => ((Lib.alloc_old _ _ _ (by rw [hsz]; omega)).trans (Lib.alloc_old _ _ _ hpl)).trans hp
  have hb1 : ∀ o o2, Below w.heap.size w ((w.alloc o).alloc o2) := fun o o2 => ((Below.refl _ _).alloc (Nat.le_refl _) _).alloc (by rw [hsz]; omega) _
  have hown : ∀ o o2, ((w.alloc o).alloc o2).ownsRow (w.heap.size + 1) 30 11 (.slice none 0 0) 0 [] := fun o o2 => ⟨by simp, .inl ⟨rfl, rfl⟩⟩
  clear hp
  unfold Dt.leaf Dt.cells at *
  go_enter Tryz.func12, Tryz.ntmps12
  go_wp2_with (at_builtin; refine wpList_append_own _ rfl _ _ 28 rfl (w.heap.size + 1) 30 i0 (.agg #[.int .i64 0, .int .i64 0, .bool false, .slice none 0 0, .slice none 0 0, .bool false, .slice none 0 0, .slice none 0 0, .string ⟨#[]⟩, .slice none 0 0, .slice none 0 0]) 11 192 Tryz.underlying28 hi hz0 hz1 hz2 rfl (by decide) _ _ _ rfl (hown _ _) ⟨w.heap.size + 1, 0, none⟩ 1 1 [.int .i64 5, .int .i64 0, .bool false, .slice none 0 0, .slice none 0 0, .bool false, .slice none 0 0, .slice none 0 0, .string s, .slice none 0 0, .slice ad 0 cap] rfl rfl (Dt.row_at (hq1 _ _)) ?c2 ?c3 ?c4 ?c5 ?_)
  case c2 => intro u hu; simp only [List.mem_cons, List.not_mem_nil, or_false] at hu; rcases hu with rfl | rfl | rfl | rfl | rfl | rfl | rfl | rfl | rfl | rfl | rfl <;> rfl
  case c3 => first | decide | (unfold maxLen; omega)
  case c4 => first | decide | omega
  case c5 => simp <;> omega
  intro v' w1 hown' hgrow _
  obtain ⟨g, cp, rfl, hBg, hgl, hc⟩ := Dt.own_open hown' (by decide)
  have c0_0 := hc 0 _ rfl
  have c0_1 := hc 1 _ rfl
  have c0_2 := hc 2 _ rfl
  have c0_3 := hc 3 _ rfl
  have c0_4 := hc 4 _ rfl
  have c0_5 := hc 5 _ rfl
  have c0_6 := hc 6 _ rfl
  have c0_7 := hc 7 _ rfl
  have c0_8 := hc 8 _ rfl
  have c0_9 := hc 9 _ rfl
  have c0_10 := hc 10 _ rfl
  have HB1 := Lib.hid ((hb1 _ _).grown hgrow (by simp; omega) (fun k hk => by first | (cases hk; done) | (simp [Value.ownBlock] at hk; omega)))
  have q0 := (hgrow.block w.heap.size (by simp; omega) (by simp [Value.ownBlock])).trans (hq2 _ _)
  have qp := (hgrow.block p (by simp; omega) (by simp [Value.ownBlock])).trans (hqp _ _)
  have hz1' : w.heap.size < w1.heap.size := (Array.getElem?_eq_some_iff.1 q0).1
  have Q0 := Lib.hid q0
  have QP := Lib.hid qp
  clear hown' hgrow hown hq0 hq1 hq2 hqp hb1 hsz q0 qp hc
  go_wp2_with fail
  go_loopw [22] (fun i wr => ∃ j : Nat, i = .int .i64 j ∧ j ≤ 1 ∧ Below w1.heap.size w1 wr) (fun i _ => 1 - (intOf i).toNat)
  case atStart => exact ⟨0, rfl, Nat.zero_le _, Below.refl _ _⟩
  case round =>
    obtain ⟨j, rfl, hj, hbz⟩ := hrel
    obtain ⟨wo, hwo⟩ : ∃ z, z = wr := ⟨_, rfl⟩
    subst hwo
    have hzz := hbz.size
    by_cases hj0 : j = 0
    · subst hj0
      have d0 := (hbz.cell (p := ⟨g, 0, none⟩) hgl).trans c0_0
      have d1 := (hbz.cell (p := ⟨g, 1, none⟩) hgl).trans c0_1
      have d2 := (hbz.cell (p := ⟨g, 2, none⟩) hgl).trans c0_2
      have d3 := (hbz.cell (p := ⟨g, 3, none⟩) hgl).trans c0_3
      have d4 := (hbz.cell (p := ⟨g, 4, none⟩) hgl).trans c0_4
      have d5 := (hbz.cell (p := ⟨g, 5, none⟩) hgl).trans c0_5
      have d6 := (hbz.cell (p := ⟨g, 6, none⟩) hgl).trans c0_6
      have d7 := (hbz.cell (p := ⟨g, 7, none⟩) hgl).trans c0_7
      have d8 := (hbz.cell (p := ⟨g, 8, none⟩) hgl).trans c0_8
      have d9 := (hbz.cell (p := ⟨g, 9, none⟩) hgl).trans c0_9
      have d10 := (hbz.cell (p := ⟨g, 10, none⟩) hgl).trans c0_10
      have HBZ := Lib.hid hbz
      have hb0 : ∀ o, Below wo.heap.size wo (wo.alloc o) := fun o => (Below.refl _ _).alloc (Nat.le_refl _) _
      clear hbz c0_0 c0_1 c0_2 c0_3 c0_4 c0_5 c0_6 c0_7 c0_8 c0_9 c0_10
      go_wp2_with fail
      refine (KS.out _).mono ?_
      rintro x w5 ⟨rfl, hb5⟩
      have HB5 := Lib.hid (HBZ.out.trans (((hb0 _).trans (hb5.mono (by simp))).mono hzz))
      clear hb5 hb0 d0 d1 d2 d3 d4 d5 d6 d7 d8 d9 d10
      go_wp2_with fail
      go_roundw
      case rel => exact ⟨1, by first | rfl | go_num | simp, by omega, HB5.out⟩
      case measure => simp [intOf]
    · obtain rfl : j = 1 := by omega
      have q1 := (hbz.block w.heap.size hz1').trans Q0.out
      have qp1 := (hbz.block p (by omega)).trans QP.out
      obtain ⟨e0, e1, e2, e3, e4, e5, e6, e7, e8, e9, e10⟩ := Dt.cells11 q1
      have p0 := Dt.cell_of qp1 0
      have HBZ := Lib.hid (HB1.out.trans (hbz.mono (by omega)))
      clear hbz q1 qp1 c0_0 c0_1 c0_2 c0_3 c0_4 c0_5 c0_6 c0_7 c0_8 c0_9 c0_10
      go_wp2_with fail
      refine (KF.out _).mono ?_
      rintro x w6 ⟨rfl, hb6⟩
      have HB6 := Lib.hid (HBZ.out.trans (hb6.mono (by omega)))
      clear hb6
      go_wp2_with fail
      go_ret2
      exact ⟨rfl, HB6.out⟩

set_option maxHeartbeats 4000000 in
set_option maxRecDepth 1000000 in
theorem Tb.name_set (p r : Nat) (last : Int) (s fs : ByteArray) (hs : s.size ≤ 8) (hV : Dt.valid s) (hF : ∀ w : World, Calls Tryz.prog 18 #[.string s] w fun e w' => e = .returned (.string fs) ∧ Below w.heap.size w w') (ad : Option Addr) (cap : Nat) (ad2 : Option Addr) (cap2 : Nat) (b : Nat) (w : World)
    (hp : w.heap[p]? = some (.cells #[.int .i64 2, .int .i64 last, .map (some r)] 44 (0, 0))) (hb : w.heap[b]? = some (.cells (Dt.cells 2 ⟨#[]⟩ (.slice ad2 0 cap2)) 30 (0, 0))) (hpb : p < b) :
    Calls Tryz.prog 12 #[.pointer (some ⟨p, 0, none⟩), Dt.leaf 5 s (.slice ad 0 cap), .slice (some ⟨b, 0, none⟩) 1 1] w fun e w' => e = .returned (.tuple #[.string fs, .int .i64 0]) ∧ Below b w w' := by
  have KS := Lib.hid (fun w => Dt.Sound_leaf 5 s (.slice ad 0 cap) (.inr (.inr (.inl rfl))) ⟨_, _, rfl⟩ hV w)
  have hV0 : Dt.valid ⟨#[]⟩ := fun w => Dt.valid_short [] (by decide) (by simp) w
  have KS2 := Lib.hid (fun w => Dt.Sound_leaf 2 ⟨#[]⟩ (.slice ad2 0 cap2) (.inr (.inl ⟨rfl, rfl⟩)) ⟨_, _, rfl⟩ hV0 w)
  clear hV0
  have KF := Lib.hid hF
  clear hV hF
  obtain ⟨i0, hi, hz0, hz1, hz2⟩ := info_parts Dt.infoDatum
  have hpl : p < w.heap.size := (Array.getElem?_eq_some_iff.1 hp).1
  have hbl : b < w.heap.size := (Array.getElem?_eq_some_iff.1 hb).1
  have hq0 : ∀ o, (w.alloc o).heap[w.heap.size]? = some o := fun o => heap_alloc_new w o
  have hsz : ∀ o, (w.alloc o).heap.size = w.heap.size + 1 := by intro o; simp
  have hq1 : ∀ o o2, ((w.alloc o).alloc o2).heap[w.heap.size + 1]? = some o2 := by
    intro o o2
    have := heap_alloc_new (w.alloc o) o2
    rwa [hsz] at this
  have hq2 : ∀ o o2, ((w.alloc o).alloc o2).heap[w.heap.size]? = some o := fun o o2 => (Lib.alloc_old _ _ _ (by rw [hsz]; omega)).trans (hq0 o)
  have hqp : ∀ o o2, ((w.alloc o).alloc o2).heap[p]? = _ := fun o o2 => ((Lib.alloc_old _ _ _ (by rw [hsz]; omega)).trans (Lib.alloc_old _ _ _ hpl)).trans hp
  have hb1 : ∀ o o2, Below b w ((w.alloc o).alloc o2) := fun o o2 => ((Below.refl _ _).alloc (Nat.le_of_lt hbl) _).alloc (by rw [hsz]; omega) _
  have hown : ∀ o o2, ((w.alloc o).alloc o2).ownsRow b 30 11 (.slice (some ⟨b, 0, none⟩) 1 1) 1 [.int .i64 2, .int .i64 0, .bool false, .slice none 0 0, .slice none 0 0, .bool false, .slice none 0 0, .slice none 0 0, .string ⟨#[]⟩, .slice none 0 0, .slice ad2 0 cap2] := fun o o2 =>
    ⟨by simp <;> omega, .inr ⟨b, 1, _, rfl, Nat.le_refl _, ((Lib.alloc_old _ _ _ (by rw [hsz]; omega)).trans (Lib.alloc_old _ _ _ hbl)).trans hb, by omega, by unfold maxLen; omega, by simp [Dt.cells], by simp [Dt.cells]⟩⟩
  clear hp hb
  unfold Dt.leaf Dt.cells at *
  go_enter Tryz.func12, Tryz.ntmps12
  go_wp2_with (at_builtin; refine wpList_append_own _ rfl _ _ 28 rfl b 30 i0 (.agg #[.int .i64 0, .int .i64 0, .bool false, .slice none 0 0, .slice none 0 0, .bool false, .slice none 0 0, .slice none 0 0, .string ⟨#[]⟩, .slice none 0 0, .slice none 0 0]) 11 192 Tryz.underlying28 hi hz0 hz1 hz2 rfl (by decide) _ _ _ rfl (hown _ _) ⟨w.heap.size + 1, 0, none⟩ 1 1 [.int .i64 5, .int .i64 0, .bool false, .slice none 0 0, .slice none 0 0, .bool false, .slice none 0 0, .slice none 0 0, .string s, .slice none 0 0, .slice ad 0 cap] rfl rfl (Dt.row_at (hq1 _ _)) ?c2 ?c3 ?c4 ?c5 ?_)
  case c2 => intro u hu; simp only [List.mem_cons, List.not_mem_nil, or_false] at hu; rcases hu with rfl | rfl | rfl | rfl | rfl | rfl | rfl | rfl | rfl | rfl | rfl <;> rfl
  case c3 => first | decide | (unfold maxLen; omega)
  case c4 => first | decide | omega
  case c5 => simp <;> omega
  intro v' w1 hown' hgrow _
  obtain ⟨g, cp, rfl, hBg, hgl, hc⟩ := Dt.own_open hown' (by decide)
  have c0_0 := hc 0 _ rfl
  have c0_1 := hc 1 _ rfl
  have c0_2 := hc 2 _ rfl
  have c0_3 := hc 3 _ rfl
  have c0_4 := hc 4 _ rfl
  have c0_5 := hc 5 _ rfl
  have c0_6 := hc 6 _ rfl
  have c0_7 := hc 7 _ rfl
  have c0_8 := hc 8 _ rfl
  have c0_9 := hc 9 _ rfl
  have c0_10 := hc 10 _ rfl
  have c1_0 := hc 11 _ rfl
  have c1_1 := hc 12 _ rfl
  have c1_2 := hc 13 _ rfl
  have c1_3 := hc 14 _ rfl
  have c1_4 := hc 15 _ rfl
  have c1_5 := hc 16 _ rfl
  have c1_6 := hc 17 _ rfl
  have c1_7 := hc 18 _ rfl
  have c1_8 := hc 19 _ rfl
  have c1_9 := hc 20 _ rfl
  have c1_10 := hc 21 _ rfl
  have HB1 := Lib.hid ((hb1 _ _).grown hgrow (by simp; omega) (fun k hk => by first | (cases hk; done) | (simp [Value.ownBlock] at hk; omega)))
  have q0 := (hgrow.block w.heap.size (by simp; omega) (by simp [Value.ownBlock] <;> omega)).trans (hq2 _ _)
  have qp := (hgrow.block p (by simp; omega) (by simp [Value.ownBlock] <;> omega)).trans (hqp _ _)
  have hz1' : w.heap.size < w1.heap.size := (Array.getElem?_eq_some_iff.1 q0).1
  have Q0 := Lib.hid q0
  have QP := Lib.hid qp
  clear hown' hgrow hown hq0 hq1 hq2 hqp hb1 hsz q0 qp hc
  go_wp2_with fail
  go_loopw [22] (fun i wr => ∃ j : Nat, i = .int .i64 j ∧ j ≤ 2 ∧ Below w1.heap.size w1 wr) (fun i _ => 2 - (intOf i).toNat)
  case atStart => exact ⟨0, rfl, Nat.zero_le _, Below.refl _ _⟩
  case round =>
    obtain ⟨j, rfl, hj, hbz⟩ := hrel
    obtain ⟨wo, hwo⟩ : ∃ z, z = wr := ⟨_, rfl⟩
    subst hwo
    have hzz := hbz.size
    by_cases hj0 : j = 0
    · subst hj0
      have d0 := (hbz.cell (p := ⟨g, 0, none⟩) hgl).trans c0_0
      have d1 := (hbz.cell (p := ⟨g, 1, none⟩) hgl).trans c0_1
      have d2 := (hbz.cell (p := ⟨g, 2, none⟩) hgl).trans c0_2
      have d3 := (hbz.cell (p := ⟨g, 3, none⟩) hgl).trans c0_3
      have d4 := (hbz.cell (p := ⟨g, 4, none⟩) hgl).trans c0_4
      have d5 := (hbz.cell (p := ⟨g, 5, none⟩) hgl).trans c0_5
      have d6 := (hbz.cell (p := ⟨g, 6, none⟩) hgl).trans c0_6
      have d7 := (hbz.cell (p := ⟨g, 7, none⟩) hgl).trans c0_7
      have d8 := (hbz.cell (p := ⟨g, 8, none⟩) hgl).trans c0_8
      have d9 := (hbz.cell (p := ⟨g, 9, none⟩) hgl).trans c0_9
      have d10 := (hbz.cell (p := ⟨g, 10, none⟩) hgl).trans c0_10
      have HBZ := Lib.hid hbz
      have hb0 : ∀ o, Below wo.heap.size wo (wo.alloc o) := fun o => (Below.refl _ _).alloc (Nat.le_refl _) _
      clear hbz c0_0 c0_1 c0_2 c0_3 c0_4 c0_5 c0_6 c0_7 c0_8 c0_9 c0_10 c1_0 c1_1 c1_2 c1_3 c1_4 c1_5 c1_6 c1_7 c1_8 c1_9 c1_10
      go_wp2_with fail
      refine (KS2.out _).mono ?_
      rintro x w5 ⟨rfl, hb5⟩
      have HB5 := Lib.hid (HBZ.out.trans (((hb0 _).trans (hb5.mono (by simp))).mono hzz))
      clear hb5 hb0 d0 d1 d2 d3 d4 d5 d6 d7 d8 d9 d10
      go_wp2_with fail
      go_roundw
      case rel => exact ⟨1, by first | rfl | go_num | simp, by omega, HB5.out⟩
      case measure => simp [intOf]
    · by_cases hj1 : j = 1
      · subst hj1
        have d0 := (hbz.cell (p := ⟨g, 11, none⟩) hgl).trans c1_0
        have d1 := (hbz.cell (p := ⟨g, 12, none⟩) hgl).trans c1_1
        have d2 := (hbz.cell (p := ⟨g, 13, none⟩) hgl).trans c1_2
        have d3 := (hbz.cell (p := ⟨g, 14, none⟩) hgl).trans c1_3
        have d4 := (hbz.cell (p := ⟨g, 15, none⟩) hgl).trans c1_4
        have d5 := (hbz.cell (p := ⟨g, 16, none⟩) hgl).trans c1_5
        have d6 := (hbz.cell (p := ⟨g, 17, none⟩) hgl).trans c1_6
        have d7 := (hbz.cell (p := ⟨g, 18, none⟩) hgl).trans c1_7
        have d8 := (hbz.cell (p := ⟨g, 19, none⟩) hgl).trans c1_8
        have d9 := (hbz.cell (p := ⟨g, 20, none⟩) hgl).trans c1_9
        have d10 := (hbz.cell (p := ⟨g, 21, none⟩) hgl).trans c1_10
        have HBZ := Lib.hid hbz
        have hb0 : ∀ o, Below wo.heap.size wo (wo.alloc o) := fun o => (Below.refl _ _).alloc (Nat.le_refl _) _
        clear hbz c0_0 c0_1 c0_2 c0_3 c0_4 c0_5 c0_6 c0_7 c0_8 c0_9 c0_10 c1_0 c1_1 c1_2 c1_3 c1_4 c1_5 c1_6 c1_7 c1_8 c1_9 c1_10
        go_wp2_with fail
        refine (KS.out _).mono ?_
        rintro x w5 ⟨rfl, hb5⟩
        have HB5 := Lib.hid (HBZ.out.trans (((hb0 _).trans (hb5.mono (by simp))).mono hzz))
        clear hb5 hb0 d0 d1 d2 d3 d4 d5 d6 d7 d8 d9 d10
        go_wp2_with fail
        go_roundw
        case rel => exact ⟨2, by first | rfl | go_num | simp, by omega, HB5.out⟩
        case measure => simp [intOf]
      · obtain rfl : j = 2 := by omega
        have q1 := (hbz.block w.heap.size hz1').trans Q0.out
        have qp1 := (hbz.block p (by omega)).trans QP.out
        obtain ⟨e0, e1, e2, e3, e4, e5, e6, e7, e8, e9, e10⟩ := Dt.cells11 q1
        have p0 := Dt.cell_of qp1 0
        have HBZ := Lib.hid (HB1.out.trans (hbz.mono (by omega)))
        clear hbz q1 qp1 c0_0 c0_1 c0_2 c0_3 c0_4 c0_5 c0_6 c0_7 c0_8 c0_9 c0_10 c1_0 c1_1 c1_2 c1_3 c1_4 c1_5 c1_6 c1_7 c1_8 c1_9 c1_10
        go_wp2_with fail
        refine (KF.out _).mono ?_
        rintro x w6 ⟨rfl, hb6⟩
        have HB6 := Lib.hid (HBZ.out.trans (hb6.mono (by omega)))
        clear hb6
        go_wp2_with fail
        go_ret2
        exact ⟨rfl, HB6.out⟩
end Go.Proofs.YtmkadnlcfbbgfaaGreatDoor
