/-
  Set of a new key in an empty table of kind 2.
-/
import Derived.Test.YtmkadnlcfbbgfaaGreatDoorTbMap
import Derived.Test.YtmkadnlcfbbgfaaGreatDoorDtStore
import Derived.Deep.RegionHeld3
namespace Go.Proofs.YtmkadnlcfbbgfaaGreatDoor
open Go.RowKit
set_option linter.unusedVariables false

/-- The world in which the map r has one entry, that leads to x. -/
def Tb.upd (w : World) (r : Nat) (fs : ByteArray) (x : Nat) : World := { w with heap := w.heap.setIfInBounds r (.map #[{ key := .string fs, val := .pointer (some ⟨x, 0, none⟩), born := 0 }] 1) }
/-- The world behind a map's first entry. -/
theorem Tb.fin (w W1 wB : World) (o : Obj) (fs : ByteArray) (p r : Nat) (hacc : Below W1.heap.size W1 wB) (hB : Below (min p r) w W1) (hr : r < W1.heap.size) :
    (Tb.upd (wB.alloc o) r fs wB.heap.size).heap[r]? = some (.map #[{ key := .string fs, val := .pointer (some ⟨wB.heap.size, 0, none⟩), born := 0 }] 1) ∧ (Tb.upd (wB.alloc o) r fs wB.heap.size).heap[wB.heap.size]? = some o ∧
      (∀ b, b ≠ r → b < W1.heap.size → (Tb.upd (wB.alloc o) r fs wB.heap.size).heap[b]? = W1.heap[b]?) ∧ Below (min p r) w (Tb.upd (wB.alloc o) r fs wB.heap.size) := by
  have hs := hacc.size
  have hne : ∀ b, b ≠ r → (Tb.upd (wB.alloc o) r fs wB.heap.size).heap[b]? = (wB.alloc o).heap[b]? := fun b hb => by
    show ((wB.alloc o).heap.setIfInBounds r _)[b]? = _
    rw [Array.getElem?_setIfInBounds]
    simp [Ne.symm hb]
  have hrr : r < (wB.alloc o).heap.size := by simp; omega
  refine ⟨?_, (hne _ (by omega)).trans (heap_alloc_new wB o), fun b hb hlt => (hne b hb).trans ((Lib.alloc_old _ _ _ (by omega)).trans (hacc.block b hlt)), ?_⟩
  · show ((wB.alloc o).heap.setIfInBounds r _)[r]? = _
    rw [Array.getElem?_setIfInBounds]
    simp
    omega
  · have h8 : Below (min p r) w (wB.alloc o) := (hB.trans (hacc.mono (by omega))).alloc (by omega) _
    exact h8.grown (row := some r) ⟨rfl, rfl, rfl, by show _ ≤ ((wB.alloc o).heap.setIfInBounds r _).size; simp, fun k _ hk => hne k (fun e => hk (by simp [e]))⟩ (by have := h8.size; have := hB.size; omega) (fun k hk => by simp at hk; omega)
def Tb.Keep24 (a p r : Nat) (s : ByteArray) (w' : World) : Prop :=
  w'.cell? ⟨a, 0, none⟩ = some (.int .i64 5) ∧ w'.cell? ⟨a, 1, none⟩ = some (.int .i64 0) ∧ w'.cell? ⟨a, 2, none⟩ = some (.bool false) ∧ w'.cell? ⟨a, 3, none⟩ = some (.slice none 0 0) ∧ w'.cell? ⟨a, 4, none⟩ = some (.slice none 0 0) ∧ w'.cell? ⟨a, 5, none⟩ = some (.bool false) ∧ w'.cell? ⟨a, 6, none⟩ = some (.slice none 0 0) ∧ w'.cell? ⟨a, 7, none⟩ = some (.slice none 0 0) ∧ w'.cell? ⟨a, 8, none⟩ = some (.string s) ∧ w'.cell? ⟨a, 9, none⟩ = some (.slice none 0 0) ∧ w'.cell? ⟨a, 10, none⟩ = some (.slice none 0 0) ∧ w'.cell? ⟨a + 1, 0, none⟩ = some (.int .i64 2) ∧ w'.cell? ⟨a + 1, 1, none⟩ = some (.int .i64 0) ∧ w'.cell? ⟨a + 1, 2, none⟩ = some (.bool false) ∧ w'.cell? ⟨a + 1, 3, none⟩ = some (.slice none 0 0) ∧ w'.cell? ⟨a + 1, 4, none⟩ = some (.slice none 0 0) ∧ w'.cell? ⟨a + 1, 5, none⟩ = some (.bool false) ∧ w'.cell? ⟨a + 1, 6, none⟩ = some (.slice none 0 0) ∧ w'.cell? ⟨a + 1, 7, none⟩ = some (.slice none 0 0) ∧ w'.cell? ⟨a + 1, 8, none⟩ = some (.string ⟨#[]⟩) ∧ w'.cell? ⟨a + 1, 9, none⟩ = some (.slice none 0 0) ∧ w'.cell? ⟨a + 1, 10, none⟩ = some (.slice none 0 0) ∧ w'.cell? ⟨p, 1, none⟩ = some (.int .i64 1) ∧ w'.cell? ⟨p, 2, none⟩ = some (.map (some r))
theorem Tb.Keep24.below {a p r B : Nat} {s : ByteArray} {w w' : World} (hk : Tb.Keep24 a p r s w) (hb : Below B w w') (ha : a + 1 < B) (hp : p < B) : Tb.Keep24 a p r s w' := by
  obtain ⟨x0, x1, x2, x3, x4, x5, x6, x7, x8, x9, x10, x11, x12, x13, x14, x15, x16, x17, x18, x19, x20, x21, x22, x23⟩ := hk
  exact ⟨(hb.cell (p := ⟨a, 0, none⟩) (by show a < B; omega)).trans x0, (hb.cell (p := ⟨a, 1, none⟩) (by show a < B; omega)).trans x1, (hb.cell (p := ⟨a, 2, none⟩) (by show a < B; omega)).trans x2, (hb.cell (p := ⟨a, 3, none⟩) (by show a < B; omega)).trans x3, (hb.cell (p := ⟨a, 4, none⟩) (by show a < B; omega)).trans x4, (hb.cell (p := ⟨a, 5, none⟩) (by show a < B; omega)).trans x5, (hb.cell (p := ⟨a, 6, none⟩) (by show a < B; omega)).trans x6, (hb.cell (p := ⟨a, 7, none⟩) (by show a < B; omega)).trans x7, (hb.cell (p := ⟨a, 8, none⟩) (by show a < B; omega)).trans x8, (hb.cell (p := ⟨a, 9, none⟩) (by show a < B; omega)).trans x9, (hb.cell (p := ⟨a, 10, none⟩) (by show a < B; omega)).trans x10, (hb.cell (p := ⟨a + 1, 0, none⟩) ha).trans x11, (hb.cell (p := ⟨a + 1, 1, none⟩) ha).trans x12, (hb.cell (p := ⟨a + 1, 2, none⟩) ha).trans x13, (hb.cell (p := ⟨a + 1, 3, none⟩) ha).trans x14, (hb.cell (p := ⟨a + 1, 4, none⟩) ha).trans x15, (hb.cell (p := ⟨a + 1, 5, none⟩) ha).trans x16, (hb.cell (p := ⟨a + 1, 6, none⟩) ha).trans x17, (hb.cell (p := ⟨a + 1, 7, none⟩) ha).trans x18, (hb.cell (p := ⟨a + 1, 8, none⟩) ha).trans x19, (hb.cell (p := ⟨a + 1, 9, none⟩) ha).trans x20, (hb.cell (p := ⟨a + 1, 10, none⟩) ha).trans x21, (hb.cell (p := ⟨p, 1, none⟩) hp).trans x22, (hb.cell (p := ⟨p, 2, none⟩) hp).trans x23⟩
theorem Tb.Keep24.mk {a p r : Nat} {s : ByteArray} {w : World} (q0 : w.heap[a]? = some (.cells #[.int .i64 5, .int .i64 0, .bool false, .slice none 0 0, .slice none 0 0, .bool false, .slice none 0 0, .slice none 0 0, .string s, .slice none 0 0, .slice none 0 0] 30 (0, 0))) (q1 : w.heap[a + 1]? = some (.cells #[.int .i64 2, .int .i64 0, .bool false, .slice none 0 0, .slice none 0 0, .bool false, .slice none 0 0, .slice none 0 0, .string ⟨#[]⟩, .slice none 0 0, .slice none 0 0] 30 (0, 0))) (qp : w.heap[p]? = some (.cells #[.int .i64 2, .int .i64 1, .map (some r)] 44 (0, 0))) : Tb.Keep24 a p r s w :=
  ⟨Dt.cell_of q0 0, Dt.cell_of q0 1, Dt.cell_of q0 2, Dt.cell_of q0 3, Dt.cell_of q0 4, Dt.cell_of q0 5, Dt.cell_of q0 6, Dt.cell_of q0 7, Dt.cell_of q0 8, Dt.cell_of q0 9, Dt.cell_of q0 10, Dt.cell_of q1 0, Dt.cell_of q1 1, Dt.cell_of q1 2, Dt.cell_of q1 3, Dt.cell_of q1 4, Dt.cell_of q1 5, Dt.cell_of q1 6, Dt.cell_of q1 7, Dt.cell_of q1 8, Dt.cell_of q1 9, Dt.cell_of q1 10, Dt.cell_of qp 1, Dt.cell_of qp 2⟩
set_option maxHeartbeats 4000000 in
set_option maxRecDepth 1000000 in
theorem Tb.Set_first (p r : Nat) (s fs : ByteArray) (hs : s.size ≤ 8) (hV : Dt.valid s) (hF : ∀ w : World, Calls Tryz.prog 18 #[.string s] w fun e w' => e = .returned (.string fs) ∧ Below w.heap.size w w') (w : World)
    (hp : w.heap[p]? = some (.cells #[.int .i64 2, .int .i64 0, .map (some r)] 44 (0, 0))) (hr : w.heap[r]? = some (.map #[] 0)) :
    Calls Tryz.prog 7 #[.pointer (some ⟨p, 0, none⟩), Dt.leaf 5 s (.slice none 0 0), Dt.leaf 2 ⟨#[]⟩ (.slice none 0 0)] w fun e w' => e = .returned (.int .i64 0) ∧
      (∃ x ad cap ad2 cap2, w'.heap[r]? = some (.map #[{ key := .string fs, val := .pointer (some ⟨x, 0, none⟩), born := 0 }] 1) ∧ w'.heap[x]? = some (.cells (Dt.cells 5 s (.slice ad 0 cap) ++ Dt.cells 2 ⟨#[]⟩ (.slice ad2 0 cap2) ++ #[.int .i64 1]) 51 (0, 0))) ∧
      w'.heap[p]? = some (.cells #[.int .i64 2, .int .i64 1, .map (some r)] 44 (0, 0)) ∧ Below (min p r) w w' := by
  have hpl : p < w.heap.size := (Array.getElem?_eq_some_iff.1 hp).1
  have hrl : r < w.heap.size := (Array.getElem?_eq_some_iff.1 hr).1
  have hpr : p ≠ r := fun e => by subst e; rw [hp] at hr; cases hr
  have KN := Lib.hid (fun b w hp hb hpb => Tb.name_set p r 0 s fs hs hV hF none 0 none 0 b w hp hb hpb)
  have KC1 := Lib.hid (fun w => Dt.Copy_leaf 5 s (.slice none 0 0) (.inr (.inr (.inl rfl))) ⟨_, _, rfl⟩ w)
  have KC2 := Lib.hid (fun w => Dt.Copy_leaf 2 ⟨#[]⟩ (.slice none 0 0) (.inr (.inl ⟨rfl, rfl⟩)) ⟨_, _, rfl⟩ w)
  clear hV hF
  have hsz : ∀ o, (w.alloc o).heap.size = w.heap.size + 1 := by intro o; simp
  have hsz2 : ∀ o o2, ((w.alloc o).alloc o2).heap.size = w.heap.size + 2 := by intro o o2; simp
  have hsz3 : ∀ o o2 o3, (((w.alloc o).alloc o2).alloc o3).heap.size = w.heap.size + 3 := by intro o o2 o3; simp
  have h2 : ∀ o o2 o3, (((w.alloc o).alloc o2).alloc o3).heap[w.heap.size + 2]? = some o3 := by
    intro o o2 o3
    have := heap_alloc_new ((w.alloc o).alloc o2) o3
    rwa [hsz2] at this
  have h1 : ∀ o o2 o3, (((w.alloc o).alloc o2).alloc o3).heap[w.heap.size + 1]? = some o2 := by
    intro o o2 o3
    have := heap_alloc_new (w.alloc o) o2
    rw [hsz] at this
    exact (Lib.alloc_old _ _ _ (by rw [hsz2]; omega)).trans this
  have h0 : ∀ o o2 o3, (((w.alloc o).alloc o2).alloc o3).heap[w.heap.size]? = some o := fun o o2 o3 => (Lib.alloc_old _ _ _ (by rw [hsz2]; omega)).trans ((Lib.alloc_old _ _ _ (by rw [hsz]; omega)).trans (heap_alloc_new w o))
  have ho : ∀ o o2 o3 b, b < w.heap.size → (((w.alloc o).alloc o2).alloc o3).heap[b]? = w.heap[b]? := fun o o2 o3 b hb => (Lib.alloc_old _ _ _ (by rw [hsz2]; omega)).trans ((Lib.alloc_old _ _ _ (by rw [hsz]; omega)).trans (Lib.alloc_old _ _ _ hb))
  have hb0 : ∀ o o2 o3, Below (min p r) w (((w.alloc o).alloc o2).alloc o3) := fun o o2 o3 => (((Below.refl _ _).alloc (by omega) _).alloc (by rw [hsz]; omega) _).alloc (by rw [hsz2]; omega) _
  unfold Dt.leaf at *
  unfold Dt.cells at KN KC1 KC2
  unfold Dt.cells
  go_enter Tryz.func7, Tryz.ntmps7
  go_wp2_with fail
  refine (KN.out (w.heap.size + 2) _ ((ho _ _ _ p hpl).trans hp) (h2 _ _ _) (by omega)).mono ?_
  rintro x w1 ⟨rfl, hb1⟩
  have q0 := (hb1.block w.heap.size (by omega)).trans (h0 _ _ _)
  have q1 := (hb1.block (w.heap.size + 1) (by omega)).trans (h1 _ _ _)
  have qp := (hb1.block p (by omega)).trans ((ho _ _ _ p hpl).trans hp)
  have qr := (hb1.block r (by omega)).trans ((ho _ _ _ r hrl).trans hr)
  have HB1 := Lib.hid ((hb0 _ _ _).trans (hb1.mono (by omega)))
  have l0 : w.heap.size < w1.heap.size := (Array.getElem?_eq_some_iff.1 q0).1
  have l1 : w.heap.size + 1 < w1.heap.size := (Array.getElem?_eq_some_iff.1 q1).1
  clear hb1 h0 h1 h2 ho hb0 hsz hsz2 hsz3 KN hp hr
  have Q0 := Lib.hid q0
  have Q1 := Lib.hid q1
  have p0 := Dt.cell_of qp 0
  have p1 := Dt.cell_of qp 1
  have p2 := Dt.cell_of qp 2
  have z1 := Dt.frozen_of qp 1
  have hlk := Tb.lookup_empty w1 r 0 fs qr
  have hln := fun ty => Tb.len_map w1 r 0 #[] ty qr
  have qp2 := Dt.setCells qp 1 (.int .i64 1)
  obtain ⟨W1, hW1⟩ : ∃ W, w1.setCell ⟨p, 1, none⟩ (.int .i64 1) = W := ⟨_, rfl⟩
  have hne : ∀ b, b ≠ p → W1.heap[b]? = w1.heap[b]? := fun b hb => by rw [← hW1]; exact Below.heap_setCell w1 ⟨p, 1, none⟩ _ b hb
  have hbW : Below (min p r) w1 W1 := by rw [← hW1]; exact (Below.refl _ _).setCell (p := ⟨p, 1, none⟩) (Nat.min_le_left p r) _
  have hzW : W1.heap.size = w1.heap.size := by rw [← hW1]; simp
  rw [hW1] at qp2
  have HB2 := Lib.hid (HB1.out.trans hbW)
  have hk2 : Tb.Keep24 w.heap.size p r s W1 := Tb.Keep24.mk ((hne _ (by omega)).trans q0) ((hne _ (by omega)).trans q1) qp2
  have QR := Lib.hid ((hne r (fun e => hpr e.symm)).trans qr)
  have QX0 := Lib.hid ((hne w.heap.size (by omega)).trans q0)
  have QX1 := Lib.hid ((hne (w.heap.size + 1) (by omega)).trans q1)
  have QP := Lib.hid qp2
  have HZW := Lib.hid hzW
  have lp : p < W1.heap.size := by omega
  have lr : r < W1.heap.size := by omega
  have l1W : w.heap.size + 1 < W1.heap.size := by omega
  clear q0 q1 qp qr hbW hne hzW qp2 Q0 Q1
  go_wp2_with fail
  obtain ⟨k0, k1, k2, k3, k4, k5, k6, k7, k8, k9, k10, k11, k12, k13, k14, k15, k16, k17, k18, k19, k20, k21, k22, k23⟩ := hk2
  have HK2 := Lib.hid (show Tb.Keep24 w.heap.size p r s W1 from ⟨k0, k1, k2, k3, k4, k5, k6, k7, k8, k9, k10, k11, k12, k13, k14, k15, k16, k17, k18, k19, k20, k21, k22, k23⟩)
  have hacc : Below W1.heap.size W1 W1.drew := (Below.refl _ _).drew
  clear k0 hlk hln HB1 p0 p1 p2 z1
  have k0 := HK2.out.1
  go_region_held3 (fun w' => w'.cell? ⟨w.heap.size, 0, none⟩ = some (.int .i64 5) ∧ w'.cell? ⟨w.heap.size, 1, none⟩ = some (.int .i64 0) ∧ w'.cell? ⟨w.heap.size, 2, none⟩ = some (.bool false) ∧ w'.cell? ⟨w.heap.size, 3, none⟩ = some (.slice none 0 0) ∧ w'.cell? ⟨w.heap.size, 4, none⟩ = some (.slice none 0 0) ∧ w'.cell? ⟨w.heap.size, 5, none⟩ = some (.bool false) ∧ w'.cell? ⟨w.heap.size, 6, none⟩ = some (.slice none 0 0) ∧ w'.cell? ⟨w.heap.size, 7, none⟩ = some (.slice none 0 0) ∧ w'.cell? ⟨w.heap.size, 8, none⟩ = some (.string s) ∧ w'.cell? ⟨w.heap.size, 9, none⟩ = some (.slice none 0 0) ∧ w'.cell? ⟨w.heap.size, 10, none⟩ = some (.slice none 0 0) ∧ w'.cell? ⟨w.heap.size + 1, 0, none⟩ = some (.int .i64 2) ∧ w'.cell? ⟨w.heap.size + 1, 1, none⟩ = some (.int .i64 0) ∧ w'.cell? ⟨w.heap.size + 1, 2, none⟩ = some (.bool false) ∧ w'.cell? ⟨w.heap.size + 1, 3, none⟩ = some (.slice none 0 0) ∧ w'.cell? ⟨w.heap.size + 1, 4, none⟩ = some (.slice none 0 0) ∧ w'.cell? ⟨w.heap.size + 1, 5, none⟩ = some (.bool false) ∧ w'.cell? ⟨w.heap.size + 1, 6, none⟩ = some (.slice none 0 0) ∧ w'.cell? ⟨w.heap.size + 1, 7, none⟩ = some (.slice none 0 0) ∧ w'.cell? ⟨w.heap.size + 1, 8, none⟩ = some (.string ⟨#[]⟩) ∧ w'.cell? ⟨w.heap.size + 1, 9, none⟩ = some (.slice none 0 0) ∧ w'.cell? ⟨w.heap.size + 1, 10, none⟩ = some (.slice none 0 0) ∧ w'.cell? ⟨p, 1, none⟩ = some (.int .i64 1) ∧ w'.cell? ⟨p, 2, none⟩ = some (.map (some r)))
    (first | go_keep | exact hkeep | exact hkeepU _)
    (first
      | (go_at_call_of 13 (Value.agg #[.int .i64 5, .int .i64 0, .bool false, .slice none 0 0, .slice none 0 0, .bool false, .slice none 0 0, .slice none 0 0, .string s, .slice none 0 0, .slice none 0 0])
         refine (KC1.out _).mono ?_
         rintro x wA ⟨⟨adA, capA, rfl⟩, hbA⟩
         have hacc := hacc.trans (hbA.mono hacc.size)
         have hkeep := HK2.out.below hacc l1W lp
         have hU := fun o => Tb.fin w W1 wA o fs p r hacc HB2.out lr
         have hmu : ∀ o, (Instr.mapUpdate 42 (.map (some r)) (.string fs) (.pointer (some ⟨wA.heap.size, 0, none⟩))).run Tryz.prog (wA.alloc o) = .ok () (Tb.upd (wA.alloc o) r fs wA.heap.size) := fun o => Tb.update_first _ r 0 fs _ ((Lib.alloc_old _ _ _ (Nat.lt_of_lt_of_le lr hacc.size)).trans ((hacc.block r lr).trans QR.out))
         have hkeepU := fun o => Tb.Keep24.mk (((hU o).2.2.1 _ (by omega) (by omega)).trans QX0.out) (((hU o).2.2.1 _ (by omega) (by omega)).trans QX1.out) (((hU o).2.2.1 _ hpr lp).trans QP.out))
      | (go_at_call_of 13 (Value.agg #[.int .i64 2, .int .i64 0, .bool false, .slice none 0 0, .slice none 0 0, .bool false, .slice none 0 0, .slice none 0 0, .string ⟨#[]⟩, .slice none 0 0, .slice none 0 0])
         refine (KC2.out _).mono ?_
         rintro x wB ⟨⟨adB, capB, rfl⟩, hbB⟩
         have hacc := hacc.trans (hbB.mono hacc.size)
         have hkeep := HK2.out.below hacc l1W lp
         have hU := fun o => Tb.fin w W1 wB o fs p r hacc HB2.out lr
         have hmu : ∀ o, (Instr.mapUpdate 42 (.map (some r)) (.string fs) (.pointer (some ⟨wB.heap.size, 0, none⟩))).run Tryz.prog (wB.alloc o) = .ok () (Tb.upd (wB.alloc o) r fs wB.heap.size) := fun o => Tb.update_first _ r 0 fs _ ((Lib.alloc_old _ _ _ (Nat.lt_of_lt_of_le lr hacc.size)).trans ((hacc.block r lr).trans QR.out))
         have hkeepU := fun o => Tb.Keep24.mk (((hU o).2.2.1 _ (by omega) (by omega)).trans QX0.out) (((hU o).2.2.1 _ (by omega) (by omega)).trans QX1.out) (((hU o).2.2.1 _ hpr lp).trans QP.out)))
  have HU := Lib.hid hU
  clear hmu hkeepU hkeep hU
  go_wp2_with fail
  go_ret
  exact ⟨rfl, ⟨_, adA, capA, adB, capB, (HU.out _).1, (HU.out _).2.1⟩, ((HU.out _).2.2.1 _ hpr lp).trans QP.out, (HU.out _).2.2.2⟩
end Go.Proofs.YtmkadnlcfbbgfaaGreatDoor
