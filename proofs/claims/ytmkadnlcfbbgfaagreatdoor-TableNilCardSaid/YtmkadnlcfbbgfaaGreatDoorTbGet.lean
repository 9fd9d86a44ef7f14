/-
  Get of a key that a table of kind 2 holds, and the fixed fact of layer 13's laws.
-/
import Derived.Test.YtmkadnlcfbbgfaaGreatDoorTbSet
namespace Go.Proofs.YtmkadnlcfbbgfaaGreatDoor
open Go.RowKit
set_option linter.unusedVariables false

set_option maxHeartbeats 4000000 in
set_option maxRecDepth 1000000 in
theorem Tb.Get_one (p r x : Nat) (last : Int) (s s1 fs : ByteArray) (hss : (fs == fs) = true) (hs : s.size ≤ 8) (hV : Dt.valid s) (hF : ∀ w : World, Calls Tryz.prog 18 #[.string s] w fun e w' => e = .returned (.string fs) ∧ Below w.heap.size w w') (ad1 : Option Addr) (cap1 : Nat) (ad2 : Option Addr) (cap2 : Nat) (w : World)
    (hp : w.heap[p]? = some (.cells #[.int .i64 2, .int .i64 last, .map (some r)] 44 (0, 0))) (hr : w.heap[r]? = some (.map #[{ key := .string fs, val := .pointer (some ⟨x, 0, none⟩), born := 0 }] 1))
    (hx : w.heap[x]? = some (.cells (Dt.cells 5 s1 (.slice ad1 0 cap1) ++ Dt.cells 2 ⟨#[]⟩ (.slice ad2 0 cap2) ++ #[.int .i64 1]) 51 (0, 0))) :
    Calls Tryz.prog 5 #[.pointer (some ⟨p, 0, none⟩), Dt.leaf 5 s (.slice none 0 0)] w fun e w' => (∃ ad cap, e = .returned (.tuple #[Dt.leaf 2 ⟨#[]⟩ (.slice ad 0 cap), .int .i64 0])) ∧ Below w.heap.size w w' := by
  have hpl : p < w.heap.size := (Array.getElem?_eq_some_iff.1 hp).1
  have hrl : r < w.heap.size := (Array.getElem?_eq_some_iff.1 hr).1
  have hxl : x < w.heap.size := (Array.getElem?_eq_some_iff.1 hx).1
  have KN := Lib.hid (fun w hp => Tb.name_get p r last s fs hs hV hF none 0 w hp)
  have KC := Lib.hid (fun w => Dt.Copy_leaf 2 ⟨#[]⟩ (.slice ad2 0 cap2) (.inr (.inl ⟨rfl, rfl⟩)) ⟨_, _, rfl⟩ w)
  clear hV hF
  have hsz : ∀ o, (w.alloc o).heap.size = w.heap.size + 1 := by intro o; simp
  have hsz2 : ∀ o o2, ((w.alloc o).alloc o2).heap.size = w.heap.size + 2 := by intro o o2; simp
  have h1 : ∀ o o2, ((w.alloc o).alloc o2).heap[w.heap.size + 1]? = some o2 := by
    intro o o2
    have := heap_alloc_new (w.alloc o) o2
    rwa [hsz] at this
  have ho : ∀ o o2 b, b < w.heap.size → ((w.alloc o).alloc o2).heap[b]? = w.heap[b]? := fun o o2 b hb => (Lib.alloc_old _ _ _ (by rw [hsz]; omega)).trans (Lib.alloc_old _ _ _ hb)
  have hb0 : ∀ o o2, Below w.heap.size w ((w.alloc o).alloc o2) := fun o o2 => ((Below.refl _ _).alloc (Nat.le_refl _) _).alloc (by rw [hsz]; omega) _
  unfold Dt.leaf at *
  unfold Dt.cells at KN KC
  unfold Dt.cells
  go_enter Tryz.func5, Tryz.ntmps5
  go_wp2_with fail
  refine (KN.out _ ((ho _ _ p hpl).trans hp)).mono ?_
  rintro y w1 ⟨rfl, hb1⟩
  have q1 := (hb1.block (w.heap.size + 1) (by rw [hsz2]; omega)).trans (h1 _ _)
  have qp := (hb1.block p (by rw [hsz2]; omega)).trans ((ho _ _ p hpl).trans hp)
  have qr := (hb1.block r (by rw [hsz2]; omega)).trans ((ho _ _ r hrl).trans hr)
  have qx := (hb1.block x (by rw [hsz2]; omega)).trans ((ho _ _ x hxl).trans hx)
  have HB1 := Lib.hid ((hb0 _ _).trans (hb1.mono (by rw [hsz2]; omega)))
  have l1 : w.heap.size + 1 < w1.heap.size := (Array.getElem?_eq_some_iff.1 q1).1
  have Q1 := Lib.hid q1
  clear hb1 h1 ho hb0 hsz hsz2 KN hp hr hx q1
  have p2 := Dt.cell_of qp 2
  have hlk := Tb.lookup_one w1 r 1 0 fs (.pointer (some ⟨x, 0, none⟩)) hss qr
  have d0 : w1.cell? ⟨x, 11, none⟩ = some (.int .i64 2) := Dt.cell_of qx 11
  have d1 : w1.cell? ⟨x, 12, none⟩ = some (.int .i64 0) := Dt.cell_of qx 12
  have d2 : w1.cell? ⟨x, 13, none⟩ = some (.bool false) := Dt.cell_of qx 13
  have d3 : w1.cell? ⟨x, 14, none⟩ = some (.slice none 0 0) := Dt.cell_of qx 14
  have d4 : w1.cell? ⟨x, 15, none⟩ = some (.slice none 0 0) := Dt.cell_of qx 15
  have d5 : w1.cell? ⟨x, 16, none⟩ = some (.bool false) := Dt.cell_of qx 16
  have d6 : w1.cell? ⟨x, 17, none⟩ = some (.slice none 0 0) := Dt.cell_of qx 17
  have d7 : w1.cell? ⟨x, 18, none⟩ = some (.slice none 0 0) := Dt.cell_of qx 18
  have d8 : w1.cell? ⟨x, 19, none⟩ = some (.string ⟨#[]⟩) := Dt.cell_of qx 19
  have d9 : w1.cell? ⟨x, 20, none⟩ = some (.slice none 0 0) := Dt.cell_of qx 20
  have d10 : w1.cell? ⟨x, 21, none⟩ = some (.slice ad2 0 cap2) := Dt.cell_of qx 21
  clear qp qr qx
  go_wp2_with fail
  refine (KC.out _).mono ?_
  rintro y w2 ⟨⟨ad, cap, rfl⟩, hb2⟩
  have q2 := (hb2.block (w.heap.size + 1) l1).trans Q1.out
  have HB2 := Lib.hid (HB1.out.trans (hb2.mono (by omega)))
  clear hb2 KC d0 d1 d2 d3 d4 d5 d6 d7 d8 d9 d10 hlk p2
  obtain ⟨W1, W2, W3, W4, W5, W6, W7, W8, W9, W10, W11, ⟨f0, z0, e0, s0⟩, ⟨f1, z1, e1, s1⟩, ⟨f2, z2, e2, s2⟩, ⟨f3, z3, e3, s3⟩, ⟨f4, z4, e4, s4⟩, ⟨f5, z5, e5, s5⟩, ⟨f6, z6, e6, s6⟩, ⟨f7, z7, e7, s7⟩, ⟨f8, z8, e8, s8⟩, ⟨f9, z9, e9, s9⟩, ⟨f10, z10, e10, s10⟩, q4, hszz, _, hbb⟩ := Dt.put11 q2 (.int .i64 2) (.int .i64 0) (.bool false) (.slice none 0 0) (.slice none 0 0) (.bool false) (.slice none 0 0) (.slice none 0 0) (.string ⟨#[]⟩) (.slice none 0 0) (.slice ad 0 cap)
  have HE := Lib.hid (hbb w.heap.size w HB2.out (Nat.le_succ _))
  obtain ⟨r0, r1, r2, r3, r4, r5, r6, r7, r8, r9, r10⟩ := Dt.cells11 q4
  clear hbb hszz q4 q2
  go_wp2_with fail
  refine bodyPost_ret (v := .tuple #[.agg #[.int .i64 2, .int .i64 0, .bool false, .slice none 0 0, .slice none 0 0, .bool false, .slice none 0 0, .slice none 0 0, .string ⟨#[]⟩, .slice none 0 0, .slice ad 0 cap], .int .i64 0]) ?_ rfl ⟨⟨_, _, rfl⟩, HE.out⟩
  simp [results, Tryz.results5, go_sem, r0, r1, r2, r3, r4, r5, r6, r7, r8, r9, r10]

def Tb.Ab : ByteArray := ⟨#[65, 98]⟩
def Tb.aB : ByteArray := ⟨#[97, 66]⟩
def Tb.ab : ByteArray := ⟨#[97, 98]⟩
theorem Tb.fold_Ab (w : World) : Calls Tryz.prog 18 #[.string Tb.Ab] w fun e w' => e = .returned (.string Tb.ab) ∧ Below w.heap.size w w' := by
  have := Ch.fold_any Tb.Ab w (by decide)
  rwa [show (⟨(Ch.foldL Tb.Ab.data.toList).toArray⟩ : ByteArray) = Tb.ab by decide +kernel] at this
theorem Tb.fold_aB (w : World) : Calls Tryz.prog 18 #[.string Tb.aB] w fun e w' => e = .returned (.string Tb.ab) ∧ Below w.heap.size w w' := by
  have := Ch.fold_any Tb.aB w (by decide)
  rwa [show (⟨(Ch.foldL Tb.aB.data.toList).toArray⟩ : ByteArray) = Tb.ab by decide +kernel] at this

set_option maxHeartbeats 4000000 in
set_option maxRecDepth 1000000 in
theorem Tb.awake_any (w : World) : Calls Tryz.prog 6 #[] w fun e w' => e = .returned (.bool true) ∧ Below w.heap.size w w' := by
  have V1 : Dt.valid Tb.Ab := fun w => Dt.valid_short [65, 98] (by decide) (by decide) w
  have V2 : Dt.valid Tb.aB := fun w => Dt.valid_short [97, 66] (by decide) (by decide) w
  have KS := Lib.hid (fun p r w hp hr => Tb.Set_first p r Tb.Ab Tb.ab (by decide) V1 Tb.fold_Ab w hp hr)
  have KG := Lib.hid (fun p r x ad1 cap1 ad2 cap2 w hp hr hx => Tb.Get_one p r x 1 Tb.aB Tb.Ab Tb.ab (by decide) (by decide) V2 Tb.fold_aB ad1 cap1 ad2 cap2 w hp hr hx)
  clear V1 V2
  unfold Dt.leaf at KS KG
  unfold Dt.cells at KS KG
  rw [show Tb.Ab = ⟨#[65, 98]⟩ from rfl] at KS KG
  rw [show Tb.aB = ⟨#[97, 66]⟩ from rfl] at KG
  go_enter Tryz.func6, Tryz.ntmps6
  go_wp2_with fail
  refine (Tb.new_two _).mono ?_
  rintro y w1 ⟨rfl, hr1, hp1, hb1⟩
  have HB1 := Lib.hid hb1
  have HP1 := Lib.hid hp1
  have HR1 := Lib.hid hr1
  clear hb1 hp1 hr1
  go_wp2_with fail
  refine (KS.out _ _ _ HP1.out HR1.out).mono ?_
  rintro y w2 ⟨rfl, ⟨x, ad1, cap1, ad2, cap2, hr2, hx2⟩, hp2, hb2⟩
  have HB2 := Lib.hid (HB1.out.trans (hb2.mono (by omega)))
  have HP2 := Lib.hid hp2
  have HR2 := Lib.hid hr2
  have HX2 := Lib.hid hx2
  clear hb2 hp2 hr2 hx2 KS
  go_wp2_with fail
  refine (KG.out _ _ _ _ _ _ _ _ HP2.out HR2.out HX2.out).mono ?_
  rintro y w3 ⟨⟨ad, cap, rfl⟩, hb3⟩
  have HB3 := Lib.hid (HB2.out.trans (hb3.mono HB2.out.size))
  clear hb3 KG
  go_wp2
  go_ret
  exact ⟨rfl, HB3.out.alloc HB3.out.size _⟩
end Go.Proofs.YtmkadnlcfbbgfaaGreatDoor
