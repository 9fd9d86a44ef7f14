/-
  The reference's shape of any node.
  The reference's count of a datum's nodes.
  The reference's Sound of any datum: that of the program.
  The document's tell of any datum; its Tell.
  The law WriteTells: its walk; its fixed fact; the tables off the row's own condition.
  The types of conditions: cond.kinds, find, under, Under, Name, Parent. No condition.
  cond.find, under, Under, Name, Parent, of whatever numbers. No condition.
  How many fields a type of conditions has.
  Conditions as lists of parts: a type and fields.
  Arguments that are data, opened: a datum in memory is a tree.
  An argument that is a datum, opened: a tree whose texts and bytes are short.
-/
import Derived.Deep.LoopGhost
import Derived.Test.YtikmebkfdpbidaaGreatDoorRows
import Derived.Lib.LaidU8
import Derived.Test.YtikmebkfdpbidaaGreatDoorProg
import Derived.WalkKit
import Derived.WalkSpells
import Derived.WalkLawsBesides
import Derived.Handy
import Derived.BigCall
import Derived.Lib.Hide
import Derived.Outline
import Derived.OpenShut
import Derived.WideShapes
import Derived.ChangeArms
import Derived.ChangeSlices
import Derived.Lib.SmallJoins
import Derived.Test.YtikmebkfdpbidaaGreatDoorWl
import Derived.Test.YtikmebkfdpbidaaGreatDoorWg
import Derived.Test.YtikmebkfdpbidaaGreatDoorWk
import Derived.Test.YtikmebkfdpbidaaGreatDoorWe
namespace Go.Proofs.YtikmebkfdpbidaaGreatDoor
open Go.RowKit
set_option linter.unusedVariables false
set_option linter.unusedSimpArgs false

set_option maxHeartbeats 1000000 in
set_option maxRecDepth 1000000 in
theorem Rd.shape_out (k : Int) (hk : k < 1 ∨ k > 11) (N : Int) (s1 s2 : Bool) (v3 v4 v6 v7 v9 v10 : Value) (x : ByteArray) (w : World) :
    Calls Tryz.prog 75 #[.agg #[.int .i64 k, .int .i64 N, .bool s1, v3, v4, .bool s2, v6, v7, .string x, v9, v10]] w fun e w' => e = .returned (.bool false) ∧ Below w.heap.size w w' := by
  have HB : Hid (∀ o, Below w.heap.size w (w.alloc o)) := Lib.hid (fun o => (Below.refl _ _).alloc (Nat.le_refl _) _)
  rcases hk with hk | hk
  · go_enter Tryz.func75, Tryz.ntmps75
    go_wp2_with fail
    go_ret
    exact ⟨rfl, HB.out _⟩
  · have hk1 : ¬ k < 1 := by omega
    go_enter Tryz.func75, Tryz.ntmps75
    go_wp2_with fail
    go_ret
    exact ⟨rfl, HB.out _⟩
theorem Rd.shape_any (h : Tr.Hd) (n : Nat) (v3 v4 v6 v7 v9 : Value) (a10 : Option Addr) (c10 : Nat) (S : Nat → Prop) (w : World) (hI : Tr.Hd.In w S h v3 v4 v6 v7 v9) (hx : h.x.size ≤ 1048576) :
    Calls Tryz.prog 75 #[.agg (Tr.cells h v3 v4 v6 v7 v9 (.slice a10 n c10))] w fun e w' => e = .returned (.bool (h.shape n)) ∧ Below w.heap.size w w' := by
  obtain ⟨ok, i3, i4, i6, i7, i9, _, _, _, _, _⟩ := hI
  obtain ⟨a3, c3, rfl⟩ := i3.slice
  obtain ⟨a4, c4, rfl⟩ := i4.slice
  obtain ⟨a6, c6, rfl⟩ := i6.slice
  obtain ⟨a7, c7, rfl⟩ := i7.slice
  obtain ⟨a9, c9, rfl⟩ := i9.slice
  have ok1 : Rt.GOk h.t1 h.b1 := ⟨ok.w1, ok.w2, ok.l1, ok.l2⟩
  have ok2 : Rt.GOk h.t2 h.b2 := ⟨ok.w3, ok.w4, ok.l3, ok.l4⟩
  clear ok i9
  obtain ⟨k, N, s1, t1, b1, s2, t2, b2, x, raw⟩ := h
  unfold Tr.cells
  dsimp only at *
  by_cases hk : k < 1 ∨ k > 11
  · have hs : Tr.Hd.shape ⟨k, N, s1, t1, b1, s2, t2, b2, x, raw⟩ n = false := by
      have h1 : Tr.own k N n = false := by
        unfold Tr.own
        rw [if_neg (by omega), if_neg (by omega), if_neg (by omega), if_neg (by omega)]
        rcases hk with hk | hk
        · rw [decide_eq_false (show ¬ 1 ≤ k by omega)]; rfl
        · rw [decide_eq_false (show ¬ k ≤ 11 by omega)]; simp
      unfold Tr.Hd.shape
      dsimp only
      rw [h1]
      simp
    rw [hs]
    exact Rd.shape_out k hk N s1 s2 _ _ _ _ _ _ x w
  · rcases (show k = 1 ∨ k = 2 ∨ k = 3 ∨ k = 4 ∨ k = 5 ∨ k = 6 ∨ k = 7 ∨ k = 8 ∨ k = 9 ∨ k = 10 ∨ k = 11 by omega) with rfl | rfl | rfl | rfl | rfl | rfl | rfl | rfl | rfl | rfl | rfl
    · exact Rd.shape1 N s1 s2 t1 b1 t2 b2 x raw n a3 a4 a6 a7 a9 a10 c3 c4 c6 c7 c9 c10 w hx i3 i4 i6 i7 ok1 ok2
    · exact Rd.shape2 N s1 s2 t1 b1 t2 b2 x raw n a3 a4 a6 a7 a9 a10 c3 c4 c6 c7 c9 c10 w hx i3 i4 i6 i7 ok1 ok2
    · exact Rd.shape3 N s1 s2 t1 b1 t2 b2 x raw n a3 a4 a6 a7 a9 a10 c3 c4 c6 c7 c9 c10 w hx i3 i4 i6 i7 ok1 ok2
    · exact Rd.shape4 N s1 s2 t1 b1 t2 b2 x raw n a3 a4 a6 a7 a9 a10 c3 c4 c6 c7 c9 c10 w hx i3 i4 i6 i7 ok1 ok2
    · exact Rd.shape5 N s1 s2 t1 b1 t2 b2 x raw n a3 a4 a6 a7 a9 a10 c3 c4 c6 c7 c9 c10 w hx i3 i4 i6 i7 ok1 ok2
    · exact Rd.shape6 N s1 s2 t1 b1 t2 b2 x raw n a3 a4 a6 a7 a9 a10 c3 c4 c6 c7 c9 c10 w hx i3 i4 i6 i7 ok1 ok2
    · exact Rd.shape7 N s1 s2 t1 b1 t2 b2 x raw n a3 a4 a6 a7 a9 a10 c3 c4 c6 c7 c9 c10 w hx i3 i4 i6 i7 ok1 ok2
    · exact Rd.shape8 N s1 s2 t1 b1 t2 b2 x raw n a3 a4 a6 a7 a9 a10 c3 c4 c6 c7 c9 c10 w hx i3 i4 i6 i7 ok1 ok2
    · exact Rd.shape9 N s1 s2 t1 b1 t2 b2 x raw n a3 a4 a6 a7 a9 a10 c3 c4 c6 c7 c9 c10 w hx i3 i4 i6 i7 ok1 ok2
    · exact Rd.shape10 N s1 s2 t1 b1 t2 b2 x raw n a3 a4 a6 a7 a9 a10 c3 c4 c6 c7 c9 c10 w hx i3 i4 i6 i7 ok1 ok2
    · exact Rd.shape11 N s1 s2 t1 b1 t2 b2 x raw n a3 a4 a6 a7 a9 a10 c3 c4 c6 c7 c9 c10 w hx i3 i4 i6 i7 ok1 ok2
end Go.Proofs.YtikmebkfdpbidaaGreatDoor
namespace Go.Proofs.YtikmebkfdpbidaaGreatDoor
open Go.RowKit
set_option linter.unusedVariables false
set_option linter.unusedSimpArgs false

mutual
/-- How many nodes are left behind a datum; -1: it is none. -/
def Rd.cnt : Tr → Int → Int → Int
  | .mk h l, d, left => if d > 200 ∨ left ≤ 0 ∨ h.shape l.length = false then -1 else Rd.cntL (h.k == 8) d l 0 (left - 1)
def Rd.cntL (p : Bool) (d : Int) : List Tr → Nat → Int → Int
  | [], _, left => left
  | t :: ts, i, left => if left < 0 then left else Rd.cntL p d ts (i + 1) (Rd.cnt t (if p = true ∧ i = 1 then d else d + 1) left)
end
theorem Rd.cnt_bad {h : Tr.Hd} {l : List Tr} {d left : Int} (hb : d > 200 ∨ left ≤ 0 ∨ h.shape l.length = false) : Rd.cnt (.mk h l) d left = -1 := by rw [Rd.cnt, if_pos hb]
theorem Rd.cnt_good {h : Tr.Hd} {l : List Tr} {d left : Int} (hb : ¬ (d > 200 ∨ left ≤ 0 ∨ h.shape l.length = false)) : Rd.cnt (.mk h l) d left = Rd.cntL (h.k == 8) d l 0 (left - 1) := by rw [Rd.cnt, if_neg hb]
theorem Rd.cntL_nil {p : Bool} {d : Int} {i : Nat} {left : Int} : Rd.cntL p d [] i left = left := by rw [Rd.cntL]
theorem Rd.cntL_cons {p : Bool} {d : Int} {t : Tr} {ts : List Tr} {i : Nat} {left : Int} : Rd.cntL p d (t :: ts) i left = if left < 0 then left else Rd.cntL p d ts (i + 1) (Rd.cnt t (if p = true ∧ i = 1 then d else d + 1) left) := by rw [Rd.cntL]
theorem Rd.cntL_neg {p : Bool} {d : Int} {l : List Tr} {i : Nat} {left : Int} (h : left < 0) : Rd.cntL p d l i left = left := by
  cases l with
  | nil => exact Rd.cntL_nil
  | cons t ts => rw [Rd.cntL_cons, if_pos h]
mutual
theorem Rd.cnt_rng : ∀ (t : Tr) (d left : Int), left ≤ 20000 → -1 ≤ Rd.cnt t d left ∧ Rd.cnt t d left ≤ 20000
  | .mk h l, d, left, hl => by
    by_cases hb : d > 200 ∨ left ≤ 0 ∨ h.shape l.length = false
    · rw [Rd.cnt_bad hb]; omega
    · rw [Rd.cnt_good hb]
      exact Rd.cntL_rng (h.k == 8) d l 0 (left - 1) (by omega) (by omega)
theorem Rd.cntL_rng : ∀ (p : Bool) (d : Int) (l : List Tr) (i : Nat) (left : Int), -1 ≤ left → left ≤ 20000 → -1 ≤ Rd.cntL p d l i left ∧ Rd.cntL p d l i left ≤ 20000
  | p, d, [], i, left, h1, h2 => by rw [Rd.cntL_nil]; exact ⟨h1, h2⟩
  | p, d, t :: ts, i, left, h1, h2 => by
    rw [Rd.cntL_cons]
    split
    · exact ⟨h1, h2⟩
    · have h3 := Rd.cnt_rng t (if p = true ∧ i = 1 then d else d + 1) left h2
      exact Rd.cntL_rng p d ts (i + 1) _ h3.1 h3.2
end
def Rd.CountSays (t : Tr) : Prop := ∀ (S : Nat → Prop) (C : Array Value) (w : World) (d left : Int), Tr.In w S t (.agg C) → Tr.Tabs w → Tr.txt t → 0 ≤ d → d ≤ 1000 → -1 ≤ left → left ≤ 20000 →
  Calls Tryz.prog 42 #[.agg C, .int .i64 d, .int .i64 left] w fun e w' => e = .returned (.int .i64 (Rd.cnt t d left)) ∧ Below w.heap.size w w'
set_option maxHeartbeats 600000 in
set_option maxRecDepth 1000000 in
theorem Rd.count_step (t : Tr) (IH : ∀ u, Tr.size u < Tr.size t → Rd.CountSays u) : Rd.CountSays t := by
  intro S C w d left hI hT htx hd0 hd1 hl0 hl1
  obtain ⟨h, l⟩ := t
  rw [Tr.In_mk] at hI
  obtain ⟨v3, v4, v6, v7, v9, v10, e, hH, hL⟩ := hI
  cases e
  obtain ⟨p3, d3, rfl⟩ := hH.i3.slice
  obtain ⟨p4, d4, rfl⟩ := hH.i4.slice
  obtain ⟨p6, d6, rfl⟩ := hH.i6.slice
  obtain ⟨p7, d7, rfl⟩ := hH.i7.slice
  obtain ⟨p9, d9, rfl⟩ := hH.i9.slice
  obtain ⟨p10, d10, rfl, hcap10, hmax10⟩ := Tr.Sl.slice hL
  have hlen : l.length ≤ 9223372036854775807 := by
    rcases hmax10 with h0 | h0 <;> omega
  obtain ⟨W0, hW0⟩ : ∃ z, w.alloc (.cells #[.int .i64 h.k, .int .i64 h.n, .bool h.s1, .slice p3 h.t1.length d3, .slice p4 h.b1.length d4, .bool h.s2, .slice p6 h.t2.length d6, .slice p7 h.b2.length d7, .string h.x, .slice p9 h.raw.size d9, .slice p10 l.length d10] 30) = z := ⟨_, rfl⟩
  have hb0 : Below w.heap.size w W0 := by rw [← hW0]; exact (Below.refl _ _).alloc (Nat.le_refl _) _
  have hq0 : W0.heap[w.heap.size]? = some (.cells #[.int .i64 h.k, .int .i64 h.n, .bool h.s1, .slice p3 h.t1.length d3, .slice p4 h.b1.length d4, .bool h.s2, .slice p6 h.t2.length d6, .slice p7 h.b2.length d7, .string h.x, .slice p9 h.raw.size d9, .slice p10 l.length d10] 30 (0, 0)) := by rw [← hW0]; exact heap_alloc_new w _
  have hz0 : W0.heap.size = w.heap.size + 1 := by rw [← hW0]; simp
  have HF : Hid (∀ w', Below (w.heap.size + 1) W0 w' → (∀ j, w'.cell? ⟨w.heap.size, j, none⟩ = (#[.int .i64 h.k, .int .i64 h.n, .bool h.s1, .slice p3 h.t1.length d3, .slice p4 h.b1.length d4, .bool h.s2, .slice p6 h.t2.length d6, .slice p7 h.b2.length d7, .string h.x, .slice p9 h.raw.size d9, .slice p10 l.length d10] : Array Value)[j]?) ∧ Below w.heap.size w w') := Lib.hid (fun w' hb => by
    have a0 := (hb.block w.heap.size (Nat.lt_succ_self _)).trans hq0
    exact ⟨fun j => by simp [World.cell?, a0], hb0.trans (hb.mono (Nat.le_succ _))⟩)
  have KS := Rd.shape_any h l.length _ _ _ _ _ p10 d10 S W0 (hH.kept (Tr.Kept.all hb0 (Nat.le_refl _))) (Tr.txt_mk.1 htx).1
  unfold Tr.cells at KS
  rw [hz0] at KS
  obtain ⟨R, hR⟩ : ∃ z, z = Rd.cnt (.mk h l) d left := ⟨_, rfl⟩
  rw [← hR]
  have HR := Lib.hid hR
  have HLL := Lib.hid hL
  have HIH := Lib.hid IH
  have HTX := Lib.hid (Tr.txt_mk.1 htx).2
  have HB0 := Lib.hid (Below.refl (w.heap.size + 1) W0)
  have HTA := Lib.hid hT
  obtain ⟨dd, hdd⟩ := (HF.out W0 HB0.out)
  have q0 := dd 0
  have q1 := dd 1
  have q2 := dd 2
  have q3 := dd 3
  have q4 := dd 4
  have q5 := dd 5
  have q6 := dd 6
  have q7 := dd 7
  have q8 := dd 8
  have q9 := dd 9
  have q10 := dd 10
  have HDD := Lib.hid hdd
  clear hb0 hq0 hR hH hL IH htx hcap10 hmax10 hT dd hdd
  unfold Tr.cells
  by_cases h1 : d > 200
  · have hans : R = -1 := by rw [HR.out]; exact Rd.cnt_bad (.inl h1)
    subst hans
    go_enter Tryz.func42, Tryz.ntmps42
    go_wp2_with fail
    go_ret
    exact ⟨rfl, HDD.out⟩
  by_cases h2 : left ≤ 0
  · have hans : R = -1 := by rw [HR.out]; exact Rd.cnt_bad (.inr (.inl h2))
    subst hans
    go_enter Tryz.func42, Tryz.ntmps42
    go_wp2_with fail
    go_ret
    exact ⟨rfl, HDD.out⟩
  go_enter Tryz.func42, Tryz.ntmps42
  go_wp2_with fail
  refine KS.mono ?_
  rintro z w1 ⟨rfl, hb1⟩
  clear q0 q1 q2 q3 q4 q5 q6 q7 q8 q9 q10 KS
  have HB1 := Lib.hid hb1
  obtain ⟨dd, hbw1⟩ := HF.out w1 hb1
  have HBW1 := Lib.hid hbw1
  have q0 := dd 0
  have q10 := dd 10
  clear hb1 dd hbw1
  cases hsh : h.shape l.length
  · have hans : R = -1 := by rw [HR.out]; exact Rd.cnt_bad (.inr (.inr hsh))
    subst hans
    go_wp2_with fail
    go_ret
    exact ⟨rfl, HBW1.out⟩
  have HR2 : Hid (R = Rd.cntL (h.k == 8) d l 0 (left - 1)) := Lib.hid (by
    rw [HR.out]
    refine Rd.cnt_good ?_
    rintro (h3 | h3 | h3)
    · omega
    · omega
    · rw [hsh] at h3; cases h3)
  clear hsh
  go_wp2_with fail
  go_loopg [2, 7] l.length (fun g lv i wr => ∃ (k : Nat) (lf : Int), k + g = l.length ∧ i = .int .i64 k ∧ lv = .int .i64 lf ∧ -1 ≤ lf ∧ lf ≤ 20000 ∧ R = Rd.cntL (h.k == 8) d (l.drop k) k lf ∧ Below (w.heap.size + 1) W0 wr)
  case atStart => exact ⟨0, left - 1, by omega, rfl, rfl, by omega, by omega, HR2.out, HB1.out⟩
  case round =>
    obtain ⟨k, lf, hkg, rfl, rfl, hf0, hf1, hans, hb⟩ := hrel
    obtain ⟨wo, hwo⟩ : ∃ z, z = wr := ⟨_, rfl⟩
    subst hwo
    have HB := Lib.hid hb
    have HANS := Lib.hid hans
    clear q0 q10
    obtain ⟨dd, hbw⟩ := HF.out wo hb
    have HBW := Lib.hid hbw
    have q0 := dd 0
    have q10 := dd 10
    clear hb hans dd
    by_cases hlt : k < l.length
    · by_cases hlf : lf ≥ 0
      · obtain ⟨tk, htk⟩ : ∃ t, l[k]? = some t := ⟨_, List.getElem?_eq_getElem hlt⟩
        obtain ⟨b, off, rfl, _, _, _, hblt, hSb, hall⟩ := Tr.Sl.at HLL.out (by omega)
        obtain ⟨Ck, hIk, hMk⟩ := Tr.All.at _ _ _ hall k tk htk
        rw [Nat.mul_comm 11 k] at hMk
        have hM4 := hMk.kept (Tr.Kept.all hbw (Nat.le_refl _)) hSb hblt
        have KT := fun d' h3 h4 => HIH.out tk (Tr.size_lt (t := .mk h l) (k := k) htk) S Ck wo d' lf (Tr.In.below hIk hbw (Nat.le_refl _)) (HTA.out.below hbw) (Tr.txtL_at HTX.out htk) h3 h4 hf0 hf1
        have HDR : Hid (l.drop k = tk :: l.drop (k + 1)) := Lib.hid (by
          obtain ⟨h1, h2⟩ := List.getElem?_eq_some_iff.1 htk
          rw [List.drop_eq_getElem_cons h1, h2])
        obtain ⟨he, le, ab3, ab4, ab6, ab7, ab9, ab10, nb3, nb4, nb6, nb7, nb9, nb10, cb3, cb4, cb6, cb7, cb9, cb10, eCb, ebt, hbH, hbL⟩ := Tr.In.form2 hIk
        subst eCb
        clear ebt hbH hbL
        unfold Tr.cells at KT hM4
        obtain ⟨e0, e1, e2, e3, e4, e5, e6, e7, e8, e9, e10⟩ := Tr.Mem.cells hM4
        have HRG := Lib.hid (fun d' => Rd.cnt_rng tk d' lf hf1)
        have HKT := Lib.hid KT
        clear hIk hMk hall htk hblt hSb hM4 KT hbw
        cases hB : (h.k == 8)
        · have HPN : Hid (¬ ((h.k == 8) = true ∧ k = 1)) := Lib.hid (fun e => by rw [hB] at e; cases e.1)
          go_wp2_with fail
          refine (HKT.out (d + 1) (by omega) (by omega)).mono ?_
          rintro z w5 ⟨rfl, hb5⟩
          have HB5 := Lib.hid (HB.out.trans (hb5.mono (by have := HB.out.size; omega)))
          clear hb5
          go_wp2_with fail
          go_roundg (gk - 1)
          case measure => omega
          case rel =>
            refine ⟨k + 1, _, by omega, by first | rfl | go_num | (simp; try omega), rfl, (HRG.out (d + 1)).1, (HRG.out (d + 1)).2, ?_, HB5.out⟩
            rw [HANS.out, HDR.out, Rd.cntL_cons, if_neg (by omega), if_neg HPN.out]
        · have HPB : Hid ((h.k == 8) = true) := Lib.hid hB
          by_cases hk1 : k = 1
          · subst hk1
            go_wp2_with fail
            refine (HKT.out d (by omega) (by omega)).mono ?_
            rintro z w5 ⟨rfl, hb5⟩
            have HB5 := Lib.hid (HB.out.trans (hb5.mono (by have := HB.out.size; omega)))
            clear hb5
            go_wp2_with fail
            go_roundg (gk - 1)
            case measure => omega
            case rel =>
              refine ⟨2, _, by omega, by first | rfl | go_num | (simp; try omega), rfl, (HRG.out d).1, (HRG.out d).2, ?_, HB5.out⟩
              rw [HANS.out, HDR.out, Rd.cntL_cons, if_neg (by omega), if_pos ⟨HPB.out, rfl⟩]
          · have hk1I : ((k : Int) == 1) = false := beq_eq_false_iff_ne.2 (by omega)
            have HPN : Hid (¬ ((h.k == 8) = true ∧ k = 1)) := Lib.hid (fun e => hk1 e.2)
            clear hk1
            go_wp2_with fail
            refine (HKT.out (d + 1) (by omega) (by omega)).mono ?_
            rintro z w5 ⟨rfl, hb5⟩
            have HB5 := Lib.hid (HB.out.trans (hb5.mono (by have := HB.out.size; omega)))
            clear hb5
            go_wp2_with fail
            go_roundg (gk - 1)
            case measure => omega
            case rel =>
              refine ⟨k + 1, _, by omega, by first | rfl | go_num | (simp; try omega), rfl, (HRG.out (d + 1)).1, (HRG.out (d + 1)).2, ?_, HB5.out⟩
              rw [HANS.out, HDR.out, Rd.cntL_cons, if_neg (by omega), if_neg HPN.out]
      · have hans : R = lf := by rw [HANS.out]; exact Rd.cntL_neg (by omega)
        subst hans
        go_wp2_with fail
        go_ret
        exact ⟨rfl, HBW.out⟩
    · have hans : R = lf := by rw [HANS.out, show k = l.length by omega, List.drop_length]; exact Rd.cntL_nil
      subst hans
      go_wp2_with fail
      go_ret
      exact ⟨rfl, HBW.out⟩
end Go.Proofs.YtikmebkfdpbidaaGreatDoor
namespace Go.Proofs.YtikmebkfdpbidaaGreatDoor
open Go.RowKit
set_option linter.unusedVariables false
set_option linter.unusedSimpArgs false

theorem Rd.count_says (t : Tr) : Rd.CountSays t := Rd.count_step t (fun u _ => Rd.count_says u)
termination_by Tr.size t
decreasing_by assumption
mutual
theorem Rd.cnt_snd : ∀ (t : Tr) (d : Nat) (left : Int), -1 ≤ left → Rd.cnt t d left = if (Tr.snd t d left).1 = true then (Tr.snd t d left).2 else -1
  | .mk h l, d, left, h0 => by
    by_cases hb : left - 1 < 0 ∨ 200 < d ∨ h.shape l.length = false
    · rw [Tr.snd_bad hb, Rd.cnt_bad (by rcases hb with h1 | h1 | h1; exact .inr (.inl (by omega)); exact .inl (by omega); exact .inr (.inr h1))]
      rfl
    · have hb2 : ¬ ((d : Int) > 200 ∨ left ≤ 0 ∨ h.shape l.length = false) := fun e => hb (by rcases e with h1 | h1 | h1; exact .inr (.inl (by omega)); exact .inl (by omega); exact .inr (.inr h1))
      have hl1 : 0 ≤ left - 1 := by
        rcases Int.lt_or_le (left - 1) 0 with h | h
        · exact absurd (Or.inl h) hb
        · exact h
      rw [Rd.cnt_good hb2]
      by_cases hk : h.k = 8
      · have hs : h.shape l.length = true := by
          cases e : h.shape l.length with
          | true => rfl
          | false => exact absurd (Or.inr (Or.inr e)) hb
        have hl := Tr.Hd.shape_pair hs hk
        have hk2 : (h.k == 8) = true := by rw [hk]; rfl
        match l, hl with
        | [a, b], _ =>
          have ha := Rd.cnt_snd a (d + 1) (left - 1) (by omega)
          have hle := Tr.snd_le a (d + 1) (left - 1) (by omega)
          rw [Tr.snd_pair hb hk, hk2, Rd.cntL_cons, if_neg (by omega), if_neg (by rintro ⟨_, e⟩; omega)]
          rw [show (d : Int) + 1 = ((d + 1 : Nat) : Int) by omega, ha]
          by_cases h1 : (Tr.snd a (d + 1) (left - 1)).1 = true
          · have h2 := hle.2 h1
            have hb' := Rd.cnt_snd b d (Tr.snd a (d + 1) (left - 1)).2 (by omega)
            rw [if_pos h1, if_pos h1, Rd.cntL_cons, if_neg (by omega), if_pos ⟨rfl, rfl⟩, Rd.cntL_nil, hb']
          · rw [if_neg h1, if_neg h1, Rd.cntL_neg (by omega)]
            rfl
      · have hk2 : (h.k == 8) = false := beq_eq_false_iff_ne.2 hk
        rw [Tr.snd_list hb hk, hk2]
        exact Rd.cntL_snd l d 0 (left - 1) hl1
theorem Rd.cntL_snd : ∀ (l : List Tr) (d i : Nat) (left : Int), 0 ≤ left → Rd.cntL false d l i left = if (Tr.sndL l (d + 1) left).1 = true then (Tr.sndL l (d + 1) left).2 else -1
  | [], d, i, left, h0 => by rw [Rd.cntL_nil, Tr.sndL_nil]; rfl
  | t :: ts, d, i, left, h0 => by
    have ht := Rd.cnt_snd t (d + 1) left (by omega)
    have hle := Tr.snd_le t (d + 1) left (by omega)
    rw [Rd.cntL_cons, if_neg (by omega), if_neg (by rintro ⟨e, _⟩; cases e), Tr.sndL_cons]
    rw [show (d : Int) + 1 = ((d + 1 : Nat) : Int) by omega, ht]
    by_cases h1 : (Tr.snd t (d + 1) left).1 = true
    · rw [if_pos h1, if_pos h1]
      exact Rd.cntL_snd ts d (i + 1) _ (hle.2 h1)
    · rw [if_neg h1, if_neg h1, Rd.cntL_neg (by omega)]
      rfl
end
theorem Rd.sound_eq (t : Tr) : decide (0 ≤ Rd.cnt t 1 20000) = Tr.sound t := by
  have h := Rd.cnt_snd t 1 20000 (by decide)
  have hle := Tr.snd_le t 1 20000 (by decide)
  rw [show ((1 : Nat) : Int) = 1 from rfl] at h
  unfold Tr.sound
  rw [h]
  cases h1 : (Tr.snd t 1 20000).1
  · rfl
  · have := hle.2 h1
    rw [if_pos rfl]
    exact decide_eq_true this
set_option maxHeartbeats 1000000 in
set_option maxRecDepth 1000000 in
theorem Rd.Sound_any (t : Tr) (S : Nat → Prop) (v : Value) (w : World) (hI : Tr.In w S t v) (hT : Tr.Tabs w) (htx : Tr.txt t) :
    Calls Tryz.prog 15 #[v] w fun e w' => e = .returned (.bool (Tr.sound t)) ∧ Below w.heap.size w w' := by
  obtain ⟨C, rfl⟩ := hI.agg
  have KC := fun w' (hb : Below w.heap.size w w') => Rd.count_says t S C w' 1 20000 (hI.below hb (Nat.le_refl _)) (hT.below hb) htx (by decide) (by decide) (by decide) (by decide)
  have HB0 : Hid (∀ o, Below w.heap.size w (w.alloc o)) := Lib.hid (fun o => (Below.refl _ _).alloc (Nat.le_refl _) _)
  have HS := Lib.hid (Rd.sound_eq t)
  obtain ⟨hb, lb, a3, a4, a6, a7, a9, a10, n3, n4, n6, n7, n9, n10, c3, c4, c6, c7, c9, c10, eC, ebt, hbH, hbL⟩ := Tr.In.form2 hI
  subst eC
  unfold Tr.cells at KC ⊢
  have HKC := Lib.hid KC
  clear KC hI hT htx ebt hbH hbL
  obtain ⟨N, hN⟩ : ∃ z, z = Rd.cnt t 1 20000 := ⟨_, rfl⟩
  rw [← hN] at HS HKC
  clear hN
  go_enter Tryz.func15, Tryz.ntmps15
  go_wp2_with fail
  refine (HKC.out _ (HB0.out _)).mono ?_
  rintro z w1 ⟨rfl, hb1⟩
  have HB1 := Lib.hid ((HB0.out _).trans (hb1.mono (HB0.out _).size))
  clear hb1
  go_wp2_with fail
  go_ret
  exact ⟨by rw [← HS.out]; rfl, HB1.out⟩
end Go.Proofs.YtikmebkfdpbidaaGreatDoor
namespace Go.Proofs.YtikmebkfdpbidaaGreatDoor
open Go.RowKit
set_option linter.unusedVariables false
set_option linter.unusedSimpArgs false

theorem Wt.tsays_step (m : Bool) (t : Tr) (IH : ∀ u, Tr.size u < Tr.size t → Wt.TSays m u) : Wt.TSays m t := by
  obtain ⟨h, l⟩ := t
  by_cases h7 : h.k = 7
  · exact Wt.tell_bytes m h l h7
  by_cases h8 : h.k = 8
  · exact Wt.tell_list m h l h8 IH
  by_cases h9 : h.k = 9
  · exact Wt.tell_vec m h l h9 IH
  exact Wt.tell_leaf m h l h7 h8 h9
/-- THE DOCUMENT'S TELL, OF ANY. -/
theorem Wt.tsays (m : Bool) (t : Tr) : Wt.TSays m t := Wt.tsays_step m t (fun u _ => Wt.tsays m u)
termination_by Tr.size t
decreasing_by assumption
set_option maxHeartbeats 1000000 in
theorem Wt.Tell_any (m : Bool) (t : Tr) (S : Nat → Prop) (v : Value) (w : World) (hI : Tr.In w S t v) (hT : Tr.Tabs w) (hf : Wt.fit t) :
    Calls Tryz.prog 10 #[v, .bool m] w fun e w' => e = .returned (Wt.answer m t) ∧ Below w.heap.size w w' := by
  obtain ⟨C, rfl⟩ := hI.agg
  obtain ⟨h, l⟩ := t
  have hI2 := hI
  rw [Tr.In_mk] at hI2
  obtain ⟨v3, v4, v6, v7, v9, v10, e, hH, hL⟩ := hI2
  cases e
  obtain ⟨W0, hW0⟩ : ∃ z, w.alloc (.cells (Tr.cells h v3 v4 v6 v7 v9 v10) 30) = z := ⟨_, rfl⟩
  have hb0 : Below w.heap.size w W0 := by rw [← hW0]; exact (Below.refl _ _).alloc (Nat.le_refl _) _
  have hq0 : W0.heap[w.heap.size]? = some (.cells (Tr.cells h v3 v4 v6 v7 v9 v10) 30 (0, 0)) := by rw [← hW0]; exact heap_alloc_new w _
  have hz0 : W0.heap.size = w.heap.size + 1 := by rw [← hW0]; simp
  have KS := Lib.hid (Rd.Sound_any (.mk h l) S _ W0 (hI.below hb0 (Nat.le_refl _)) (hT.below hb0) (Wt.fit_txt _ hf))
  obtain ⟨sd, hsd⟩ : ∃ z, Tr.sound (.mk h l) = z := ⟨_, rfl⟩
  have HANS : Hid (Wt.answer m (.mk h l) = if sd = true then .tuple #[.string (Tx.str (Wt.tell m (.mk h l))), .int .i64 0] else .tuple #[.string ⟨#[]⟩, .int .i64 2]) := Lib.hid (by unfold Wt.answer; rw [hsd])
  rw [hsd] at KS
  have HIN := Lib.hid hI
  have HSD := Lib.hid hsd
  have HF := Lib.hid hf
  have HQ := Lib.hid (fun w1 (hb1 : Below W0.heap.size W0 w1) => (hb1.block _ (by omega)).trans hq0)
  have HB := Lib.hid hb0
  have KT := Lib.hid (fun (hs : sd = true) w1 (hb1 : Below W0.heap.size W0 w1) => Wt.tsays m (.mk h l) S _ w1 ((hI.below hb0 (Nat.le_refl _)).below hb1 (by omega)) (Tr.sound_good (by rw [hsd, hs])) hf (by have := Tr.sound_size (t := .mk h l) (by rw [hsd, hs]); omega))
  have hdd := Lib.cell_of_heap hq0
  unfold Tr.cells at hdd hW0 KS KT HQ ⊢
  have q0 := hdd 0
  have q1 := hdd 1
  have q2 := hdd 2
  have q3 := hdd 3
  have q4 := hdd 4
  have q5 := hdd 5
  have q6 := hdd 6
  have q7 := hdd 7
  have q8 := hdd 8
  have q9 := hdd 9
  have q10 := hdd 10
  clear hdd hI hT hf hH hL hsd hb0 hq0 hz0
  go_enter Tryz.func10, Tryz.ntmps10
  go_wp2_with fail
  refine KS.out.mono ?_
  rintro e w1 ⟨rfl, hb1⟩
  clear q0 q1 q2 q3 q4 q5 q6 q7 q8 q9 q10
  obtain ⟨q0, q1, q2, q3, q4, q5, q6, q7, q8, q9, q10⟩ := Dt.cells11 (HQ.out w1 hb1)
  have HB1 := Lib.hid hb1
  clear hb1
  cases sd
  · go_wp2_with fail
    go_ret2
    exact ⟨by rw [HANS.out]; rfl, HB.out.trans (HB1.out.mono HB.out.size)⟩
  · have KT2 := Lib.hid (KT.out rfl w1 HB1.out)
    go_wp2_with fail
    refine KT2.out.mono ?_
    rintro e w2 ⟨rfl, hb2⟩
    go_wp2_with fail
    go_ret2
    exact ⟨by rw [HANS.out]; rfl, (HB.out.trans (HB1.out.mono HB.out.size)).trans (hb2.mono (HB.out.trans (HB1.out.mono HB.out.size)).size)⟩
end Go.Proofs.YtikmebkfdpbidaaGreatDoor
namespace Go.Proofs.YtikmebkfdpbidaaGreatDoor
open Go.RowKit
set_option linter.unusedVariables false
set_option linter.unusedSimpArgs false

theorem Wt.tab_of {W : World} {name : String} {k : IntKind} {zs : List Int} {g : Nat} {t e : TypeId} {n : Nat} {d : DataW Unit}
    (hg : Tryz.prog.globalNamed name = some g) (hty : (Tryz.prog.globals[g]?).map (·.type) = some t) (ht : Tryz.prog.underlying t = some (.array n e)) (he : Tryz.prog.underlying e = some (.int k)) (hce : Tryz.prog.cellsOf e = 1) (hct : Tryz.prog.cellsOf t = n)
    (hd : d = Lib.tabData k zs) (h : Lib.VarReads Tryz.prog W name d) : Lib.TabIs Tryz.prog W name k zs := by
  obtain ⟨g', t', cs, fuel, p, hg', ht', hvar, hr⟩ := h
  obtain rfl := Option.some.inj (hg.symm.trans hg')
  obtain rfl := Option.some.inj (hty.symm.trans ht')
  subst hd
  unfold Lib.TabIs
  rw [hvar, ← Lib.cells_of_tab ht he hce hct hr]
def Wt.dB64 : List Int := [0, 1, 56, 2, 57, 49, 28, 3, 61, 58, 42, 50, 38, 29, 17, 4, 62, 47, 59, 36, 45, 43, 51, 22, 53, 39, 33, 30, 24, 18, 12, 5, 63, 55, 48, 27, 60, 41, 37, 16, 46, 35, 44, 21, 52, 32, 23, 11, 54, 26, 40, 15, 34, 20, 31, 10, 25, 14, 19, 9, 13, 8, 7, 6]
theorem Wt.bits_of {W : World} (h : Lib.VarReads Tryz.prog W "math/bits.deBruijn64tab" Rows.laid_math_bits_deBruijn64tab) : Wt.Bits W :=
  (Wt.tab_of (zs := Wt.dB64) (k := .u8) (g := 5) (t := 249) (e := 5) (n := 64) (by kernel_rfl) (by kernel_rfl) (by kernel_rfl) Tryz.underlying5 (by kernel_rfl) (by kernel_rfl) (by kernel_rfl) h).cell (by kernel_rfl) 15 (by decide)
theorem Wt.pow_of {W : World} (h : Lib.VarReads Tryz.prog W "internal/strconv.uint64pow10" Rows.laid_internal_strconv_uint64pow10) : Lib.TabIs Tryz.prog W "internal/strconv.uint64pow10" .u64 Lib.pow10Tab :=
  Wt.tab_of (g := 2) (t := 246) (e := 102) (n := 20) (by kernel_rfl) (by kernel_rfl) (by kernel_rfl) (by kernel_rfl) (by kernel_rfl) (by kernel_rfl) (by kernel_rfl) h
/-- A datum without lists and numbers. -/
def Wt.lf (k n : Int) (s : ByteArray) : Tr := .mk ⟨k, n, false, [], [], false, [], [], s, ⟨#[]⟩⟩ []
def Wt.lfV (k n : Int) (s : ByteArray) : Value := .agg #[.int .i64 k, .int .i64 n, .bool false, .slice none 0 0, .slice none 0 0, .bool false, .slice none 0 0, .slice none 0 0, .string s, .slice none 0 0, .slice none 0 0]
theorem Wt.lf_in (k n : Int) (s : ByteArray) (w : World) (hk : -9223372036854775808 ≤ k ∧ k ≤ 9223372036854775807) (hn : -9223372036854775808 ≤ n ∧ n ≤ 9223372036854775807) (hs : s.size ≤ maxLen) : Tr.In w (fun _ => True) (Wt.lf k n s) (Wt.lfV k n s) := by
  unfold Wt.lf
  rw [Tr.In_mk]
  exact ⟨.slice none 0 0, .slice none 0 0, .slice none 0 0, .slice none 0 0, .slice none 0 0, .slice none 0 0, rfl, ⟨⟨hk.1, hk.2, hn.1, hn.2, fun x h => by simp at h, fun x h => by simp at h, fun x h => by simp at h, fun x h => by simp at h, Nat.zero_le _, Nat.zero_le _, Nat.zero_le _, Nat.zero_le _, hs, Nat.zero_le _⟩, .inl ⟨rfl, rfl⟩, .inl ⟨rfl, rfl⟩, .inl ⟨rfl, rfl⟩, .inl ⟨rfl, rfl⟩, .inl ⟨rfl, rfl⟩, fun h => absurd h (Nat.lt_irrefl 0), fun h => absurd h (Nat.lt_irrefl 0), fun h => absurd h (Nat.lt_irrefl 0), fun h => absurd h (Nat.lt_irrefl 0), fun h => absurd h (Nat.lt_irrefl 0)⟩, .inl ⟨rfl, rfl⟩⟩
/-- The symbol 'a b'. -/
theorem Wt.sym_ab : Wt.sym [97, 32, 98] = [97, 92, 120, 50, 48, 59, 98] := by
  have h1 : Wt.hex 32 = [50, 48] := by
    rw [Wt.hex_big (by decide), Wt.hex_small (by decide)]
    rfl
  have e1 : Wt.symU true 97 = [97] := by decide +kernel
  have e3 : Wt.symU false 98 = [98] := by decide +kernel
  have e2 : Wt.symU false 32 = Wt.esc 32 := by
    unfold Wt.symU
    rw [if_neg (by decide +kernel)]
  have e4 : Wt.esc 32 = [92, 120, 50, 48, 59] := by
    unfold Wt.esc
    rw [show (32 : Int).toNat = 32 from rfl, h1]
    rfl
  have hr : Ru.runes [97, 32, 98] = [97, 32, 98] := by
    rw [Wt.runes_asc 97 _ (by decide), Wt.runes_asc 32 _ (by decide), Wt.runes_asc 98 _ (by decide), Ru.runes_nil]
    rfl
  unfold Wt.sym
  rw [if_neg (by decide), if_neg (by decide)]
  show Wt.syms true (Ru.runes [97, 32, 98]) = _
  rw [hr]
  simp only [Wt.syms, e1, e2, e3, e4]
  rfl
theorem Wt.ab_sound : Tr.sound (Wt.lf 6 0 ⟨#[97, 32, 98]⟩) = true := by
  unfold Tr.sound Wt.lf
  have hsh : Tr.Hd.shape ⟨6, 0, false, [], [], false, [], [], ⟨#[97, 32, 98]⟩, ⟨#[]⟩⟩ 0 = true := by decide +kernel
  rw [Tr.snd_list (by rw [List.length_nil, hsh]; decide) (by decide), Tr.sndL_nil]
theorem Wt.ab_answer : Wt.answer true (Wt.lf 6 0 ⟨#[97, 32, 98]⟩) = .tuple #[.string ⟨#[97, 92, 120, 50, 48, 59, 98]⟩, .int .i64 0] := by
  unfold Wt.answer
  rw [if_pos Wt.ab_sound]
  have h : Wt.tell true (Wt.lf 6 0 ⟨#[97, 32, 98]⟩) = [97, 92, 120, 50, 48, 59, 98] := by
    unfold Wt.lf
    rw [Wt.tell_atom (by decide)]
    show Wt.sym [97, 32, 98] = _
    exact Wt.sym_ab
  rw [h]
  rfl
set_option maxHeartbeats 1000000 in
set_option maxRecDepth 1000000 in
theorem Wt.awake (w : World) (hT : Wt.Tabs w) : Calls Tryz.prog 12 #[] w fun e w' => e = .returned (.bool true) ∧ Below w.heap.size w w' := by
  have KW := Lib.hid (Wt.Write_any (Wt.lf 6 0 ⟨#[97, 32, 98]⟩) (fun _ => True) (Wt.lfV 6 0 ⟨#[97, 32, 98]⟩) w (Wt.lf_in 6 0 ⟨#[97, 32, 98]⟩ w (by decide) (by decide) (by decide)) hT (Wt.fit_mk.2 ⟨⟨by decide, by decide⟩, Wt.fitL_nil⟩))
  rw [Wt.ab_answer] at KW
  unfold Wt.lfV at KW
  clear hT
  go_enter Tryz.func12, Tryz.ntmps12
  go_wp2_with fail
  refine KW.out.mono ?_
  rintro e w1 ⟨rfl, hb1⟩
  go_wp2_with fail
  go_ret
  exact ⟨rfl, hb1⟩
set_option maxHeartbeats 2000000 in
set_option maxRecDepth 1000000 in
theorem writeTells.walk0 (v : Value) (t : Tr) (w : World) (hI : Tr.In w (fun _ => True) t v) (hf : Wt.fit t) (hT : Wt.Tabs w) :
    Calls Tryz.prog 3 #[v] w fun e w' => e = .returned (.bool true) ∧ Below w.heap.size w w' := by
  obtain ⟨C, rfl⟩ := hI.agg
  obtain ⟨h, l⟩ := t
  have hI2 := hI
  rw [Tr.In_mk] at hI2
  obtain ⟨v3, v4, v6, v7, v9, v10, e, hH, hL⟩ := hI2
  cases e
  obtain ⟨W0, hW0⟩ : ∃ z, w.alloc (.cells (Tr.cells h v3 v4 v6 v7 v9 v10) 30) = z := ⟨_, rfl⟩
  have hb0 : Below w.heap.size w W0 := by rw [← hW0]; exact (Below.refl _ _).alloc (Nat.le_refl _) _
  have hq0 : W0.heap[w.heap.size]? = some (.cells (Tr.cells h v3 v4 v6 v7 v9 v10) 30 (0, 0)) := by rw [← hW0]; exact heap_alloc_new w _
  have hz0 : W0.heap.size = w.heap.size + 1 := by rw [← hW0]; simp
  obtain ⟨xt, et, hat⟩ := Wt.answer_form true (.mk h l)
  obtain ⟨xf, ef, haf⟩ := Wt.answer_form false (.mk h l)
  have HIN : Hid (∀ w1, Below W0.heap.size W0 w1 → Below w.heap.size w w1 ∧ w1.heap[w.heap.size]? = some (.cells (Tr.cells h v3 v4 v6 v7 v9 v10) 30 (0, 0)) ∧ Tr.In w1 (fun _ => True) (.mk h l) (.agg (Tr.cells h v3 v4 v6 v7 v9 v10)) ∧ Wt.Tabs w1) := Lib.hid (fun w1 hb => by
    have hb' : Below w.heap.size w w1 := hb0.trans (hb.mono hb0.size)
    exact ⟨hb', (hb.block _ (by omega)).trans hq0, hI.below hb' (Nat.le_refl _), hT.below hb'⟩)
  have KW := Lib.hid (fun w1 hb => Wt.Write_any (.mk h l) _ _ w1 (HIN.out w1 hb).2.2.1 (HIN.out w1 hb).2.2.2 hf)
  have KD := Lib.hid (fun w1 hb => Wt.Display_any (.mk h l) _ _ w1 (HIN.out w1 hb).2.2.1 (HIN.out w1 hb).2.2.2 hf)
  have KT := Lib.hid (fun w1 hb => Wt.Tell_any true (.mk h l) _ _ w1 (HIN.out w1 hb).2.2.1 (HIN.out w1 hb).2.2.2.utf hf)
  have KF := Lib.hid (fun w1 hb => Wt.Tell_any false (.mk h l) _ _ w1 (HIN.out w1 hb).2.2.1 (HIN.out w1 hb).2.2.2.utf hf)
  have KA := Lib.hid (fun w1 hb => Wt.awake w1 (HIN.out w1 hb).2.2.2)
  rw [hat] at KW KT
  rw [haf] at KD KF
  have hdd := Lib.cell_of_heap hq0
  unfold Tr.cells at hdd hW0 HIN KW KD KT KF ⊢
  obtain ⟨q0, q1, q2, q3, q4, q5, q6, q7, q8, q9, q10⟩ := Dt.cells11 (HIN.out W0 (Below.refl _ _)).2.1
  clear hdd hI hT hf hH hL hb0 hq0 hz0 hat haf
  go_enter Tryz.func3, Tryz.ntmps3
  go_wp2_with fail
  refine (KW.out W0 (Below.refl _ _)).mono ?_
  rintro e w1 ⟨rfl, hb1⟩
  have HB1 := Lib.hid hb1
  clear q0 q1 q2 q3 q4 q5 q6 q7 q8 q9 q10 hb1
  obtain ⟨q0, q1, q2, q3, q4, q5, q6, q7, q8, q9, q10⟩ := Dt.cells11 (HIN.out w1 HB1.out).2.1
  go_wp2_with fail
  refine (KT.out w1 HB1.out).mono ?_
  rintro e w2 ⟨rfl, hb2⟩
  have HB2 := Lib.hid (HB1.out.trans (hb2.mono HB1.out.size))
  clear q0 q1 q2 q3 q4 q5 q6 q7 q8 q9 q10 hb2
  obtain ⟨q0, q1, q2, q3, q4, q5, q6, q7, q8, q9, q10⟩ := Dt.cells11 (HIN.out w2 HB2.out).2.1
  go_wp2_with fail
  refine (KD.out w2 HB2.out).mono ?_
  rintro e w3 ⟨rfl, hb3⟩
  have HB3 := Lib.hid (HB2.out.trans (hb3.mono HB2.out.size))
  clear q0 q1 q2 q3 q4 q5 q6 q7 q8 q9 q10 hb3
  obtain ⟨q0, q1, q2, q3, q4, q5, q6, q7, q8, q9, q10⟩ := Dt.cells11 (HIN.out w3 HB3.out).2.1
  go_wp2_with fail
  refine (KF.out w3 HB3.out).mono ?_
  rintro e w4 ⟨rfl, hb4⟩
  have HB4 := Lib.hid (HB3.out.trans (hb4.mono HB3.out.size))
  clear q0 q1 q2 q3 q4 q5 q6 q7 q8 q9 q10 hb4
  go_wp2_with fail
  refine (KA.out w4 HB4.out).mono ?_
  rintro e w5 ⟨rfl, hb5⟩
  have HB5 := Lib.hid (HB4.out.trans (hb5.mono HB4.out.size))
  clear hb5
  go_wp2_with fail
  go_ret
  exact ⟨by simp, (HIN.out w5 HB5.out).1⟩
end Go.Proofs.YtikmebkfdpbidaaGreatDoor
namespace Go.Proofs.YtikmebkfdpbidaaGreatDoor
open Go.RowKit
set_option linter.unusedVariables false

/-- The table of the types, as the program lays it: name, parent, own fields. -/
def Co.table : List (ByteArray × Int × Int) := [(⟨#[99, 111, 110, 100, 105, 116, 105, 111, 110]⟩, -1, 0), (⟨#[109, 101, 115, 115, 97, 103, 101]⟩, 0, 1), (⟨#[119, 97, 114, 110, 105, 110, 103]⟩, 0, 0), (⟨#[115, 101, 114, 105, 111, 117, 115]⟩, 0, 0), (⟨#[101, 114, 114, 111, 114]⟩, 3, 0), (⟨#[118, 105, 111, 108, 97, 116, 105, 111, 110]⟩, 3, 0), (⟨#[97, 115, 115, 101, 114, 116, 105, 111, 110]⟩, 5, 0), (⟨#[105, 114, 114, 105, 116, 97, 110, 116, 115]⟩, 0, 1), (⟨#[119, 104, 111]⟩, 0, 1), (⟨#[110, 111, 110, 45, 99, 111, 110, 116, 105, 110, 117, 97, 98, 108, 101]⟩, 5, 0), (⟨#[105, 109, 112, 108, 101, 109, 101, 110, 116, 97, 116, 105, 111, 110, 45, 114, 101, 115, 116, 114, 105, 99, 116, 105, 111, 110]⟩, 5, 0), (⟨#[108, 101, 120, 105, 99, 97, 108]⟩, 5, 0), (⟨#[115, 121, 110, 116, 97, 120]⟩, 5, 2), (⟨#[117, 110, 100, 101, 102, 105, 110, 101, 100]⟩, 5, 0), (⟨#[105, 47, 111]⟩, 4, 0), (⟨#[105, 47, 111, 45, 114, 101, 97, 100]⟩, 14, 0), (⟨#[105, 47, 111, 45, 119, 114, 105, 116, 101]⟩, 14, 0), (⟨#[105, 47, 111, 45, 102, 105, 108, 101, 110, 97, 109, 101]⟩, 14, 1), (⟨#[105, 47, 111, 45, 102, 105, 108, 101, 45, 100, 111, 101, 115, 45, 110, 111, 116, 45, 101, 120, 105, 115, 116]⟩, 17, 0), (⟨#[105, 47, 111, 45, 102, 105, 108, 101, 45, 97, 108, 114, 101, 97, 100, 121, 45, 101, 120, 105, 115, 116, 115]⟩, 17, 0)]
def Co.nm (k : Nat) : ByteArray := (Co.table.getD k (.empty, 0, 0)).1
def Co.par (k : Nat) : Int := (Co.table.getD k (.empty, 0, 0)).2.1
def Co.fld (k : Nat) : Int := (Co.table.getD k (.empty, 0, 0)).2.2
def Co.cells : Array Value := #[.string ⟨#[99, 111, 110, 100, 105, 116, 105, 111, 110]⟩, .int .i64 (-1), .int .i64 0, .string ⟨#[109, 101, 115, 115, 97, 103, 101]⟩, .int .i64 0, .int .i64 1, .string ⟨#[119, 97, 114, 110, 105, 110, 103]⟩, .int .i64 0, .int .i64 0, .string ⟨#[115, 101, 114, 105, 111, 117, 115]⟩, .int .i64 0, .int .i64 0, .string ⟨#[101, 114, 114, 111, 114]⟩, .int .i64 3, .int .i64 0, .string ⟨#[118, 105, 111, 108, 97, 116, 105, 111, 110]⟩, .int .i64 3, .int .i64 0, .string ⟨#[97, 115, 115, 101, 114, 116, 105, 111, 110]⟩, .int .i64 5, .int .i64 0, .string ⟨#[105, 114, 114, 105, 116, 97, 110, 116, 115]⟩, .int .i64 0, .int .i64 1, .string ⟨#[119, 104, 111]⟩, .int .i64 0, .int .i64 1, .string ⟨#[110, 111, 110, 45, 99, 111, 110, 116, 105, 110, 117, 97, 98, 108, 101]⟩, .int .i64 5, .int .i64 0, .string ⟨#[105, 109, 112, 108, 101, 109, 101, 110, 116, 97, 116, 105, 111, 110, 45, 114, 101, 115, 116, 114, 105, 99, 116, 105, 111, 110]⟩, .int .i64 5, .int .i64 0, .string ⟨#[108, 101, 120, 105, 99, 97, 108]⟩, .int .i64 5, .int .i64 0, .string ⟨#[115, 121, 110, 116, 97, 120]⟩, .int .i64 5, .int .i64 2, .string ⟨#[117, 110, 100, 101, 102, 105, 110, 101, 100]⟩, .int .i64 5, .int .i64 0, .string ⟨#[105, 47, 111]⟩, .int .i64 4, .int .i64 0, .string ⟨#[105, 47, 111, 45, 114, 101, 97, 100]⟩, .int .i64 14, .int .i64 0, .string ⟨#[105, 47, 111, 45, 119, 114, 105, 116, 101]⟩, .int .i64 14, .int .i64 0, .string ⟨#[105, 47, 111, 45, 102, 105, 108, 101, 110, 97, 109, 101]⟩, .int .i64 14, .int .i64 1, .string ⟨#[105, 47, 111, 45, 102, 105, 108, 101, 45, 100, 111, 101, 115, 45, 110, 111, 116, 45, 101, 120, 105, 115, 116]⟩, .int .i64 17, .int .i64 0, .string ⟨#[105, 47, 111, 45, 102, 105, 108, 101, 45, 97, 108, 114, 101, 97, 100, 121, 45, 101, 120, 105, 115, 116, 115]⟩, .int .i64 17, .int .i64 0]
theorem Co.cells_at : ∀ k, k < 20 → Co.cells[k * 3]? = some (.string (Co.nm k)) ∧ Co.cells[k * 3 + 1]? = some (.int .i64 (Co.par k)) ∧ Co.cells[k * 3 + 2]? = some (.int .i64 (Co.fld k)) := by
  intro k hk
  rcases (show k = 0 ∨ k = 1 ∨ k = 2 ∨ k = 3 ∨ k = 4 ∨ k = 5 ∨ k = 6 ∨ k = 7 ∨ k = 8 ∨ k = 9 ∨ k = 10 ∨ k = 11 ∨ k = 12 ∨ k = 13 ∨ k = 14 ∨ k = 15 ∨ k = 16 ∨ k = 17 ∨ k = 18 ∨ k = 19 by omega) with rfl | rfl | rfl | rfl | rfl | rfl | rfl | rfl | rfl | rfl | rfl | rfl | rfl | rfl | rfl | rfl | rfl | rfl | rfl | rfl
  all_goals exact ⟨rfl, rfl, rfl⟩

set_option maxHeartbeats 4000000 in
set_option maxRecDepth 1000000 in
theorem Co.kinds_any (w : World) : Calls Tryz.prog 59 #[] w fun e w' => e = .returned (.slice (some ⟨w.heap.size, 0, none⟩) 20 20) ∧ w'.heap[w.heap.size]? = some (.cells Co.cells 109 (0, 0)) ∧ Below w.heap.size w w' := by
  go_enter Tryz.func59, Tryz.ntmps59
  go_wp2
  go_ret
  refine ⟨rfl, ?_, (Below.refl _ _).alloc (Nat.le_refl _) _⟩
  exact heap_alloc_new _ _
end Go.Proofs.YtikmebkfdpbidaaGreatDoor
namespace Go.Proofs.YtikmebkfdpbidaaGreatDoor
open Go.RowKit
set_option linter.unusedVariables false

theorem Co.par_lt : ∀ k, k < 20 → -1 ≤ Co.par k ∧ Co.par k < k := by
  intro k hk
  rcases (show k = 0 ∨ k = 1 ∨ k = 2 ∨ k = 3 ∨ k = 4 ∨ k = 5 ∨ k = 6 ∨ k = 7 ∨ k = 8 ∨ k = 9 ∨ k = 10 ∨ k = 11 ∨ k = 12 ∨ k = 13 ∨ k = 14 ∨ k = 15 ∨ k = 16 ∨ k = 17 ∨ k = 18 ∨ k = 19 by omega) with rfl | rfl | rfl | rfl | rfl | rfl | rfl | rfl | rfl | rfl | rfl | rfl | rfl | rfl | rfl | rfl | rfl | rfl | rfl | rfl
  all_goals decide
/-- Going up from t until there is none, or it is 'of'. -/
def Co.und : Nat → Int → Int → Bool
  | 0, t, of => t == of
  | n + 1, t, of => if t < 0 ∨ t = of then t == of else Co.und n (Co.par t.toNat) of
def Co.under (t of : Int) : Bool := Co.und 20 t of
def Co.thr (t : Int) : Bool := decide (0 ≤ t ∧ t < 20)

theorem Co.cell_of {w : World} {b : Nat} {C : Array Value} {t : TypeId} (h : w.heap[b]? = some (.cells C t (0, 0))) (k : Nat) : w.cell? ⟨b, k, none⟩ = C[k]? := by
  simp [World.cell?, h]
theorem Co.kind_cells {w : World} {b : Nat} {t : TypeId} (h : w.heap[b]? = some (.cells Co.cells t (0, 0))) (k : Nat) (hk : k < 20) : w.cell? ⟨b, k * 3, none⟩ = some (.string (Co.nm k)) ∧ w.cell? ⟨b, k * 3 + 1, none⟩ = some (.int .i64 (Co.par k)) ∧ w.cell? ⟨b, k * 3 + 2, none⟩ = some (.int .i64 (Co.fld k)) := by
  obtain ⟨h1, h2, h3⟩ := Co.cells_at k hk
  exact ⟨(Co.cell_of h _).trans h1, (Co.cell_of h _).trans h2, (Co.cell_of h _).trans h3⟩

theorem Co.setCells {w : World} {b : Nat} {C : Array Value} {t : TypeId} (h : w.heap[b]? = some (.cells C t (0, 0))) (k : Nat) (u : Value) : (w.setCell ⟨b, k, none⟩ u).heap[b]? = some (.cells (C.set! k u) t (0, 0)) := by
  obtain ⟨hlt, hk⟩ := Array.getElem?_eq_some_iff.1 h
  show (w.heap.modify b _)[b]? = _
  rw [Array.getElem?_eq_getElem (by rw [Array.size_modify]; exact hlt), Array.getElem_modify_self, hk]
  rfl
theorem Co.frozen_of {w : World} {b : Nat} {C : Array Value} {t : TypeId} (h : w.heap[b]? = some (.cells C t (0, 0))) (k : Nat) : w.frozen? ⟨b, k, none⟩ = false := by
  simp [World.frozen?, h]
/-- What a store of three cells asks and leaves. -/
theorem Co.store3 {w : World} {b : Nat} {v0 v1 v2 : Value} {t : TypeId} (h : w.heap[b]? = some (.cells #[v0, v1, v2] t (0, 0))) (u0 u1 u2 : Value) :
    w.cell? ⟨b, 0, none⟩ = some v0 ∧ w.frozen? ⟨b, 0, none⟩ = false ∧ (w.setCell ⟨b, 0, none⟩ u0).cell? ⟨b, 1, none⟩ = some v1 ∧ (w.setCell ⟨b, 0, none⟩ u0).frozen? ⟨b, 1, none⟩ = false ∧
    ((w.setCell ⟨b, 0, none⟩ u0).setCell ⟨b, 1, none⟩ u1).cell? ⟨b, 2, none⟩ = some v2 ∧ ((w.setCell ⟨b, 0, none⟩ u0).setCell ⟨b, 1, none⟩ u1).frozen? ⟨b, 2, none⟩ = false ∧
    (((w.setCell ⟨b, 0, none⟩ u0).setCell ⟨b, 1, none⟩ u1).setCell ⟨b, 2, none⟩ u2).heap[b]? = some (.cells #[u0, u1, u2] t (0, 0)) := by
  have h1 := Co.setCells h 0 u0
  have h2 := Co.setCells h1 1 u1
  have h3 := Co.setCells h2 2 u2
  exact ⟨Co.cell_of h 0, Co.frozen_of h 0, Co.cell_of h1 1, Co.frozen_of h1 1, Co.cell_of h2 2, Co.frozen_of h2 2, h3⟩

set_option maxHeartbeats 4000000 in
set_option maxRecDepth 1000000 in
theorem Co.find_in (k : Nat) (hk : k < 20) (w : World) : Calls Tryz.prog 55 #[.int .i64 k] w fun e w' => e = .returned (.tuple #[.agg #[.string (Co.nm k), .int .i64 (Co.par k), .int .i64 (Co.fld k)], .bool true]) ∧ Below w.heap.size w w' := by
  have h0 : ¬ ((k : Int) < 0) := by omega
  have h1 : ¬ ((k : Int) ≥ 20) := by omega
  go_enter Tryz.func55, Tryz.ntmps55
  go_wp2_with fail
  refine (Co.kinds_any _).mono ?_
  rintro x w1 ⟨rfl, hg, hb⟩
  have e0 : ∀ o, (w.alloc o).heap.size = w.heap.size + 1 := by intro o; simp
  rw [e0] at hg
  have q0 : w1.heap[w.heap.size]? = some (.cells #[.string ⟨#[]⟩, .int .i64 0, .int .i64 0] 109 (0, 0)) := by
    rw [hb.block _ (by simp)]
    exact heap_alloc_new _ _
  obtain ⟨c0, c1, c2⟩ := Co.kind_cells hg k hk
  have HB := Lib.hid (((Below.refl w.heap.size w).alloc (Nat.le_refl _) _).trans (hb.mono (by simp)))
  clear hb hg e0
  obtain ⟨f0, z0, f1, z1, f2, z2, f3⟩ := Co.store3 q0 (.string (Co.nm k)) (.int .i64 (Co.par k)) (.int .i64 (Co.fld k))
  have F3 := Lib.hid f3
  have g0 := Co.cell_of f3 0
  have g1 := Co.cell_of f3 1
  have g2 := Co.cell_of f3 2
  clear f3 q0
  go_wp2_with fail
  refine bodyPost_ret (v := .tuple #[.agg #[.string (Co.nm k), .int .i64 (Co.par k), .int .i64 (Co.fld k)], .bool true]) (by simp [results, Tryz.results55, go_sem, g0, g1, g2]) rfl ⟨rfl, ?_⟩
  exact ((HB.out.setCell (Nat.le_refl _) _).setCell (Nat.le_refl _) _).setCell (Nat.le_refl _) _

set_option maxHeartbeats 4000000 in
set_option maxRecDepth 1000000 in
theorem Co.find_out (t : Int) (ht : t < 0 ∨ t ≥ 20) (w : World) : Calls Tryz.prog 55 #[.int .i64 t] w fun e w' => e = .returned (.tuple #[.agg #[.string ⟨#[]⟩, .int .i64 0, .int .i64 0], .bool false]) ∧ Below w.heap.size w w' := by
  go_enter Tryz.func55, Tryz.ntmps55
  go_wp2_with fail
  refine (Co.kinds_any _).mono ?_
  rintro x w1 ⟨rfl, hg, hb⟩
  have q0 : w1.heap[w.heap.size]? = some (.cells #[.string ⟨#[]⟩, .int .i64 0, .int .i64 0] 109 (0, 0)) := by
    rw [hb.block _ (by simp)]
    exact heap_alloc_new _ _
  have HB := Lib.hid (((Below.refl w.heap.size w).alloc (Nat.le_refl _) _).trans (hb.mono (by simp)))
  clear hb hg
  obtain ⟨f0, z0, f1, z1, f2, z2, f3⟩ := Co.store3 q0 (.string ⟨#[]⟩) (.int .i64 0) (.int .i64 0)
  have g0 := Co.cell_of f3 0
  have g1 := Co.cell_of f3 1
  have g2 := Co.cell_of f3 2
  clear f3 q0
  rcases ht with ht | ht
  all_goals
    go_wp2_with fail
    refine bodyPost_ret (v := .tuple #[.agg #[.string ⟨#[]⟩, .int .i64 0, .int .i64 0], .bool false]) (by simp [results, Tryz.results55, go_sem, g0, g1, g2]) rfl ⟨rfl, ?_⟩
    exact ((HB.out.setCell (Nat.le_refl _) _).setCell (Nat.le_refl _) _).setCell (Nat.le_refl _) _

theorem Co.und_stop (n : Nat) (t of : Int) (h : t < 0 ∨ t = of) : Co.und n t of = (t == of) := by
  cases n with
  | zero => rfl
  | succ n => rw [Co.und, if_pos h]
theorem Co.und_step (n : Nat) (t of : Int) (h : ¬ (t < 0 ∨ t = of)) : Co.und (n + 1) t of = Co.und n (Co.par t.toNat) of := by
  rw [Co.und, if_neg h]

set_option maxHeartbeats 4000000 in
set_option maxRecDepth 1000000 in
theorem Co.under_any (t : Nat) (ht : t < 20) (of : Int) (w : World) : Calls Tryz.prog 62 #[.int .i64 t, .int .i64 of] w fun e w' => e = .returned (.bool (Co.under t of)) ∧ Below w.heap.size w w' := by
  have hU : ∃ U, Co.und 20 t of = U := ⟨_, rfl⟩
  obtain ⟨U, hU⟩ := hU
  unfold Co.under
  rw [hU]
  go_enter Tryz.func62, Tryz.ntmps62
  go_wp2_with fail
  refine (Co.kinds_any _).mono ?_
  rintro x w1 ⟨rfl, hg, hb⟩
  have HB := Lib.hid hb
  clear hb
  go_wp2_with fail
  go_loopw [0] (fun i wr => ∃ (n : Nat) (k : Int), i = .int .i64 k ∧ -1 ≤ k ∧ k < n ∧ n ≤ 20 ∧ Co.und n k of = U ∧ wr = w1) (fun i _ => (intOf i + 1).toNat)
  case atStart => exact ⟨20, t, rfl, by omega, by omega, Nat.le_refl _, hU, rfl⟩
  case round =>
    obtain ⟨n, k, rfl, hk, hkn, hn, hu, rfl⟩ := hrel
    by_cases h1 : k < 0
    · rw [Co.und_stop _ _ _ (.inl h1)] at hu
      have h2 : ¬ (k ≥ 0) := by omega
      go_wp2_with fail
      go_ret
      refine ⟨?_, HB.out⟩
      rw [← hu]
      first | rfl | simp
    · by_cases h2 : k = of
      · rw [Co.und_stop _ _ _ (.inr h2)] at hu
        have h3 : k ≥ 0 := by omega
        subst h2
        go_wp2_with fail
        go_ret
        refine ⟨?_, HB.out⟩
        rw [← hu]
        first | rfl | simp
      · obtain ⟨m, rfl⟩ : ∃ m : Nat, k = m := ⟨k.toNat, by omega⟩
        obtain ⟨n, rfl⟩ : ∃ q : Nat, n = q + 1 := ⟨n - 1, by omega⟩
        rw [Co.und_step _ _ _ (by omega), Int.toNat_natCast] at hu
        obtain ⟨p1, p2⟩ := Co.par_lt m (by omega)
        obtain ⟨c0, c1, c2⟩ := Co.kind_cells hg m (by omega)
        have h3 : (m : Int) ≥ 0 := by omega
        have h4 : m < 20 := by omega
        have HN := Lib.hid hn
        have HKN := Lib.hid hkn
        have HU := Lib.hid hu
        clear hn hkn hu hk
        go_wp2_with fail
        go_roundw
        case rel => exact ⟨n, Co.par m, rfl, p1, by have := HKN.out; omega, by have := HN.out; omega, HU.out, trivial⟩
        case measure => simp [intOf]; omega

/-- Is it a type, and what is told of it. -/
theorem Co.find_any (t : Int) (w : World) : Calls Tryz.prog 55 #[.int .i64 t] w fun e w' => e = .returned (.tuple #[.agg #[.string (if Co.thr t then Co.nm t.toNat else ⟨#[]⟩), .int .i64 (if Co.thr t then Co.par t.toNat else 0), .int .i64 (if Co.thr t then Co.fld t.toNat else 0)], .bool (Co.thr t)]) ∧ Below w.heap.size w w' := by
  by_cases h : 0 ≤ t ∧ t < 20
  · have e : Co.thr t = true := decide_eq_true h
    rw [e]
    have := Co.find_in t.toNat (by omega) w
    rw [show ((t.toNat : Nat) : Int) = t by omega] at this
    exact this
  · have e : Co.thr t = false := decide_eq_false h
    rw [e]
    exact Co.find_out t (by omega) w

set_option maxHeartbeats 4000000 in
set_option maxRecDepth 1000000 in
theorem Co.name_any (t : Int) (w : World) : Calls Tryz.prog 87 #[.int .i64 t] w fun e w' => e = .returned (.tuple #[.string (if Co.thr t then Co.nm t.toNat else ⟨#[]⟩), .int .i64 (if Co.thr t then 0 else 7)]) ∧ Below w.heap.size w w' := by
  have KF := Lib.hid (Co.find_any t w)
  cases he : Co.thr t
  all_goals
    rw [he] at KF
    simp only [if_true, if_false, Bool.false_eq_true] at KF ⊢
    go_enter Tryz.func87, Tryz.ntmps87
    go_wp2_with fail
    refine KF.out.mono ?_
    rintro x w1 ⟨rfl, hb⟩
    have HB := Lib.hid hb
    clear hb KF
    go_wp2
    go_ret2
    exact ⟨rfl, HB.out.alloc HB.out.size _⟩
def Co.Under (t of : Int) : Bool := (Co.thr t && Co.thr of) && Co.under t of
set_option maxHeartbeats 4000000 in
set_option maxRecDepth 1000000 in
theorem Co.Under_any (t of : Int) (w : World) : Calls Tryz.prog 29 #[.int .i64 t, .int .i64 of] w fun e w' => e = .returned (.tuple #[.bool (Co.Under t of), .int .i64 (if Co.thr t && Co.thr of then 0 else 7)]) ∧ Below w.heap.size w w' := by
  have KF := fun w => Co.find_any t w
  have KF2 := fun w => Co.find_any of w
  have KU : Co.thr t = true → ∀ w, Calls Tryz.prog 62 #[.int .i64 t, .int .i64 of] w fun e w' => e = .returned (.bool (Co.under t of)) ∧ Below w.heap.size w w' := by
    intro h w
    have h := of_decide_eq_true h
    have := Co.under_any t.toNat (by omega) of w
    rw [show ((t.toNat : Nat) : Int) = t by omega] at this
    exact this
  unfold Co.Under
  generalize Co.under t of = U at *
  generalize Co.nm t.toNat = n1 at *
  generalize Co.par t.toNat = n2 at *
  generalize Co.fld t.toNat = n3 at *
  generalize Co.nm of.toNat = m1 at *
  generalize Co.par of.toNat = m2 at *
  generalize Co.fld of.toNat = m3 at *
  cases he : Co.thr t <;> cases he2 : Co.thr of
  all_goals
    rw [he] at KF
    rw [he2] at KF2
    simp only [if_true, if_false, Bool.false_eq_true, Bool.and_true, Bool.and_false, Bool.true_and, Bool.false_and] at KF KF2 ⊢
    go_enter Tryz.func29, Tryz.ntmps29
    go_wp2_with fail
    refine (KF _).mono ?_
    rintro x w1 ⟨rfl, hb⟩
    have HA : ∀ o, Below w.heap.size w (w1.alloc o) := fun o => hb.alloc hb.size o
    clear hb
    go_wp2_with fail
    refine (KF2 _).mono ?_
    rintro x w2 ⟨rfl, hb2⟩
    have HB2 := Lib.hid ((HA _).trans (hb2.mono (HA _).size))
    have HA2 : ∀ o, Below w.heap.size w (w2.alloc o) := fun o => HB2.out.alloc HB2.out.size o
    clear hb2 HA
    go_wp2_with fail
    first
    | (go_ret2
       exact ⟨rfl, HA2 _⟩)
    | (refine (KU he _).mono ?_
       rintro x w3 ⟨rfl, hb3⟩
       have HB3 := Lib.hid ((HA2 _).trans (hb3.mono (HA2 _).size))
       clear hb3 HA2
       go_wp2
       go_ret2
       exact ⟨rfl, HB3.out⟩)
end Go.Proofs.YtikmebkfdpbidaaGreatDoor
namespace Go.Proofs.YtikmebkfdpbidaaGreatDoor
open Go.RowKit
set_option linter.unusedVariables false

/-- How many fields a type has, its parents' among them. -/
def Co.nfu : Nat → Int → Int
  | 0, _ => 0
  | n + 1, t => if t < 0 then 0 else Co.fld t.toNat + Co.nfu n (Co.par t.toNat)
def Co.nf (t : Nat) : Int := Co.nfu 20 t
theorem Co.nfu_stop (n : Nat) (t : Int) (h : t < 0) : Co.nfu n t = 0 := by
  cases n with
  | zero => rfl
  | succ n => rw [Co.nfu, if_pos h]
theorem Co.nfu_step (n : Nat) (t : Int) (h : ¬ t < 0) : Co.nfu (n + 1) t = Co.fld t.toNat + Co.nfu n (Co.par t.toNat) := by
  rw [Co.nfu, if_neg h]
theorem Co.fld_le : ∀ k, k < 20 → 0 ≤ Co.fld k ∧ Co.fld k ≤ 2 := by
  intro k hk
  rcases (show k = 0 ∨ k = 1 ∨ k = 2 ∨ k = 3 ∨ k = 4 ∨ k = 5 ∨ k = 6 ∨ k = 7 ∨ k = 8 ∨ k = 9 ∨ k = 10 ∨ k = 11 ∨ k = 12 ∨ k = 13 ∨ k = 14 ∨ k = 15 ∨ k = 16 ∨ k = 17 ∨ k = 18 ∨ k = 19 by omega) with rfl | rfl | rfl | rfl | rfl | rfl | rfl | rfl | rfl | rfl | rfl | rfl | rfl | rfl | rfl | rfl | rfl | rfl | rfl | rfl
  all_goals decide
end Go.Proofs.YtikmebkfdpbidaaGreatDoor
namespace Go.Proofs.YtikmebkfdpbidaaGreatDoor
open Go.RowKit
set_option linter.unusedVariables false

structure Sp where
  t : Int
  f : List Tr
/-- Parts, one behind the other in memory. -/
def Sp.At (w : World) (S : Nat → Prop) (l : List Sp) (b off : Nat) : Prop := ∀ k s, l[k]? = some s → ∃ fv, w.cell? ⟨b, off + k * 2, none⟩ = some (.int .i64 s.t) ∧ w.cell? ⟨b, off + k * 2 + 1, none⟩ = some fv ∧ Tr.LIn w S s.f fv
/-- The value reads as the parts l; all that they lie in is of S. -/
def Sp.LIn (w : World) (S : Nat → Prop) (l : List Sp) (v : Value) : Prop := Tr.Sl w S v l.length (fun b off => Sp.At w S l b off)
theorem Sp.LIn.slice {w : World} {S : Nat → Prop} {l : List Sp} {v : Value} (h : Sp.LIn w S l v) : ∃ ad cap, v = .slice ad l.length cap ∧ l.length ≤ cap ∧ (l.length = 0 ∨ cap ≤ 9223372036854775807) := Tr.Sl.slice h
theorem Sp.LIn.at {w : World} {S : Nat → Prop} {l : List Sp} {ad : Option Addr} {n cap : Nat} (h : Sp.LIn w S l (.slice ad n cap)) {k : Nat} {s : Sp} (hk : l[k]? = some s) : ∃ b off fv, ad = some ⟨b, off, none⟩ ∧ b < w.heap.size ∧ S b ∧ w.cell? ⟨b, off + k * 2, none⟩ = some (.int .i64 s.t) ∧ w.cell? ⟨b, off + k * 2 + 1, none⟩ = some fv ∧ Tr.LIn w S s.f fv := by
  have hlt := (List.getElem?_eq_some_iff.1 hk).1
  obtain ⟨b, off, e, _, _, _, hb, hS, hA⟩ := Tr.Sl.at h (by omega)
  obtain ⟨fv, h1, h2, h3⟩ := hA k s hk
  exact ⟨b, off, fv, e, hb, hS, h1, h2, h3⟩
theorem Sp.LIn.kept {w w' : World} {S : Nat → Prop} {l : List Sp} {v : Value} (h : Sp.LIn w S l v) (hk : Tr.Kept S w w') : Sp.LIn w' S l v :=
  Tr.Sl.imp h hk.size (fun _ h => h) (fun b off hb hS hA k s hs => by
    obtain ⟨fv, h1, h2, h3⟩ := hA k s hs
    exact ⟨fv, (hk.cell hS hb).trans h1, (hk.cell hS hb).trans h2, h3.kept hk⟩)
theorem Sp.LIn.mono {w : World} {S S' : Nat → Prop} {l : List Sp} {v : Value} (h : Sp.LIn w S l v) (hk : ∀ q, S q → S' q) : Sp.LIn w S' l v :=
  Tr.Sl.imp h (Nat.le_refl _) hk (fun b off hb hS hA k s hs => by
    obtain ⟨fv, h1, h2, h3⟩ := hA k s hs
    exact ⟨fv, h1, h2, h3.mono hk⟩)
theorem Sp.LIn.below {w w' : World} {S : Nat → Prop} {B : Nat} {l : List Sp} {v : Value} (h : Sp.LIn w S l v) (hb : Below B w w') (hB : w.heap.size ≤ B) : Sp.LIn w' S l v := h.kept (Tr.Kept.all hb hB)
theorem Sp.LIn.nil (w : World) (S : Nat → Prop) : Sp.LIn w S [] (.slice none 0 0) := .inl ⟨rfl, rfl⟩

/-- Check's answer for one part. -/
def Sp.one (s : Sp) : Int := if Co.thr s.t = false then 7 else if Co.nf s.t.toNat ≠ s.f.length then 1 else if s.f.all Tr.sound then 0 else 2
def Sp.chkL : List Sp → Int
  | [] => 0
  | s :: r => if Sp.one s = 0 then Sp.chkL r else Sp.one s
/-- Check's answer. -/
def Sp.chk (l : List Sp) : Int := if 16 < l.length then 4 else Sp.chkL l
theorem Sp.chkL_at {l : List Sp} {k : Nat} {s : Sp} (hk : l[k]? = some s) : Sp.chkL (l.drop k) = if Sp.one s = 0 then Sp.chkL (l.drop (k + 1)) else Sp.one s := by
  obtain ⟨hlt, he⟩ := List.getElem?_eq_some_iff.1 hk
  rw [List.drop_eq_getElem_cons hlt, he]; rfl
theorem Sp.one_none {s : Sp} (h : Co.thr s.t = false) : Sp.one s = 7 := by unfold Sp.one; rw [if_pos h]
theorem Sp.one_arg {s : Sp} (h : Co.thr s.t = true) (h2 : Co.nf s.t.toNat ≠ s.f.length) : Sp.one s = 1 := by unfold Sp.one; rw [if_neg (by rw [h]; decide), if_pos h2]
theorem Sp.one_sound {s : Sp} (h : Co.thr s.t = true) (h2 : Co.nf s.t.toNat = s.f.length) (h3 : s.f.all Tr.sound = true) : Sp.one s = 0 := by unfold Sp.one; rw [if_neg (by rw [h]; decide), if_neg (by rw [h2]; exact fun h => h rfl), if_pos h3]
theorem Sp.one_form {s : Sp} (h : Co.thr s.t = true) (h2 : Co.nf s.t.toNat = s.f.length) (h3 : s.f.all Tr.sound = false) : Sp.one s = 2 := by unfold Sp.one; rw [if_neg (by rw [h]; decide), if_neg (by rw [h2]; exact fun h => h rfl), if_neg (by rw [h3]; decide)]
theorem Sp.one_range (s : Sp) : 0 ≤ Sp.one s ∧ Sp.one s ≤ 7 := by unfold Sp.one; repeat' split <;> omega
/-- A list that Check takes. -/
theorem Sp.chk_zero {l : List Sp} (h : Sp.chk l = 0) : l.length ≤ 16 ∧ Sp.chkL l = 0 := by
  unfold Sp.chk at h
  split at h
  · omega
  · exact ⟨by omega, h⟩
theorem Sp.one_zero {s : Sp} (h : Sp.one s = 0) : Co.thr s.t = true ∧ Co.nf s.t.toNat = s.f.length ∧ ∀ t ∈ s.f, Tr.sound t = true := by
  unfold Sp.one at h
  split at h
  · omega
  · rename_i h1
    split at h
    · omega
    · rename_i h2
      split at h
      · rename_i h3
        exact ⟨by cases e : Co.thr s.t with | true => rfl | false => exact absurd e h1, Classical.byContradiction h2, List.all_eq_true.1 h3⟩
      · omega
theorem Sp.chkL_zero : ∀ {l : List Sp}, Sp.chkL l = 0 ↔ ∀ s ∈ l, Sp.one s = 0
  | [] => ⟨fun _ s h => by simp at h, fun _ => rfl⟩
  | a :: r => by
    constructor
    · intro h s hs
      unfold Sp.chkL at h
      split at h
      · rename_i h1
        rcases List.mem_cons.1 hs with rfl | hs
        · exact h1
        · exact Sp.chkL_zero.1 h s hs
      · rename_i h1
        exact absurd h h1
    · intro h
      unfold Sp.chkL
      rw [if_pos (h a (List.mem_cons_self ..)), Sp.chkL_zero.2 (fun s hs => h s (List.mem_cons_of_mem _ hs))]
end Go.Proofs.YtikmebkfdpbidaaGreatDoor
namespace Go.Proofs.YtikmebkfdpbidaaGreatDoor
open Go.RowKit
set_option linter.unusedVariables false
set_option linter.unusedSimpArgs false

theorem Up.pos {H : Type} (d : DataW H) : 1 ≤ Rows.uptoBulk d := by
  cases d with
  | lit l => cases l <;> simp [Rows.uptoBulk]
  | _ => simp [Rows.uptoBulk]
theorem Up.len {H : Type} : ∀ (l : List (DataW H)), l.length ≤ Rows.uptoBulkAll l
  | [] => Nat.zero_le _
  | d :: r => by
    have h1 := Up.pos d
    have h2 := Up.len r
    simp only [List.length_cons, Rows.uptoBulkAll]
    omega
theorem Up.mem {H : Type} : ∀ {l : List (DataW H)} {d : DataW H}, d ∈ l → Rows.uptoBulk d ≤ Rows.uptoBulkAll l
  | a :: r, d, h => by
    simp only [Rows.uptoBulkAll]
    rcases List.mem_cons.1 h with rfl | h
    · omega
    · have := Up.mem h
      omega
theorem Up.slc {H : Type} (l r : List (DataW H)) : Rows.uptoBulk (.slice l r) = Rows.uptoBulkAll l + Rows.uptoBulkAll r + 1 := by rw [Rows.uptoBulk]
theorem Up.agg {H : Type} (l : List (DataW H)) : Rows.uptoBulk (.agg l) = Rows.uptoBulkAll l + 1 := by rw [Rows.uptoBulk]
/-- So many things that there are, in a list. -/
theorem Up.choose {α : Type} {P : Nat → α → Prop} : ∀ n, (∀ i, i < n → ∃ x, P i x) → ∃ l : List α, l.length = n ∧ ∀ i x, l[i]? = some x → P i x
  | 0, _ => ⟨[], rfl, fun i x h => by simp at h⟩
  | n + 1, h => by
    obtain ⟨l, h1, h2⟩ := Up.choose n (fun i hi => h i (by omega))
    obtain ⟨x, hx⟩ := h n (by omega)
    refine ⟨l ++ [x], by simp [h1], fun i y hy => ?_⟩
    rcases Nat.lt_or_ge i n with hi | hi
    · rw [List.getElem?_append_left (by omega)] at hy
      exact h2 i y hy
    · have hlt := (List.getElem?_eq_some_iff.1 hy).1
      rw [List.length_append, h1] at hlt
      have hin : i = n := by simp at hlt; omega
      subst hin
      rw [List.getElem?_append_right (by omega), h1, Nat.sub_self] at hy
      simp only [List.getElem?_cons_zero, Option.some.injEq] at hy
      subst hy
      exact hx
theorem Up.cells {w : World} {base n : Nat} {a : Addr} {cs : List Value} (h : w.cells? base a n = some cs) : cs.length = n ∧ ∀ j, j < n → ∃ u, cs[j]? = some u ∧ w.cell? (a.add j) = some u := by
  unfold World.cells? at h
  split at h
  · have hl := mapM_some_length h
    rw [List.length_range] at hl
    refine ⟨hl, fun j hj => ?_⟩
    have hg := mapM_some_get h j j (by simp [hj])
    exact ⟨cs[j], List.getElem?_eq_getElem (by omega), hg.trans (List.getElem?_eq_getElem (by omega))⟩
  · cases h
theorem Up.spot {w : World} {a : Addr} {i : Nat} {u : Value} (h : w.cell? ((a.add i).add 0) = some u) (hi : i = 0) : a = ⟨a.block, a.off, none⟩ := by
  subst hi
  have := World.cell?_spot h
  obtain ⟨b, off, s⟩ := a
  simp [Addr.add] at this
  subst this
  rfl
theorem Up.blk {w : World} {b off : Nat} {u : Value} (h : w.cell? ⟨b, off, none⟩ = some u) : b < w.heap.size := by
  rcases Nat.lt_or_ge b w.heap.size with h1 | h1
  · exact h1
  · simp [World.cell?, Array.getElem?_eq_none h1] at h
theorem Up.add (b off j : Nat) : (⟨b, off, none⟩ : Addr).add j = ⟨b, off + j, none⟩ := by unfold Addr.add; split <;> simp_all
/-- A slice among the arguments: nothing, or elements that can be read. -/
theorem Up.slice {H : Type} {enc : TypeId × Value → H} {P : Program} {w : World} {base : Nat} {spare : Nat → Bool} {held : Bool} {fuel : Nat} {t e : TypeId} {cs : List Value} {x : DataW H × List MemPlace} {sz N : Nat} (ht : P.underlying t = some (.slice e)) (hc : P.cellsOf e = sz) (hsz : 0 < sz)
    (h : DataW.trod enc P w base spare held fuel t cs = some x) (hN : Rows.uptoBulk x.1 ≤ N) :
    cs = [.slice none 0 0] ∨ ∃ len cap n, fuel = n + 1 ∧ len ≤ cap ∧ cap ≤ maxLen ∧ len ≤ N ∧ ((len = 0 ∧ ∃ a, cs = [.slice (some a) 0 cap]) ∨ (0 < len ∧ ∃ b off, cs = [.slice (some ⟨b, off, none⟩) len cap] ∧ b < w.heap.size ∧
      ∀ i, i < len → ∃ (y : DataW H × List MemPlace) (es : List Value), Rows.uptoBulk y.1 ≤ N ∧ DataW.trod enc P w base spare held n e es = some y ∧ es.length = sz ∧ ∀ j, j < sz → ∃ u, es[j]? = some u ∧ w.cell? ⟨b, off + i * sz + j, none⟩ = some u)) := by
  rcases DataW.trod_slice ht h with ⟨hcs, _⟩ | ⟨a, len, cap, elems, rest, n, hf, hcs, hx, _, hl, hm, hlen, hel, _, _⟩
  · exact .inl hcs
  · have hNx : Rows.uptoBulk (DataW.slice (elems.map (·.1)) (rest.map (·.1))) ≤ N := by have := hN; rw [hx] at this; exact this
    rw [Up.slc] at hNx
    have hl1 := Up.len (elems.map (·.1))
    rw [List.length_map, hlen] at hl1
    refine .inr ⟨len, cap, n, hf, hl, hm, by omega, ?_⟩
    have each : ∀ i, i < len → ∃ (y : DataW H × List MemPlace) (es : List Value), Rows.uptoBulk y.1 ≤ N ∧ DataW.trod enc P w base spare held n e es = some y ∧ es.length = sz ∧ ∀ j, j < sz → ∃ u, es[j]? = some u ∧ w.cell? ((a.add (i * sz)).add j) = some u := by
      intro i hi
      have h1 := hel i hi
      have hy : elems[i]? = some elems[i] := List.getElem?_eq_getElem (by omega)
      rw [hy, hc, Option.bind_eq_some_iff] at h1
      obtain ⟨es, he1, he2⟩ := h1
      obtain ⟨h3, h4⟩ := Up.cells he1
      refine ⟨elems[i], es, ?_, he2, h3, h4⟩
      have := Up.mem (l := elems.map (·.1)) (d := elems[i].1) (List.mem_map.2 ⟨elems[i], List.getElem_mem _, rfl⟩)
      omega
    rcases Nat.eq_zero_or_pos len with h0 | h0
    · subst h0
      exact .inl ⟨rfl, a, hcs⟩
    · obtain ⟨_, _, _, _, _, hc0⟩ := each 0 h0
      obtain ⟨u, _, hu⟩ := hc0 0 hsz
      have ha := Up.spot hu (by omega)
      refine .inr ⟨h0, a.block, a.off, by rw [hcs]; rw [ha], ?_, fun i hi => ?_⟩
      · rw [ha, Up.add, Up.add] at hu
        exact Up.blk hu
      · obtain ⟨y, es, h1, h2, h3, h4⟩ := each i hi
        refine ⟨y, es, h1, h2, h3, fun j hj => ?_⟩
        obtain ⟨u, h5, h6⟩ := h4 j hj
        refine ⟨u, h5, ?_⟩
        rw [ha, Up.add, Up.add] at h6
        exact h6
theorem Up.one {l : List Value} (h : l.length = 1) : ∃ u, l = [u] := by
  match l, h with
  | [u], _ => exact ⟨u, rfl⟩
theorem Up.cellsU : Tryz.prog.cellsOf 144 = 1 := by kernel_rfl
/-- Words. -/
theorem Up.words {H : Type} {enc : TypeId × Value → H} {w : World} {base : Nat} {spare : Nat → Bool} {held : Bool} {fuel : Nat} {cs : List Value} {x : DataW H × List MemPlace} {N : Nat} (h : DataW.trod enc Tryz.prog w base spare held fuel 22 cs = some x) (hN : Rows.uptoBulk x.1 ≤ N) :
    ∃ v ws, cs = [v] ∧ Nt.In w v ws ∧ Nt.Wd ws ∧ ws.length ≤ N := by
  rcases Up.slice Tryz.underlying22 Up.cellsU (by decide) h hN with rfl | ⟨len, cap, n, _, hl, hm, hle, h1⟩
  · exact ⟨_, [], rfl, .inl ⟨rfl, rfl⟩, fun y hy => by simp at hy, Nat.zero_le _⟩
  · rcases h1 with ⟨_, a, rfl⟩ | ⟨h0, b, off, rfl, hb, hel⟩
    · exact ⟨_, [], rfl, .inr (.inl ⟨a, cap, rfl, rfl⟩), fun y hy => by simp at hy, Nat.zero_le _⟩
    · obtain ⟨ws, hw1, hw2⟩ := Up.choose (P := fun i z => z < 4294967296 ∧ w.cell? ⟨b, off + i, none⟩ = some (.int .u32 (z : Nat))) len (fun i hi => by
        obtain ⟨y, es, _, hd, hes, hcell⟩ := hel i hi
        obtain ⟨u, rfl⟩ := Up.one hes
        obtain ⟨k, e, _, hwf⟩ := DataW.trod_int Tryz.underlying144 hd
        simp only [List.cons.injEq, and_true] at e
        subst e
        obtain ⟨u, hu1, hu2⟩ := hcell 0 (by decide)
        simp only [List.getElem?_cons_zero, Option.some.injEq] at hu1
        subst hu1
        have hk : 0 ≤ k ∧ k < 4294967296 := by
          simp only [Lit.wf, Bool.and_eq_true, decide_eq_true_eq] at hwf
          have e1 : IntKind.min .u32 = 0 := rfl
          have e2 : IntKind.max .u32 = 4294967295 := rfl
          omega
        refine ⟨k.toNat, by omega, ?_⟩
        rw [Nat.mul_one, Nat.add_zero] at hu2
        rw [hu2, show ((k.toNat : Nat) : Int) = k by omega])
      refine ⟨_, ws, rfl, .inr (.inr ⟨by omega, b, off, cap, by rw [hw1], by omega, hb, fun j hj => ?_⟩), fun y hy => ?_, by omega⟩
      · have hg : ws[j]? = some ws[j] := List.getElem?_eq_getElem hj
        have := (hw2 j _ hg).2
        rw [this, List.getD_eq_getElem?_getD, hg]
        rfl
      · obtain ⟨j, hj, rfl⟩ := List.getElem_of_mem hy
        exact (hw2 j _ (List.getElem?_eq_getElem hj)).1
theorem Up.cellsB : Tryz.prog.cellsOf 5 = 1 := by kernel_rfl
theorem Up.bytes {H : Type} {enc : TypeId × Value → H} {w : World} {base : Nat} {spare : Nat → Bool} {held : Bool} {fuel : Nat} {cs : List Value} {x : DataW H × List MemPlace} {N : Nat} (h : DataW.trod enc Tryz.prog w base spare held fuel 27 cs = some x) (hN : Rows.uptoBulk x.1 ≤ N) :
    ∃ v s, cs = [v] ∧ By.In w v s ∧ s.size ≤ N := by
  obtain ⟨a, l, c, rfl⟩ := Go.Joins.slice_form Tryz.underlying27 h
  obtain ⟨s, h1, h2⟩ := By.In.open (v := .slice a l c) Tryz.underlying27 Tryz.underlying5 Up.cellsB ⟨_, _, _, rfl⟩ ⟨fuel, h⟩
  refine ⟨_, s, rfl, h1, ?_⟩
  rcases h2 with ⟨_, h2⟩ | ⟨elems, spare, he, h2⟩
  · omega
  · rw [he, Up.slc] at hN
    have := Up.len elems
    omega
theorem Up.list2 {α : Type} {l : List α} (h : l.length = 2) : ∃ a b, l = [a, b] := by
  match l, h with
  | [a, b], _ => exact ⟨a, b, rfl⟩
theorem Up.list3 {α : Type} {l : List α} (h : l.length = 3) : ∃ a b c, l = [a, b, c] := by
  match l, h with
  | [a, b, c], _ => exact ⟨a, b, c, rfl⟩
theorem Up.list6 {α : Type} {l : List α} (h : l.length = 6) : ∃ a b c d e f, l = [a, b, c, d, e, f] := by
  match l, h with
  | [a, b, c, d, e, f], _ => exact ⟨a, b, c, d, e, f, rfl⟩
theorem Up.list11 {α : Type} {l : List α} (h : l.length = 11) : ∃ c0 c1 c2 c3 c4 c5 c6 c7 c8 c9 c10, l = [c0, c1, c2, c3, c4, c5, c6, c7, c8, c9, c10] := by
  match l, h with
  | [c0, c1, c2, c3, c4, c5, c6, c7, c8, c9, c10], _ => exact ⟨c0, c1, c2, c3, c4, c5, c6, c7, c8, c9, c10, rfl⟩
theorem Up.cellsD : Tryz.prog.cellsOf 30 = 11 := by kernel_rfl
theorem Up.cellsN : Tryz.prog.cellsOf 26 = 6 := by kernel_rfl
theorem Up.cellsR : Tryz.prog.cellsOf 24 = 3 := by kernel_rfl
theorem Up.cellsI : Tryz.prog.cellsOf 3 = 1 := by kernel_rfl
theorem Up.cellsO : Tryz.prog.cellsOf 4 = 1 := by kernel_rfl
theorem Up.cellsS : Tryz.prog.cellsOf 9 = 1 := by kernel_rfl
theorem Up.cells32 : Tryz.prog.cellsOf 22 = 1 := by kernel_rfl
theorem Up.cells8 : Tryz.prog.cellsOf 27 = 1 := by kernel_rfl
theorem Up.cellsL : Tryz.prog.cellsOf 28 = 1 := by kernel_rfl
set_option maxRecDepth 100000 in
theorem Up.rat {H : Type} {enc : TypeId × Value → H} {w : World} {base : Nat} {spare : Nat → Bool} {held : Bool} {fuel : Nat} {c0 c1 c2 : Value} {x : DataW H × List MemPlace} {N : Nat} (h : DataW.trod enc Tryz.prog w base spare held fuel 24 [c0, c1, c2] = some x) (hN : Rows.uptoBulk x.1 ≤ N) :
    ∃ (b : Bool) (t1 t2 : List Nat), c0 = .bool b ∧ Nt.In w c1 t1 ∧ Nt.In w c2 t2 ∧ Nt.Wd t1 ∧ Nt.Wd t2 ∧ t1.length ≤ N ∧ t2.length ≤ N := by
  obtain ⟨xs, n, _, hx, _, hlen, hf⟩ := DataW.trod_struct Tryz.underlying24 h
  obtain ⟨y0, y1, y2, rfl⟩ := Up.list3 hlen
  have hN2 : Rows.uptoBulkAll [y0.1, y1.1, y2.1] + 1 ≤ N := by rw [← Up.agg]; rw [hx] at hN; exact hN
  have m1 := Up.mem (l := [y0.1, y1.1, y2.1]) (d := y1.1) (by simp)
  have m2 := Up.mem (l := [y0.1, y1.1, y2.1]) (d := y2.1) (by simp)
  have h0 : DataW.trod enc Tryz.prog w base spare held n 4 (([c0, c1, c2].drop 0).take (Tryz.prog.cellsOf 4)) = some y0 := hf 0 _ rfl
  have h1 : DataW.trod enc Tryz.prog w base spare held n 22 (([c0, c1, c2].drop 1).take (Tryz.prog.cellsOf 22)) = some y1 := hf 1 _ rfl
  have h2 : DataW.trod enc Tryz.prog w base spare held n 22 (([c0, c1, c2].drop 2).take (Tryz.prog.cellsOf 22)) = some y2 := hf 2 _ rfl
  rw [Up.cellsO] at h0
  rw [Up.cells32] at h1 h2
  obtain ⟨b, e0, _⟩ := DataW.trod_bool Tryz.underlying4 h0
  obtain ⟨v1, w1, e1, i1, d1, l1⟩ := Up.words (N := N) h1 (by omega)
  obtain ⟨v2, w2, e2, i2, d2, l2⟩ := Up.words (N := N) h2 (by omega)
  simp only [List.drop_zero, List.take_succ_cons, List.take_zero, List.drop_succ_cons, List.cons.injEq, and_true] at e0 e1 e2
  subst e0 e1 e2
  exact ⟨b, w1, w2, rfl, i1, i2, d1, d2, l1, l2⟩
/-- A row of values, each of so many cells. -/
def Up.Row (w : World) (P : Nat → List Value → Prop) (sz : Nat) (b off len : Nat) : Prop := ∀ i, i < len → ∃ es : List Value, P i es ∧ es.length = sz ∧ ∀ j, j < sz → ∃ u, es[j]? = some u ∧ w.cell? ⟨b, off + i * sz + j, none⟩ = some u
set_option maxRecDepth 100000 in
theorem Up.datum {H : Type} {enc : TypeId × Value → H} {w : World} {base : Nat} {spare : Nat → Bool} {held : Bool} {N : Nat} (hN0 : N ≤ 1048576) : ∀ (fuel : Nat) (cs : List Value) (x : DataW H × List MemPlace), DataW.trod enc Tryz.prog w base spare held fuel 30 cs = some x → Rows.uptoBulk x.1 ≤ N →
    ∃ t C, cs = C.toList ∧ Tr.In w (fun _ => True) t (.agg C) ∧ Tr.txt t := by
  intro fuel
  induction fuel using Nat.strongRecOn with
  | ind fuel IH =>
    intro cs x h hN
    obtain ⟨xs, n, hfu, hx, hcl, hlen, hf⟩ := DataW.trod_struct Tryz.underlying30 h
    obtain ⟨y0, y1, y2, y3, y4, y5, rfl⟩ := Up.list6 hlen
    obtain ⟨c0, c1, c2, c3, c4, c5, c6, c7, c8, c9, c10, rfl⟩ := Up.list11 (hcl.trans Up.cellsD)
    have hN2 : Rows.uptoBulkAll [y0.1, y1.1, y2.1, y3.1, y4.1, y5.1] + 1 ≤ N := by rw [← Up.agg]; rw [hx] at hN; exact hN
    have m2 := Up.mem (l := [y0.1, y1.1, y2.1, y3.1, y4.1, y5.1]) (d := y2.1) (by simp)
    have m3 := Up.mem (l := [y0.1, y1.1, y2.1, y3.1, y4.1, y5.1]) (d := y3.1) (by simp)
    have m4 := Up.mem (l := [y0.1, y1.1, y2.1, y3.1, y4.1, y5.1]) (d := y4.1) (by simp)
    have m5 := Up.mem (l := [y0.1, y1.1, y2.1, y3.1, y4.1, y5.1]) (d := y5.1) (by simp)
    have h0 : DataW.trod enc Tryz.prog w base spare held n 3 (([c0, c1, c2, c3, c4, c5, c6, c7, c8, c9, c10].drop 0).take (Tryz.prog.cellsOf 3)) = some y0 := hf 0 _ rfl
    have h1 : DataW.trod enc Tryz.prog w base spare held n 3 (([c0, c1, c2, c3, c4, c5, c6, c7, c8, c9, c10].drop 1).take (Tryz.prog.cellsOf 3)) = some y1 := hf 1 _ rfl
    have h2 : DataW.trod enc Tryz.prog w base spare held n 26 (([c0, c1, c2, c3, c4, c5, c6, c7, c8, c9, c10].drop 2).take (Tryz.prog.cellsOf 26)) = some y2 := hf 2 _ rfl
    have h3 : DataW.trod enc Tryz.prog w base spare held n 9 (([c0, c1, c2, c3, c4, c5, c6, c7, c8, c9, c10].drop 8).take (Tryz.prog.cellsOf 9)) = some y3 := hf 3 _ rfl
    have h4 : DataW.trod enc Tryz.prog w base spare held n 27 (([c0, c1, c2, c3, c4, c5, c6, c7, c8, c9, c10].drop 9).take (Tryz.prog.cellsOf 27)) = some y4 := hf 4 _ rfl
    have h5 : DataW.trod enc Tryz.prog w base spare held n 28 (([c0, c1, c2, c3, c4, c5, c6, c7, c8, c9, c10].drop 10).take (Tryz.prog.cellsOf 28)) = some y5 := hf 5 _ rfl
    clear hf h
    rw [Up.cellsI] at h0 h1
    rw [Up.cellsN] at h2
    rw [Up.cellsS] at h3
    rw [Up.cells8] at h4
    rw [Up.cellsL] at h5
    obtain ⟨k, e0, _, wk⟩ := DataW.trod_int Tryz.underlying3 h0
    obtain ⟨m, e1, _, wm⟩ := DataW.trod_int Tryz.underlying3 h1
    obtain ⟨s, e3, hx3, hs⟩ := DataW.trod_string Tryz.underlying9 h3
    have hxs : s.size ≤ 1048576 := by
      have e8 : s.data.toList.length ≤ Rows.uptoBulk y3.1 := by rw [hx3]; simp only [Rows.uptoBulk]; omega
      have e9 : s.data.toList.length = s.size := Array.length_toList
      omega
    obtain ⟨v9, raw, e4, i9, l9⟩ := Up.bytes (N := N) h4 (by omega)
    have h2b : DataW.trod enc Tryz.prog w base spare held n 26 [c2, c3, c4, c5, c6, c7] = some y2 := h2
    obtain ⟨ys, n2, _, hx2, _, hlen2, hg⟩ := DataW.trod_struct Tryz.underlying26 h2b
    obtain ⟨z0, z1, rfl⟩ := Up.list2 hlen2
    have m2' : Rows.uptoBulk y2.1 ≤ N := by omega
    rw [hx2] at m2'
    have hN3 : Rows.uptoBulkAll [z0.1, z1.1] + 1 ≤ N := by
      rw [← Up.agg]
      exact m2'
    have p0 := Up.mem (l := [z0.1, z1.1]) (d := z0.1) (by simp)
    have p1 := Up.mem (l := [z0.1, z1.1]) (d := z1.1) (by simp)
    have g0 : DataW.trod enc Tryz.prog w base spare held n2 24 (([c2, c3, c4, c5, c6, c7].drop 0).take (Tryz.prog.cellsOf 24)) = some z0 := hg 0 _ rfl
    have g1 : DataW.trod enc Tryz.prog w base spare held n2 24 (([c2, c3, c4, c5, c6, c7].drop 3).take (Tryz.prog.cellsOf 24)) = some z1 := hg 1 _ rfl
    rw [Up.cellsR] at g0 g1
    obtain ⟨b1, t1, t2, rfl, j3, j4, w1, w2, l1, l2⟩ := Up.rat (N := N) (show DataW.trod enc Tryz.prog w base spare held n2 24 [c2, c3, c4] = some z0 from g0) (by omega)
    obtain ⟨b2, t3, t4, rfl, j6, j7, w3, w4, l3, l4⟩ := Up.rat (N := N) (show DataW.trod enc Tryz.prog w base spare held n2 24 [c5, c6, c7] = some z1 from g1) (by omega)
    simp only [List.drop_zero, List.take_succ_cons, List.take_zero, List.drop_succ_cons, List.cons.injEq, and_true] at e0 e1 e3 e4
    subst e0 e1 e3 e4
    have hlist : ∃ l, Tr.LIn w (fun _ => True) l c10 ∧ Tr.txtL l := by
      rcases Up.slice (N := N) Tryz.underlying28 Up.cellsD (by decide) h5 (by omega) with e | ⟨len, cap, n', hn', hl, hm, hle, hh⟩
      · simp only [List.drop_zero, List.take_succ_cons, List.take_zero, List.drop_succ_cons, List.cons.injEq, and_true] at e
        subst e
        exact ⟨[], .inl ⟨rfl, rfl⟩, Tr.txtL_nil⟩
      · rcases hh with ⟨_, a, e⟩ | ⟨hp, b, off, e, hb, hel⟩
        · simp only [List.drop_zero, List.take_succ_cons, List.take_zero, List.drop_succ_cons, List.cons.injEq, and_true] at e
          subst e
          exact ⟨[], .inr (.inl ⟨_, _, rfl, rfl⟩), Tr.txtL_nil⟩
        · simp only [List.drop_zero, List.take_succ_cons, List.take_zero, List.drop_succ_cons, List.cons.injEq, and_true] at e
          subst e
          obtain ⟨l, hl1, hl2⟩ := Up.choose (P := fun i t => ∃ C : Array Value, Tr.In w (fun _ => True) t (.agg C) ∧ Tr.Mem w b (off + i * 11) C ∧ Tr.txt t) len (fun i hi => by
            obtain ⟨y, es, hby, hd, hes, hcell⟩ := hel i hi
            obtain ⟨t, C, rfl, hI, hX⟩ := IH n' (by omega) es y hd hby
            exact ⟨t, C, hI, fun j hj => by
              obtain ⟨u, q1, q2⟩ := hcell j hj
              exact ⟨u, by rw [← Array.getElem?_toList]; exact q1, q2⟩, hX⟩)
          refine ⟨l, .inr (.inr ⟨by omega, b, off, cap, by rw [hl1], by omega, by simp only [maxLen] at hm; omega, hb, trivial, Tr.All.of l b off (fun k t hk => ?_)⟩), Tr.txtL_of (fun k t hk => by obtain ⟨C, _, _, q3⟩ := hl2 k t hk; exact q3)⟩
          obtain ⟨C, q1, q2, _⟩ := hl2 k t hk
          exact ⟨C, q1, by rw [Nat.mul_comm 11 k]; exact q2⟩
    obtain ⟨l, hL, hX⟩ := hlist
    simp only [Lit.wf, Bool.and_eq_true, decide_eq_true_eq] at wk wm
    have q1 : IntKind.min .i64 = -9223372036854775808 := rfl
    have q2 : IntKind.max .i64 = 9223372036854775807 := rfl
    refine ⟨.mk ⟨k, m, b1, t1, t2, b2, t3, t4, s, raw⟩ l, _, rfl, ?_, Tr.txt_mk.2 ⟨hxs, hX⟩⟩
    rw [Tr.In_mk]
    refine ⟨c3, c4, c6, c7, c9, c10, rfl, ⟨⟨by show (_ : Int) ≤ k; omega, by show k ≤ _; omega, by show (_ : Int) ≤ m; omega, by show m ≤ _; omega, w1, w2, w3, w4, by show t1.length ≤ _; omega, by show t2.length ≤ _; omega, by show t3.length ≤ _; omega, by show t4.length ≤ _; omega, hs, by show raw.size ≤ _; omega⟩, j3, j4, j6, j7, i9, fun _ _ _ _ _ _ => trivial, fun _ _ _ _ _ _ => trivial, fun _ _ _ _ _ _ => trivial, fun _ _ _ _ _ _ => trivial, fun _ _ _ _ _ _ => trivial⟩, hL⟩
end Go.Proofs.YtikmebkfdpbidaaGreatDoor
namespace Go.Proofs.YtikmebkfdpbidaaGreatDoor
open Go.RowKit Go.ChangeShapes Go.WideShapes
set_option linter.unusedVariables false
set_option linter.unusedSimpArgs false

theorem Wt.fitL_of : ∀ {l : List Tr}, (∀ (k : Nat) (t : Tr), l[k]? = some t → Wt.fit t) → Wt.fitL l
  | [], _ => Wt.fitL_nil
  | t :: ts, h => Wt.fitL_cons.2 ⟨h 0 t rfl, Wt.fitL_of (fun k u hk => h (k + 1) u (by simpa using hk))⟩
set_option maxRecDepth 100000 in
theorem Up.datumF {H : Type} {enc : TypeId × Value → H} {w : World} {base : Nat} {spare : Nat → Bool} {held : Bool} {N : Nat} (hN0 : N ≤ 1048576) : ∀ (fuel : Nat) (cs : List Value) (x : DataW H × List MemPlace), DataW.trod enc Tryz.prog w base spare held fuel 30 cs = some x → Rows.uptoBulk x.1 ≤ N →
    ∃ t C, cs = C.toList ∧ Tr.In w (fun _ => True) t (.agg C) ∧ Wt.fit t := by
  intro fuel
  induction fuel using Nat.strongRecOn with
  | ind fuel IH =>
    intro cs x h hN
    obtain ⟨xs, n, hfu, hx, hcl, hlen, hf⟩ := DataW.trod_struct Tryz.underlying30 h
    obtain ⟨y0, y1, y2, y3, y4, y5, rfl⟩ := Up.list6 hlen
    obtain ⟨c0, c1, c2, c3, c4, c5, c6, c7, c8, c9, c10, rfl⟩ := Up.list11 (hcl.trans Up.cellsD)
    have hN2 : Rows.uptoBulkAll [y0.1, y1.1, y2.1, y3.1, y4.1, y5.1] + 1 ≤ N := by rw [← Up.agg]; rw [hx] at hN; exact hN
    have m2 := Up.mem (l := [y0.1, y1.1, y2.1, y3.1, y4.1, y5.1]) (d := y2.1) (by simp)
    have m3 := Up.mem (l := [y0.1, y1.1, y2.1, y3.1, y4.1, y5.1]) (d := y3.1) (by simp)
    have m4 := Up.mem (l := [y0.1, y1.1, y2.1, y3.1, y4.1, y5.1]) (d := y4.1) (by simp)
    have m5 := Up.mem (l := [y0.1, y1.1, y2.1, y3.1, y4.1, y5.1]) (d := y5.1) (by simp)
    have h0 : DataW.trod enc Tryz.prog w base spare held n 3 (([c0, c1, c2, c3, c4, c5, c6, c7, c8, c9, c10].drop 0).take (Tryz.prog.cellsOf 3)) = some y0 := hf 0 _ rfl
    have h1 : DataW.trod enc Tryz.prog w base spare held n 3 (([c0, c1, c2, c3, c4, c5, c6, c7, c8, c9, c10].drop 1).take (Tryz.prog.cellsOf 3)) = some y1 := hf 1 _ rfl
    have h2 : DataW.trod enc Tryz.prog w base spare held n 26 (([c0, c1, c2, c3, c4, c5, c6, c7, c8, c9, c10].drop 2).take (Tryz.prog.cellsOf 26)) = some y2 := hf 2 _ rfl
    have h3 : DataW.trod enc Tryz.prog w base spare held n 9 (([c0, c1, c2, c3, c4, c5, c6, c7, c8, c9, c10].drop 8).take (Tryz.prog.cellsOf 9)) = some y3 := hf 3 _ rfl
    have h4 : DataW.trod enc Tryz.prog w base spare held n 27 (([c0, c1, c2, c3, c4, c5, c6, c7, c8, c9, c10].drop 9).take (Tryz.prog.cellsOf 27)) = some y4 := hf 4 _ rfl
    have h5 : DataW.trod enc Tryz.prog w base spare held n 28 (([c0, c1, c2, c3, c4, c5, c6, c7, c8, c9, c10].drop 10).take (Tryz.prog.cellsOf 28)) = some y5 := hf 5 _ rfl
    clear hf h
    rw [Up.cellsI] at h0 h1
    rw [Up.cellsN] at h2
    rw [Up.cellsS] at h3
    rw [Up.cells8] at h4
    rw [Up.cellsL] at h5
    obtain ⟨k, e0, _, wk⟩ := DataW.trod_int Tryz.underlying3 h0
    obtain ⟨m, e1, _, wm⟩ := DataW.trod_int Tryz.underlying3 h1
    obtain ⟨s, e3, hx3, hs⟩ := DataW.trod_string Tryz.underlying9 h3
    have hxs : s.size ≤ 1048576 := by
      have e8 : s.data.toList.length ≤ Rows.uptoBulk y3.1 := by rw [hx3]; simp only [Rows.uptoBulk]; omega
      have e9 : s.data.toList.length = s.size := Array.length_toList
      omega
    obtain ⟨v9, raw, e4, i9, l9⟩ := Up.bytes (N := N) h4 (by omega)
    have h2b : DataW.trod enc Tryz.prog w base spare held n 26 [c2, c3, c4, c5, c6, c7] = some y2 := h2
    obtain ⟨ys, n2, _, hx2, _, hlen2, hg⟩ := DataW.trod_struct Tryz.underlying26 h2b
    obtain ⟨z0, z1, rfl⟩ := Up.list2 hlen2
    have m2' : Rows.uptoBulk y2.1 ≤ N := by omega
    rw [hx2] at m2'
    have hN3 : Rows.uptoBulkAll [z0.1, z1.1] + 1 ≤ N := by
      rw [← Up.agg]
      exact m2'
    have p0 := Up.mem (l := [z0.1, z1.1]) (d := z0.1) (by simp)
    have p1 := Up.mem (l := [z0.1, z1.1]) (d := z1.1) (by simp)
    have g0 : DataW.trod enc Tryz.prog w base spare held n2 24 (([c2, c3, c4, c5, c6, c7].drop 0).take (Tryz.prog.cellsOf 24)) = some z0 := hg 0 _ rfl
    have g1 : DataW.trod enc Tryz.prog w base spare held n2 24 (([c2, c3, c4, c5, c6, c7].drop 3).take (Tryz.prog.cellsOf 24)) = some z1 := hg 1 _ rfl
    rw [Up.cellsR] at g0 g1
    obtain ⟨b1, t1, t2, rfl, j3, j4, w1, w2, l1, l2⟩ := Up.rat (N := N) (show DataW.trod enc Tryz.prog w base spare held n2 24 [c2, c3, c4] = some z0 from g0) (by omega)
    obtain ⟨b2, t3, t4, rfl, j6, j7, w3, w4, l3, l4⟩ := Up.rat (N := N) (show DataW.trod enc Tryz.prog w base spare held n2 24 [c5, c6, c7] = some z1 from g1) (by omega)
    simp only [List.drop_zero, List.take_succ_cons, List.take_zero, List.drop_succ_cons, List.cons.injEq, and_true] at e0 e1 e3 e4
    subst e0 e1 e3 e4
    have hlist : ∃ l, Tr.LIn w (fun _ => True) l c10 ∧ Wt.fitL l := by
      rcases Up.slice (N := N) Tryz.underlying28 Up.cellsD (by decide) h5 (by omega) with e | ⟨len, cap, n', hn', hl, hm, hle, hh⟩
      · simp only [List.drop_zero, List.take_succ_cons, List.take_zero, List.drop_succ_cons, List.cons.injEq, and_true] at e
        subst e
        exact ⟨[], .inl ⟨rfl, rfl⟩, Wt.fitL_nil⟩
      · rcases hh with ⟨_, a, e⟩ | ⟨hp, b, off, e, hb, hel⟩
        · simp only [List.drop_zero, List.take_succ_cons, List.take_zero, List.drop_succ_cons, List.cons.injEq, and_true] at e
          subst e
          exact ⟨[], .inr (.inl ⟨_, _, rfl, rfl⟩), Wt.fitL_nil⟩
        · simp only [List.drop_zero, List.take_succ_cons, List.take_zero, List.drop_succ_cons, List.cons.injEq, and_true] at e
          subst e
          obtain ⟨l, hl1, hl2⟩ := Up.choose (P := fun i t => ∃ C : Array Value, Tr.In w (fun _ => True) t (.agg C) ∧ Tr.Mem w b (off + i * 11) C ∧ Wt.fit t) len (fun i hi => by
            obtain ⟨y, es, hby, hd, hes, hcell⟩ := hel i hi
            obtain ⟨t, C, rfl, hI, hX⟩ := IH n' (by omega) es y hd hby
            exact ⟨t, C, hI, fun j hj => by
              obtain ⟨u, q1, q2⟩ := hcell j hj
              exact ⟨u, by rw [← Array.getElem?_toList]; exact q1, q2⟩, hX⟩)
          refine ⟨l, .inr (.inr ⟨by omega, b, off, cap, by rw [hl1], by omega, by simp only [maxLen] at hm; omega, hb, trivial, Tr.All.of l b off (fun k t hk => ?_)⟩), Wt.fitL_of (fun k t hk => by obtain ⟨C, _, _, q3⟩ := hl2 k t hk; exact q3)⟩
          obtain ⟨C, q1, q2, _⟩ := hl2 k t hk
          exact ⟨C, q1, by rw [Nat.mul_comm 11 k]; exact q2⟩
    obtain ⟨l, hL, hX⟩ := hlist
    simp only [Lit.wf, Bool.and_eq_true, decide_eq_true_eq] at wk wm
    have q1 : IntKind.min .i64 = -9223372036854775808 := rfl
    have q2 : IntKind.max .i64 = 9223372036854775807 := rfl
    refine ⟨.mk ⟨k, m, b1, t1, t2, b2, t3, t4, s, raw⟩ l, _, rfl, ?_, Wt.fit_mk.2 ⟨⟨hxs, by show raw.size ≤ _; omega⟩, hX⟩⟩
    rw [Tr.In_mk]
    refine ⟨c3, c4, c6, c7, c9, c10, rfl, ⟨⟨by show (_ : Int) ≤ k; omega, by show k ≤ _; omega, by show (_ : Int) ≤ m; omega, by show m ≤ _; omega, w1, w2, w3, w4, by show t1.length ≤ _; omega, by show t2.length ≤ _; omega, by show t3.length ≤ _; omega, by show t4.length ≤ _; omega, hs, by show raw.size ≤ _; omega⟩, j3, j4, j6, j7, i9, fun _ _ _ _ _ _ => trivial, fun _ _ _ _ _ _ => trivial, fun _ _ _ _ _ _ => trivial, fun _ _ _ _ _ _ => trivial, fun _ _ _ _ _ _ => trivial⟩, hL⟩
set_option maxRecDepth 100000 in
theorem Up.fitT {H : Type} {enc : TypeId × Value → H} {w : World} {base b0 : Nat} {r : Reach} {spare : Nat → Bool} {held : Bool} {N : Nat} {v : Value} {d : DataW H} {p : List MemPlace} (hN0 : N ≤ 1048576) (hv : Value.okWide Tryz.prog w r b0 30 v) (h : DataW.Trod enc Tryz.prog w base spare held 30 v d p) (hN : Rows.uptoBulk d ≤ N) : ∃ t, Tr.In w (fun _ => True) t v ∧ Wt.fit t := by
  obtain ⟨cs, rfl, hsz⟩ := okWide_struct Tryz.underlying30 hv
  obtain ⟨fuel, hf⟩ := h
  obtain ⟨t, C, e, h1, h2⟩ := Up.datumF hN0 fuel _ _ hf hN
  have e2 : cs = C := Array.toList_inj.1 (by simpa [Value.cells] using e)
  subst e2
  exact ⟨t, h1, h2⟩
end Go.Proofs.YtikmebkfdpbidaaGreatDoor
