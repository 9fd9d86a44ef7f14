/-
  Set of the first key of a table.
  Get in a table of one key.
  Texts and small data as keys; what the name of a key is asked of.
  Whole numbers as keys.
  The fixed fact of layer 13's laws: it is true.
  The reference's units, in plain Lean.
-/
import Derived.Deep.RegionHeld3
import Derived.Lib.DecodeN
import Derived.Laws.BitsLemmas
import Derived.Test.YtikmebkfdpbidaaGreatDoorTj
import Derived.Test.YtikmebkfdpbidaaGreatDoorTrCopyT
import Derived.Test.YtikmebkfdpbidaaGreatDoorTh
import Derived.Test.YtikmebkfdpbidaaGreatDoorTbName3T
import Derived.Test.YtikmebkfdpbidaaGreatDoorTc
namespace Go.Proofs.YtikmebkfdpbidaaGreatDoor
open Go.RowKit
set_option linter.unusedVariables false
set_option linter.unusedSimpArgs false

/-- The entry in block x: a key and a value. -/
def Tb.Ent (w : World) (x : Nat) (key val : Tr) : Prop := ∃ C CK CV, w.heap[x]? = some (.cells C 91 (0, 0)) ∧ (∀ j, j < 11 → C[j]? = CK[j]?) ∧ (∀ j, j < 11 → C[11 + j]? = CV[j]?) ∧ Tr.In w (fun _ => True) key (.agg CK) ∧ Tr.In w (fun _ => True) val (.agg CV)
/-- What the name of a key is asked of. -/
def Tb.Names (K : Int) (p : Nat) (last : Value) (mp : Value) (key : Tr) (more : List Tr) (nm : ByteArray) (er : Int) : Prop := ∀ (w : World) (vk vm : Value), Tr.In w (fun _ => True) key vk → Tb.More w vm more → w.heap[p]? = some (.cells #[.int .i64 K, last, mp] 84 (0, 0)) → Tr.Tabs w →
  Calls Tryz.prog 43 #[.pointer (some ⟨p, 0, none⟩), vk, vm] w fun e w' => e = .returned (.tuple #[.string nm, .int .i64 er]) ∧ Below w.heap.size w w'
set_option maxHeartbeats 2000000 in
set_option maxRecDepth 1000000 in
theorem Tb.Set_one (K : Int) (p r : Nat) (key val : Tr) (nm : ByteArray) (vk vv : Value) (w : World) (hp : w.heap[p]? = some (.cells #[.int .i64 K, .int .i64 0, .map (some r)] 84 (0, 0))) (hr : w.heap[r]? = some (.map #[] 0))
    (hk : Tr.In w (fun _ => True) key vk) (hv : Tr.In w (fun _ => True) val vv) (hsk : Tr.sound key = true) (hsv : Tr.sound val = true) (hT : Tr.Tabs w) (KN : Tb.Names K p (.int .i64 0) (.map (some r)) key [val] nm 0) :
    Calls Tryz.prog 16 #[.pointer (some ⟨p, 0, none⟩), vk, vv] w fun e w' => e = .returned (.int .i64 0) ∧ (∃ x, w'.heap[r]? = some (.map #[{ key := .string nm, val := .pointer (some ⟨x, 0, none⟩), born := 0 }] 1) ∧ Tb.Ent w' x key val) ∧ w'.heap[p]? = some (.cells #[.int .i64 K, .int .i64 1, .map (some r)] 84 (0, 0)) ∧
      (∀ q, q < w.heap.size → q ≠ p → q ≠ r → w'.heap[q]? = w.heap[q]?) ∧ Below (min p r) w w' := by
  obtain ⟨CK, rfl⟩ := hk.agg
  obtain ⟨CV, rfl⟩ := hv.agg
  have hpl : p < w.heap.size := (Array.getElem?_eq_some_iff.1 hp).1
  have hrl : r < w.heap.size := (Array.getElem?_eq_some_iff.1 hr).1
  have hpr : p ≠ r := fun e => by subst e; rw [hp] at hr; cases hr
  obtain ⟨he, le, ka3, ka4, ka6, ka7, ka9, ka10, kn3, kn4, kn6, kn7, kn9, kn10, kc3, kc4, kc6, kc7, kc9, kc10, eCk, etk1, etk2, etk3⟩ := Tr.In.form2 hk
  obtain ⟨hf, lf, va3, va4, va6, va7, va9, va10, vn3, vn4, vn6, vn7, vn9, vn10, vc3, vc4, vc6, vc7, vc9, vc10, eCv, etv1, etv2, etv3⟩ := Tr.In.form2 hv
  subst eCk
  subst eCv
  unfold Tr.cells at *
  obtain ⟨W3, hW3, h0, h1, h2, hz3, hb3⟩ := Rt.three w (.cells #[.int .i64 he.k, .int .i64 he.n, .bool he.s1, .slice ka3 kn3 kc3, .slice ka4 kn4 kc4, .bool he.s2, .slice ka6 kn6 kc6, .slice ka7 kn7 kc7, .string he.x, .slice ka9 kn9 kc9, .slice ka10 kn10 kc10] 30) (.cells #[.int .i64 hf.k, .int .i64 hf.n, .bool hf.s1, .slice va3 vn3 vc3, .slice va4 vn4 vc4, .bool hf.s2, .slice va6 vn6 vc6, .slice va7 vn7 vc7, .string hf.x, .slice va9 vn9 vc9, .slice va10 vn10 vc10] 30) (.cells #[.int .i64 hf.k, .int .i64 hf.n, .bool hf.s1, .slice va3 vn3 vc3, .slice va4 vn4 vc4, .bool hf.s2, .slice va6 vn6 vc6, .slice va7 vn7 vc7, .string hf.x, .slice va9 vn9 vc9, .slice va10 vn10 vc10] 30)
  have hp3 := (hb3.block p hpl).trans hp
  have hr3 := (hb3.block r hrl).trans hr
  have KNN := KN W3 _ _ (Tr.In.below hk hb3 (Nat.le_refl _)) (Tb.More.one h2 (Tr.In.below hv hb3 (Nat.le_refl _))) hp3 (hT.below hb3)
  have HI := Lib.hid (And.intro hk hv)
  have HSD := Lib.hid (And.intro hsk hsv)
  have HB3 := Lib.hid hb3
  have H012 := Lib.hid (And.intro h0 (And.intro h1 hz3))
  have HPR := Lib.hid (And.intro hp3 hr3)
  obtain ⟨e0, e1, e2, e3, e4, e5, e6, e7, e8, e9, e10⟩ := Dt.cells11 h0
  obtain ⟨f0, f1, f2, f3, f4, f5, f6, f7, f8, f9, f10⟩ := Dt.cells11 h1
  clear hk hv hsk hsv hT KN hp hr h0 h1 h2 hb3 hp3 hr3 etk1 etk2 etk3 etv1 etv2 etv3
  go_enter Tryz.func16, Tryz.ntmps16
  go_wp2_with fail
  refine KNN.mono ?_
  rintro x w1 ⟨rfl, hb1⟩
  have qp := (hb1.block p (by have := HB3.out.size; omega)).trans HPR.out.1
  have qr := (hb1.block r (by have := HB3.out.size; omega)).trans HPR.out.2
  have q0 := (hb1.block w.heap.size (by have := H012.out.2.2; omega)).trans H012.out.1
  have q1 := (hb1.block (w.heap.size + 1) (by have := H012.out.2.2; omega)).trans H012.out.2.1
  have HB1 := Lib.hid (HB3.out.trans (hb1.mono HB3.out.size))
  clear hb1 KNN hW3 hz3 e0 e1 e2 e3 e4 e5 e6 e7 e8 e9 e10 f0 f1 f2 f3 f4 f5 f6 f7 f8 f9 f10
  have p0 := Rt.cell_of qp 0
  have p1 : w1.cell? ⟨p, 1, none⟩ = some (.int .i64 0) := Rt.cell_of qp 1
  have p2 : w1.cell? ⟨p, 2, none⟩ = some (.map (some r)) := Rt.cell_of qp 2
  have z1 := Rt.frozen_of qp 1
  have hlk := Tb.lookup_empty w1 r 0 nm qr
  have hln := fun ty => Tb.len_map w1 r 0 #[] ty qr
  have qp2 : (w1.setCell ⟨p, 1, none⟩ (.int .i64 1)).heap[p]? = some (.cells #[.int .i64 K, .int .i64 1, .map (some r)] 84 (0, 0)) := Rt.setCells qp 1 (.int .i64 1)
  obtain ⟨W1, hW1⟩ : ∃ W, w1.setCell ⟨p, 1, none⟩ (.int .i64 1) = W := ⟨_, rfl⟩
  have hne : ∀ b, b ≠ p → W1.heap[b]? = w1.heap[b]? := fun b hb => by rw [← hW1]; exact Below.heap_setCell w1 ⟨p, 1, none⟩ _ b hb
  have hbW : Below (min p r) w1 W1 := by rw [← hW1]; exact (Below.refl _ _).setCell (p := ⟨p, 1, none⟩) (Nat.min_le_left p r) _
  have hzW : W1.heap.size = w1.heap.size := by rw [← hW1]; simp
  rw [hW1] at qp2
  have l0 : w.heap.size < w1.heap.size := (Array.getElem?_eq_some_iff.1 q0).1
  have l1 : w.heap.size + 1 < w1.heap.size := (Array.getElem?_eq_some_iff.1 q1).1
  have HBW := Lib.hid ((HB1.out.mono (by omega : min p r ≤ w.heap.size)).trans hbW)
  have HIW : Hid (Tr.In W1 (fun _ => True) key (.agg #[.int .i64 he.k, .int .i64 he.n, .bool he.s1, .slice ka3 kn3 kc3, .slice ka4 kn4 kc4, .bool he.s2, .slice ka6 kn6 kc6, .slice ka7 kn7 kc7, .string he.x, .slice ka9 kn9 kc9, .slice ka10 kn10 kc10]) ∧ Tr.In W1 (fun _ => True) val (.agg #[.int .i64 hf.k, .int .i64 hf.n, .bool hf.s1, .slice va3 vn3 vc3, .slice va4 vn4 vc4, .bool hf.s2, .slice va6 vn6 vc6, .slice va7 vn7 vc7, .string hf.x, .slice va9 vn9 vc9, .slice va10 vn10 vc10])) := Lib.hid ⟨Tr.In.tab (Tr.In.below HI.out.1 HB1.out (Nat.le_refl _)) (Tb.NoData.table qp) (Tb.NoData.map qr) (by omega) (fun q _ hq _ => hne q hq), Tr.In.tab (Tr.In.below HI.out.2 HB1.out (Nat.le_refl _)) (Tb.NoData.table qp) (Tb.NoData.map qr) (by omega) (fun q _ hq _ => hne q hq)⟩
  have QR := Lib.hid ((hne r (fun e => hpr e.symm)).trans qr)
  have QP := Lib.hid qp2
  have QX0 := (hne w.heap.size (by omega)).trans q0
  have QX1 := (hne (w.heap.size + 1) (by omega)).trans q1
  have HOLD : Hid (∀ q, q < w.heap.size → q ≠ p → W1.heap[q]? = w.heap[q]?) := Lib.hid (fun q hq hqp => (hne q hqp).trans (HB1.out.block q hq))
  have lr : r < W1.heap.size := by omega
  have HSZ : Hid (w.heap.size + 1 < W1.heap.size ∧ p < W1.heap.size ∧ w.heap.size ≠ r ∧ w.heap.size + 1 ≠ r) := Lib.hid ⟨by omega, by omega, by omega, by omega⟩
  have HS : Hid (∀ w' : World, (∀ q, q < W1.heap.size → q ≠ r → w'.heap[q]? = W1.heap[q]?) → w'.cell? ⟨w.heap.size, 0, none⟩ = some (.int .i64 he.k) ∧ w'.cell? ⟨w.heap.size, 1, none⟩ = some (.int .i64 he.n) ∧ w'.cell? ⟨w.heap.size, 2, none⟩ = some (.bool he.s1) ∧ w'.cell? ⟨w.heap.size, 3, none⟩ = some (.slice ka3 kn3 kc3) ∧ w'.cell? ⟨w.heap.size, 4, none⟩ = some (.slice ka4 kn4 kc4) ∧ w'.cell? ⟨w.heap.size, 5, none⟩ = some (.bool he.s2) ∧ w'.cell? ⟨w.heap.size, 6, none⟩ = some (.slice ka6 kn6 kc6) ∧ w'.cell? ⟨w.heap.size, 7, none⟩ = some (.slice ka7 kn7 kc7) ∧ w'.cell? ⟨w.heap.size, 8, none⟩ = some (.string he.x) ∧ w'.cell? ⟨w.heap.size, 9, none⟩ = some (.slice ka9 kn9 kc9) ∧ w'.cell? ⟨w.heap.size, 10, none⟩ = some (.slice ka10 kn10 kc10) ∧ w'.cell? ⟨w.heap.size + 1, 0, none⟩ = some (.int .i64 hf.k) ∧ w'.cell? ⟨w.heap.size + 1, 1, none⟩ = some (.int .i64 hf.n) ∧ w'.cell? ⟨w.heap.size + 1, 2, none⟩ = some (.bool hf.s1) ∧ w'.cell? ⟨w.heap.size + 1, 3, none⟩ = some (.slice va3 vn3 vc3) ∧ w'.cell? ⟨w.heap.size + 1, 4, none⟩ = some (.slice va4 vn4 vc4) ∧ w'.cell? ⟨w.heap.size + 1, 5, none⟩ = some (.bool hf.s2) ∧ w'.cell? ⟨w.heap.size + 1, 6, none⟩ = some (.slice va6 vn6 vc6) ∧ w'.cell? ⟨w.heap.size + 1, 7, none⟩ = some (.slice va7 vn7 vc7) ∧ w'.cell? ⟨w.heap.size + 1, 8, none⟩ = some (.string hf.x) ∧ w'.cell? ⟨w.heap.size + 1, 9, none⟩ = some (.slice va9 vn9 vc9) ∧ w'.cell? ⟨w.heap.size + 1, 10, none⟩ = some (.slice va10 vn10 vc10) ∧ w'.cell? ⟨p, 1, none⟩ = some (.int .i64 1) ∧ w'.cell? ⟨p, 2, none⟩ = some (.map (some r))) := Lib.hid (fun w' hq => by
    obtain ⟨e0, e1, e2, e3, e4, e5, e6, e7, e8, e9, e10⟩ := Dt.cells11 ((hq w.heap.size (by have := HSZ.out.1; omega) HSZ.out.2.2.1).trans QX0)
    obtain ⟨f0, f1, f2, f3, f4, f5, f6, f7, f8, f9, f10⟩ := Dt.cells11 ((hq (w.heap.size + 1) HSZ.out.1 HSZ.out.2.2.2).trans QX1)
    have g := (hq p HSZ.out.2.1 hpr).trans QP.out
    exact ⟨e0, e1, e2, e3, e4, e5, e6, e7, e8, e9, e10, f0, f1, f2, f3, f4, f5, f6, f7, f8, f9, f10, Rt.cell_of g 1, Rt.cell_of g 2⟩)
  have KCkey : Hid (∀ w', Below W1.heap.size W1 w' → Calls Tryz.prog 44 #[.agg #[.int .i64 he.k, .int .i64 he.n, .bool he.s1, .slice ka3 kn3 kc3, .slice ka4 kn4 kc4, .bool he.s2, .slice ka6 kn6 kc6, .slice ka7 kn7 kc7, .string he.x, .slice ka9 kn9 kc9, .slice ka10 kn10 kc10]] w' fun e w'' => ∃ C, e = .returned (.agg C) ∧ Tr.In w'' (fun q => w'.heap.size ≤ q) key (.agg C) ∧ Below w'.heap.size w' w'') := Lib.hid (fun w' hb => Tr.Copy_any key _ _ w' (Tr.In.below HIW.out.1 hb (Nat.le_refl _)) HSD.out.1)
  have KCval : Hid (∀ w', Below W1.heap.size W1 w' → Calls Tryz.prog 44 #[.agg #[.int .i64 hf.k, .int .i64 hf.n, .bool hf.s1, .slice va3 vn3 vc3, .slice va4 vn4 vc4, .bool hf.s2, .slice va6 vn6 vc6, .slice va7 vn7 vc7, .string hf.x, .slice va9 vn9 vc9, .slice va10 vn10 vc10]] w' fun e w'' => ∃ C, e = .returned (.agg C) ∧ Tr.In w'' (fun q => w'.heap.size ≤ q) val (.agg C) ∧ Below w'.heap.size w' w'') := Lib.hid (fun w' hb => Tr.Copy_any val _ _ w' (Tr.In.below HIW.out.2 hb (Nat.le_refl _)) HSD.out.2)
  clear q0 q1 qr hne hbW hzW l0 l1 QX0 QX1 qp qp2
  go_upto_region 11 with fail
  have hacc : Below W1.heap.size W1 W1.drew := (Below.refl _ _).drew
  have hkeep := HS.out _ (fun q hq hr => hacc.block q hq)
  clear hlk hln p0 p1 p2 z1
  go_region_held3 (fun w' => w'.cell? ⟨w.heap.size, 0, none⟩ = some (.int .i64 he.k) ∧ w'.cell? ⟨w.heap.size, 1, none⟩ = some (.int .i64 he.n) ∧ w'.cell? ⟨w.heap.size, 2, none⟩ = some (.bool he.s1) ∧ w'.cell? ⟨w.heap.size, 3, none⟩ = some (.slice ka3 kn3 kc3) ∧ w'.cell? ⟨w.heap.size, 4, none⟩ = some (.slice ka4 kn4 kc4) ∧ w'.cell? ⟨w.heap.size, 5, none⟩ = some (.bool he.s2) ∧ w'.cell? ⟨w.heap.size, 6, none⟩ = some (.slice ka6 kn6 kc6) ∧ w'.cell? ⟨w.heap.size, 7, none⟩ = some (.slice ka7 kn7 kc7) ∧ w'.cell? ⟨w.heap.size, 8, none⟩ = some (.string he.x) ∧ w'.cell? ⟨w.heap.size, 9, none⟩ = some (.slice ka9 kn9 kc9) ∧ w'.cell? ⟨w.heap.size, 10, none⟩ = some (.slice ka10 kn10 kc10) ∧ w'.cell? ⟨w.heap.size + 1, 0, none⟩ = some (.int .i64 hf.k) ∧ w'.cell? ⟨w.heap.size + 1, 1, none⟩ = some (.int .i64 hf.n) ∧ w'.cell? ⟨w.heap.size + 1, 2, none⟩ = some (.bool hf.s1) ∧ w'.cell? ⟨w.heap.size + 1, 3, none⟩ = some (.slice va3 vn3 vc3) ∧ w'.cell? ⟨w.heap.size + 1, 4, none⟩ = some (.slice va4 vn4 vc4) ∧ w'.cell? ⟨w.heap.size + 1, 5, none⟩ = some (.bool hf.s2) ∧ w'.cell? ⟨w.heap.size + 1, 6, none⟩ = some (.slice va6 vn6 vc6) ∧ w'.cell? ⟨w.heap.size + 1, 7, none⟩ = some (.slice va7 vn7 vc7) ∧ w'.cell? ⟨w.heap.size + 1, 8, none⟩ = some (.string hf.x) ∧ w'.cell? ⟨w.heap.size + 1, 9, none⟩ = some (.slice va9 vn9 vc9) ∧ w'.cell? ⟨w.heap.size + 1, 10, none⟩ = some (.slice va10 vn10 vc10) ∧ w'.cell? ⟨p, 1, none⟩ = some (.int .i64 1) ∧ w'.cell? ⟨p, 2, none⟩ = some (.map (some r)))
    (first | exact hkeep | exact hkeepA _ | exact hkeepU _)
    (first
      | (go_at_call_of 44 (Value.agg #[.int .i64 he.k, .int .i64 he.n, .bool he.s1, .slice ka3 kn3 kc3, .slice ka4 kn4 kc4, .bool he.s2, .slice ka6 kn6 kc6, .slice ka7 kn7 kc7, .string he.x, .slice ka9 kn9 kc9, .slice ka10 kn10 kc10])
         refine (KCkey.out _ hacc).mono ?_
         rintro x wA ⟨CA, rfl, hICA, hby⟩
         obtain ⟨hA, lA, xa3, xa4, xa6, xa7, xa9, xa10, xn3, xn4, xn6, xn7, xn9, xn10, xc3, xc4, xc6, xc7, xc9, xc10, eCA, et1, et2, et3⟩ := Tr.In.form2 hICA
         clear et1 et2 et3
         have e9 : CA = #[.int .i64 hA.k, .int .i64 hA.n, .bool hA.s1, .slice xa3 xn3 xc3, .slice xa4 xn4 xc4, .bool hA.s2, .slice xa6 xn6 xc6, .slice xa7 xn7 xc7, .string hA.x, .slice xa9 xn9 xc9, .slice xa10 xn10 xc10] := eCA
         clear eCA
         subst e9
         have HCA := Lib.hid (Tr.In.mono (S' := fun q => W1.heap.size ≤ q) (fun q hq => Nat.le_trans hacc.size hq) _ _ hICA)
         try have HCB := Lib.hid (Tr.In.below HCB.out hby (Nat.le_refl _))
         have hacc := hacc.trans (hby.mono hacc.size)
         clear hICA hby
         have hkeep := HS.out _ (fun q hq hr => hacc.block q hq)
         have hU := fun o => Tb.fin W1 wA o nm r hacc lr
         have hmu : ∀ o, (Instr.mapUpdate 82 (.map (some r)) (.string nm) (.pointer (some ⟨wA.heap.size, 0, none⟩))).run Tryz.prog (wA.alloc o) = .ok () (Tb.upd (wA.alloc o) r nm wA.heap.size) := fun o => Tb.update_first _ r 0 nm _ ((Lib.alloc_old _ _ _ (Nat.lt_of_lt_of_le lr hacc.size)).trans ((hacc.block r lr).trans QR.out))
         have hkeepA := fun o => HS.out (wA.alloc o) (fun q hq hr => (hacc.alloc hacc.size o).block q hq)
         have hkeepU := fun o => HS.out (Tb.upd (wA.alloc o) r nm wA.heap.size) (fun q hq hr => ((hU o).2.2.1 q hr (Nat.lt_of_lt_of_le hq hacc.size)).trans (hacc.block q hq))
         have HFIN := Lib.hid (And.intro hacc hU))
      | (go_at_call_of 44 (Value.agg #[.int .i64 hf.k, .int .i64 hf.n, .bool hf.s1, .slice va3 vn3 vc3, .slice va4 vn4 vc4, .bool hf.s2, .slice va6 vn6 vc6, .slice va7 vn7 vc7, .string hf.x, .slice va9 vn9 vc9, .slice va10 vn10 vc10])
         refine (KCval.out _ hacc).mono ?_
         rintro x wB ⟨CB, rfl, hICB, hby⟩
         obtain ⟨hB, lB, za3, za4, za6, za7, za9, za10, zn3, zn4, zn6, zn7, zn9, zn10, zc3, zc4, zc6, zc7, zc9, zc10, eCB, et1, et2, et3⟩ := Tr.In.form2 hICB
         clear et1 et2 et3
         have e9 : CB = #[.int .i64 hB.k, .int .i64 hB.n, .bool hB.s1, .slice za3 zn3 zc3, .slice za4 zn4 zc4, .bool hB.s2, .slice za6 zn6 zc6, .slice za7 zn7 zc7, .string hB.x, .slice za9 zn9 zc9, .slice za10 zn10 zc10] := eCB
         clear eCB
         subst e9
         have HCB := Lib.hid (Tr.In.mono (S' := fun q => W1.heap.size ≤ q) (fun q hq => Nat.le_trans hacc.size hq) _ _ hICB)
         try have HCA := Lib.hid (Tr.In.below HCA.out hby (Nat.le_refl _))
         have hacc := hacc.trans (hby.mono hacc.size)
         clear hICB hby
         have hkeep := HS.out _ (fun q hq hr => hacc.block q hq)
         have hU := fun o => Tb.fin W1 wB o nm r hacc lr
         have hmu : ∀ o, (Instr.mapUpdate 82 (.map (some r)) (.string nm) (.pointer (some ⟨wB.heap.size, 0, none⟩))).run Tryz.prog (wB.alloc o) = .ok () (Tb.upd (wB.alloc o) r nm wB.heap.size) := fun o => Tb.update_first _ r 0 nm _ ((Lib.alloc_old _ _ _ (Nat.lt_of_lt_of_le lr hacc.size)).trans ((hacc.block r lr).trans QR.out))
         have hkeepA := fun o => HS.out (wB.alloc o) (fun q hq hr => (hacc.alloc hacc.size o).block q hq)
         have hkeepU := fun o => HS.out (Tb.upd (wB.alloc o) r nm wB.heap.size) (fun q hq hr => ((hU o).2.2.1 q hr (Nat.lt_of_lt_of_le hq hacc.size)).trans (hacc.block q hq))
         have HFIN := Lib.hid (And.intro hacc hU)))
  all_goals
    clear hkeep hkeepA hkeepU hmu hU hacc
    go_wp2_with fail
    go_ret
    refine ⟨rfl, ⟨_, (HFIN.out.2 _).1, _, #[.int .i64 hA.k, .int .i64 hA.n, .bool hA.s1, .slice xa3 xn3 xc3, .slice xa4 xn4 xc4, .bool hA.s2, .slice xa6 xn6 xc6, .slice xa7 xn7 xc7, .string hA.x, .slice xa9 xn9 xc9, .slice xa10 xn10 xc10], #[.int .i64 hB.k, .int .i64 hB.n, .bool hB.s1, .slice za3 zn3 zc3, .slice za4 zn4 zc4, .bool hB.s2, .slice za6 zn6 zc6, .slice za7 zn7 zc7, .string hB.x, .slice za9 zn9 zc9, .slice za10 zn10 zc10], (HFIN.out.2 _).2.1, fun j hj => ?_, fun j hj => ?_, ?_, ?_⟩, ((HFIN.out.2 _).2.2.1 p hpr (Nat.lt_of_lt_of_le HSZ.out.2.1 HFIN.out.1.size)).trans ((HFIN.out.1.block p HSZ.out.2.1).trans QP.out), fun q hq hqp hqr => ((HFIN.out.2 _).2.2.1 q hqr (by have := HSZ.out.1; have := HFIN.out.1.size; omega)).trans ((HFIN.out.1.block q (by have := HSZ.out.1; omega)).trans (HOLD.out q hq hqp)), (HFIN.out.2 _).2.2.2.2 _ _ HBW.out (Nat.min_le_right p r) (by omega)⟩
    · match j, hj with
      | 0, _ => rfl | 1, _ => rfl | 2, _ => rfl | 3, _ => rfl | 4, _ => rfl | 5, _ => rfl | 6, _ => rfl | 7, _ => rfl | 8, _ => rfl | 9, _ => rfl | 10, _ => rfl | n + 11, h => omega
    · match j, hj with
      | 0, _ => rfl | 1, _ => rfl | 2, _ => rfl | 3, _ => rfl | 4, _ => rfl | 5, _ => rfl | 6, _ => rfl | 7, _ => rfl | 8, _ => rfl | 9, _ => rfl | 10, _ => rfl | n + 11, h => omega
    · exact Tr.In.mono (fun _ _ => trivial) _ _ (Tr.In.kept (S := fun q => W1.heap.size ≤ q) ⟨(HFIN.out.2 _).2.2.2.1, fun q hq hl => (HFIN.out.2 _).2.2.1 q (fun e => by have : W1.heap.size ≤ q := hq; omega) hl⟩ _ _ HCA.out)
    · exact Tr.In.mono (fun _ _ => trivial) _ _ (Tr.In.kept (S := fun q => W1.heap.size ≤ q) ⟨(HFIN.out.2 _).2.2.2.1, fun q hq hl => (HFIN.out.2 _).2.2.1 q (fun e => by have : W1.heap.size ≤ q := hq; omega) hl⟩ _ _ HCB.out)
end Go.Proofs.YtikmebkfdpbidaaGreatDoor
namespace Go.Proofs.YtikmebkfdpbidaaGreatDoor
open Go.RowKit
set_option linter.unusedVariables false
set_option linter.unusedSimpArgs false

set_option maxHeartbeats 2000000 in
set_option maxRecDepth 1000000 in
theorem Tb.Get_found (K : Int) (p r x : Nat) (last : Value) (key key0 val : Tr) (nm : ByteArray) (hnm : (nm == nm) = true) (vk : Value) (w : World) (hp : w.heap[p]? = some (.cells #[.int .i64 K, last, .map (some r)] 84 (0, 0))) (hr : w.heap[r]? = some (.map #[{ key := .string nm, val := .pointer (some ⟨x, 0, none⟩), born := 0 }] 1))
    (hE : Tb.Ent w x key0 val) (hk : Tr.In w (fun _ => True) key vk) (hsv : Tr.sound val = true) (hT : Tr.Tabs w) (KN : Tb.Names K p last (.map (some r)) key [] nm 0) :
    Calls Tryz.prog 17 #[.pointer (some ⟨p, 0, none⟩), vk] w fun e w' => ∃ v', e = .returned (.tuple #[v', .int .i64 0]) ∧ Tr.In w' (fun _ => True) val v' ∧ Below w.heap.size w w' := by
  have hrl : r < w.heap.size := (Array.getElem?_eq_some_iff.1 hr).1
  obtain ⟨C, CK0, CV, hx, hcK, hcV, hI0, hIv⟩ := hE
  have hxl : x < w.heap.size := (Array.getElem?_eq_some_iff.1 hx).1
  have hs11 := hIv.size11
  obtain ⟨hf, lf, va3, va4, va6, va7, va9, va10, vn3, vn4, vn6, vn7, vn9, vn10, vc3, vc4, vc6, vc7, vc9, vc10, eCv, etv1, etv2, etv3⟩ := Tr.In.form2 hIv
  have eC3 : CV = #[.int .i64 hf.k, .int .i64 hf.n, .bool hf.s1, .slice va3 vn3 vc3, .slice va4 vn4 vc4, .bool hf.s2, .slice va6 vn6 vc6, .slice va7 vn7 vc7, .string hf.x, .slice va9 vn9 vc9, .slice va10 vn10 vc10] := eCv
  clear eCv
  subst eC3
  obtain ⟨CK, rfl⟩ := hk.agg
  have hpl : p < w.heap.size := (Array.getElem?_eq_some_iff.1 hp).1
  obtain ⟨he, le, ka3, ka4, ka6, ka7, ka9, ka10, kn3, kn4, kn6, kn7, kn9, kn10, kc3, kc4, kc6, kc7, kc9, kc10, eCk, etk1, etk2, etk3⟩ := Tr.In.form2 hk
  have eC2 : CK = #[.int .i64 he.k, .int .i64 he.n, .bool he.s1, .slice ka3 kn3 kc3, .slice ka4 kn4 kc4, .bool he.s2, .slice ka6 kn6 kc6, .slice ka7 kn7 kc7, .string he.x, .slice ka9 kn9 kc9, .slice ka10 kn10 kc10] := eCk
  clear eCk
  subst eC2
  obtain ⟨n0, n1, n2, n3⟩ := Sm.two w (.cells #[.int .i64 he.k, .int .i64 he.n, .bool he.s1, .slice ka3 kn3 kc3, .slice ka4 kn4 kc4, .bool he.s2, .slice ka6 kn6 kc6, .slice ka7 kn7 kc7, .string he.x, .slice ka9 kn9 kc9, .slice ka10 kn10 kc10] 30) (.cells #[.int .i64 0, .int .i64 0, .bool false, .slice none 0 0, .slice none 0 0, .bool false, .slice none 0 0, .slice none 0 0, .string ⟨#[]⟩, .slice none 0 0, .slice none 0 0] 30)
  have KNN := KN _ _ _ (Tr.In.below hk n3 (Nat.le_refl _)) (Tb.More.nil _) ((n3.block p hpl).trans hp) (hT.below n3)
  have HN := Lib.hid (And.intro n1 (And.intro n2 n3))
  have HC := Lib.hid hcV
  have HX := Lib.hid (And.intro hp (And.intro hr hx))
  have HIV := Lib.hid (And.intro hIv hsv)
  clear hp hr hx hcK hcV hI0 hIv hk hsv hT KN n0 n1 n2 n3 hs11 etk1 etk2 etk3 etv1 etv2 etv3
  go_enter Tryz.func17, Tryz.ntmps17
  go_wp2_with fail
  refine KNN.mono ?_
  rintro y w1 ⟨rfl, hb1⟩
  have hbw := HN.out.2.2.trans (hb1.mono HN.out.2.2.size)
  have qp := (hbw.block p hpl).trans HX.out.1
  have qr := (hbw.block r hrl).trans HX.out.2.1
  have qx := (hbw.block x hxl).trans HX.out.2.2
  have q1 := (hb1.block (w.heap.size + 1) (by have := HN.out.2.1; omega)).trans HN.out.1
  have Q1 := Lib.hid q1
  have HB1 := Lib.hid hbw
  have p2 : w1.cell? ⟨p, 2, none⟩ = some (.map (some r)) := Rt.cell_of qp 2
  have hlk := Tb.lookup_one w1 r 1 0 nm (.pointer (some ⟨x, 0, none⟩)) hnm qr
  have d0 : w1.cell? ⟨x, 11, none⟩ = some (.int .i64 hf.k) := (Rt.cell_of qx 11).trans (HC.out 0 (by decide))
  have d1 : w1.cell? ⟨x, 12, none⟩ = some (.int .i64 hf.n) := (Rt.cell_of qx 12).trans (HC.out 1 (by decide))
  have d2 : w1.cell? ⟨x, 13, none⟩ = some (.bool hf.s1) := (Rt.cell_of qx 13).trans (HC.out 2 (by decide))
  have d3 : w1.cell? ⟨x, 14, none⟩ = some (.slice va3 vn3 vc3) := (Rt.cell_of qx 14).trans (HC.out 3 (by decide))
  have d4 : w1.cell? ⟨x, 15, none⟩ = some (.slice va4 vn4 vc4) := (Rt.cell_of qx 15).trans (HC.out 4 (by decide))
  have d5 : w1.cell? ⟨x, 16, none⟩ = some (.bool hf.s2) := (Rt.cell_of qx 16).trans (HC.out 5 (by decide))
  have d6 : w1.cell? ⟨x, 17, none⟩ = some (.slice va6 vn6 vc6) := (Rt.cell_of qx 17).trans (HC.out 6 (by decide))
  have d7 : w1.cell? ⟨x, 18, none⟩ = some (.slice va7 vn7 vc7) := (Rt.cell_of qx 18).trans (HC.out 7 (by decide))
  have d8 : w1.cell? ⟨x, 19, none⟩ = some (.string hf.x) := (Rt.cell_of qx 19).trans (HC.out 8 (by decide))
  have d9 : w1.cell? ⟨x, 20, none⟩ = some (.slice va9 vn9 vc9) := (Rt.cell_of qx 20).trans (HC.out 9 (by decide))
  have d10 : w1.cell? ⟨x, 21, none⟩ = some (.slice va10 vn10 vc10) := (Rt.cell_of qx 21).trans (HC.out 10 (by decide))
  have KC := Tr.Copy_any val _ _ w1 (Tr.In.below HIV.out.1 hbw (Nat.le_refl _)) HIV.out.2
  clear qp qr qx q1 hb1 hbw KNN
  go_wp2_with fail
  refine KC.mono ?_
  rintro y w2 ⟨CA, rfl, hIA, hb2⟩
  obtain ⟨hA, lA, xa3, xa4, xa6, xa7, xa9, xa10, xn3, xn4, xn6, xn7, xn9, xn10, xc3, xc4, xc6, xc7, xc9, xc10, eCA, et1, et2, et3⟩ := Tr.In.form2 hIA
  clear et1 et2 et3
  have e9 : CA = #[.int .i64 hA.k, .int .i64 hA.n, .bool hA.s1, .slice xa3 xn3 xc3, .slice xa4 xn4 xc4, .bool hA.s2, .slice xa6 xn6 xc6, .slice xa7 xn7 xc7, .string hA.x, .slice xa9 xn9 xc9, .slice xa10 xn10 xc10] := eCA
  clear eCA
  subst e9
  have q2 := (hb2.block (w.heap.size + 1) (Array.getElem?_eq_some_iff.1 Q1.out).1).trans Q1.out
  have hbw2 := HB1.out.trans (hb2.mono HB1.out.size)
  have HIA := Lib.hid hIA
  have HLT := Lib.hid (Array.getElem?_eq_some_iff.1 Q1.out).1
  clear hb2 KC d0 d1 d2 d3 d4 d5 d6 d7 d8 d9 d10 hlk p2 hIA
  obtain ⟨W1, W2, W3, W4, W5, W6, W7, W8, W9, W10, W11, ⟨f0, z0, g0, s0⟩, ⟨f1, z1, g1, s1⟩, ⟨f2, z2, g2, s2⟩, ⟨f3, z3, g3, s3⟩, ⟨f4, z4, g4, s4⟩, ⟨f5, z5, g5, s5⟩, ⟨f6, z6, g6, s6⟩, ⟨f7, z7, g7, s7⟩, ⟨f8, z8, g8, s8⟩, ⟨f9, z9, g9, s9⟩, ⟨f10, z10, g10, s10⟩, q4, hszz, hoth, hbb⟩ := Dt.put11 q2 (.int .i64 hA.k) (.int .i64 hA.n) (.bool hA.s1) (.slice xa3 xn3 xc3) (.slice xa4 xn4 xc4) (.bool hA.s2) (.slice xa6 xn6 xc6) (.slice xa7 xn7 xc7) (.string hA.x) (.slice xa9 xn9 xc9) (.slice xa10 xn10 xc10)
  have HE := Lib.hid (hbb w.heap.size w hbw2 (Nat.le_succ _))
  obtain ⟨r0, r1, r2, r3, r4, r5, r6, r7, r8, r9, r10⟩ := Dt.cells11 q4
  have HIW : Hid (Tr.In W11 (fun _ => True) val (.agg #[.int .i64 hA.k, .int .i64 hA.n, .bool hA.s1, .slice xa3 xn3 xc3, .slice xa4 xn4 xc4, .bool hA.s2, .slice xa6 xn6 xc6, .slice xa7 xn7 xc7, .string hA.x, .slice xa9 xn9 xc9, .slice xa10 xn10 xc10])) := Lib.hid (Tr.In.mono (fun _ _ => trivial) _ _ (Tr.In.kept (S := fun q => w1.heap.size ≤ q) ⟨by rw [hszz]; exact Nat.le_refl _, fun q hq hl => hoth q (fun e => by have : w1.heap.size ≤ q := hq; have := HLT.out; omega)⟩ _ _ HIA.out))
  clear hbb hszz q4 q2 hoth hbw2
  go_wp2_with fail
  refine bodyPost_ret (v := .tuple #[.agg #[.int .i64 hA.k, .int .i64 hA.n, .bool hA.s1, .slice xa3 xn3 xc3, .slice xa4 xn4 xc4, .bool hA.s2, .slice xa6 xn6 xc6, .slice xa7 xn7 xc7, .string hA.x, .slice xa9 xn9 xc9, .slice xa10 xn10 xc10], .int .i64 0]) (by simp [results, Tryz.results17, go_sem, r0, r1, r2, r3, r4, r5, r6, r7, r8, r9, r10]) rfl ⟨_, rfl, HIW.out, HE.out⟩
set_option maxHeartbeats 2000000 in
set_option maxRecDepth 1000000 in
theorem Tb.Get_none (K : Int) (p r x : Nat) (last : Value) (key : Tr) (nm nm2 : ByteArray) (hnm : (nm2 == nm) = false) (vk : Value) (w : World) (hp : w.heap[p]? = some (.cells #[.int .i64 K, last, .map (some r)] 84 (0, 0))) (hr : w.heap[r]? = some (.map #[{ key := .string nm, val := .pointer (some ⟨x, 0, none⟩), born := 0 }] 1))
    (hk : Tr.In w (fun _ => True) key vk) (hT : Tr.Tabs w) (KN : Tb.Names K p last (.map (some r)) key [] nm2 0) :
    Calls Tryz.prog 17 #[.pointer (some ⟨p, 0, none⟩), vk] w fun e w' => e = .returned (.tuple #[.agg #[.int .i64 0, .int .i64 0, .bool false, .slice none 0 0, .slice none 0 0, .bool false, .slice none 0 0, .slice none 0 0, .string ⟨#[]⟩, .slice none 0 0, .slice none 0 0], .int .i64 7]) ∧ Below w.heap.size w w' := by
  have hrl : r < w.heap.size := (Array.getElem?_eq_some_iff.1 hr).1
  obtain ⟨CK, rfl⟩ := hk.agg
  have hpl : p < w.heap.size := (Array.getElem?_eq_some_iff.1 hp).1
  obtain ⟨he, le, ka3, ka4, ka6, ka7, ka9, ka10, kn3, kn4, kn6, kn7, kn9, kn10, kc3, kc4, kc6, kc7, kc9, kc10, eCk, etk1, etk2, etk3⟩ := Tr.In.form2 hk
  have eC2 : CK = #[.int .i64 he.k, .int .i64 he.n, .bool he.s1, .slice ka3 kn3 kc3, .slice ka4 kn4 kc4, .bool he.s2, .slice ka6 kn6 kc6, .slice ka7 kn7 kc7, .string he.x, .slice ka9 kn9 kc9, .slice ka10 kn10 kc10] := eCk
  clear eCk
  subst eC2
  obtain ⟨n0, n1, n2, n3⟩ := Sm.two w (.cells #[.int .i64 he.k, .int .i64 he.n, .bool he.s1, .slice ka3 kn3 kc3, .slice ka4 kn4 kc4, .bool he.s2, .slice ka6 kn6 kc6, .slice ka7 kn7 kc7, .string he.x, .slice ka9 kn9 kc9, .slice ka10 kn10 kc10] 30) (.cells #[.int .i64 0, .int .i64 0, .bool false, .slice none 0 0, .slice none 0 0, .bool false, .slice none 0 0, .slice none 0 0, .string ⟨#[]⟩, .slice none 0 0, .slice none 0 0] 30)
  have KNN := KN _ _ _ (Tr.In.below hk n3 (Nat.le_refl _)) (Tb.More.nil _) ((n3.block p hpl).trans hp) (hT.below n3)
  have HN := Lib.hid (And.intro n1 (And.intro n2 n3))
  have HX := Lib.hid (And.intro hp hr)
  clear hp hr hk hT KN n0 n1 n2 n3 etk1 etk2 etk3
  go_enter Tryz.func17, Tryz.ntmps17
  go_wp2_with fail
  refine KNN.mono ?_
  rintro y w1 ⟨rfl, hb1⟩
  have hbw := HN.out.2.2.trans (hb1.mono HN.out.2.2.size)
  have qp := (hbw.block p hpl).trans HX.out.1
  have qr := (hbw.block r hrl).trans HX.out.2
  have q2 := (hb1.block (w.heap.size + 1) (by have := HN.out.2.1; omega)).trans HN.out.1
  have p2 : w1.cell? ⟨p, 2, none⟩ = some (.map (some r)) := Rt.cell_of qp 2
  have hlk := Tb.lookup_other w1 r 1 0 nm nm2 (.pointer (some ⟨x, 0, none⟩)) hnm qr
  obtain ⟨W1, W2, W3, W4, W5, W6, W7, W8, W9, W10, W11, ⟨f0, z0, g0, s0⟩, ⟨f1, z1, g1, s1⟩, ⟨f2, z2, g2, s2⟩, ⟨f3, z3, g3, s3⟩, ⟨f4, z4, g4, s4⟩, ⟨f5, z5, g5, s5⟩, ⟨f6, z6, g6, s6⟩, ⟨f7, z7, g7, s7⟩, ⟨f8, z8, g8, s8⟩, ⟨f9, z9, g9, s9⟩, ⟨f10, z10, g10, s10⟩, q4, hszz, hoth, hbb⟩ := Dt.put11 q2 (.int .i64 0) (.int .i64 0) (.bool false) (.slice none 0 0) (.slice none 0 0) (.bool false) (.slice none 0 0) (.slice none 0 0) (.string ⟨#[]⟩) (.slice none 0 0) (.slice none 0 0)
  have HE := Lib.hid (hbb w.heap.size w hbw (Nat.le_succ _))
  obtain ⟨r0, r1, r2, r3, r4, r5, r6, r7, r8, r9, r10⟩ := Dt.cells11 q4
  clear qp qr hb1 hbw KNN hbb hszz q4 q2 hoth
  go_wp2_with fail
  refine bodyPost_ret (v := .tuple #[.agg #[.int .i64 0, .int .i64 0, .bool false, .slice none 0 0, .slice none 0 0, .bool false, .slice none 0 0, .slice none 0 0, .string ⟨#[]⟩, .slice none 0 0, .slice none 0 0], .int .i64 7]) (by simp [results, Tryz.results17, go_sem, r0, r1, r2, r3, r4, r5, r6, r7, r8, r9, r10]) rfl ⟨rfl, HE.out⟩
end Go.Proofs.YtikmebkfdpbidaaGreatDoor
namespace Go.Proofs.YtikmebkfdpbidaaGreatDoor
open Go.RowKit
set_option linter.unusedVariables false
set_option linter.unusedSimpArgs false

/-- A datum of a kind, a number and a text. -/
def Tb.leaf (k n : Int) (s : ByteArray) : Tr := .mk ⟨k, n, false, [], [], false, [], [], s, ⟨#[]⟩⟩ []
def Tb.leafV (k n : Int) (s : ByteArray) : Value := .agg #[.int .i64 k, .int .i64 n, .bool false, .slice none 0 0, .slice none 0 0, .bool false, .slice none 0 0, .slice none 0 0, .string s, .slice none 0 0, .slice none 0 0]
theorem Tb.leaf_in (k n : Int) (s : ByteArray) (w : World) (hk : -9223372036854775808 ≤ k ∧ k ≤ 9223372036854775807) (hn : -9223372036854775808 ≤ n ∧ n ≤ 9223372036854775807) (hs : s.size ≤ maxLen) : Tr.In w (fun _ => True) (Tb.leaf k n s) (Tb.leafV k n s) := by
  unfold Tb.leaf
  rw [Tr.In_mk]
  exact ⟨.slice none 0 0, .slice none 0 0, .slice none 0 0, .slice none 0 0, .slice none 0 0, .slice none 0 0, rfl, ⟨⟨hk.1, hk.2, hn.1, hn.2, fun x h => by simp at h, fun x h => by simp at h, fun x h => by simp at h, fun x h => by simp at h, Nat.zero_le _, Nat.zero_le _, Nat.zero_le _, Nat.zero_le _, hs, Nat.zero_le _⟩, .inl ⟨rfl, rfl⟩, .inl ⟨rfl, rfl⟩, .inl ⟨rfl, rfl⟩, .inl ⟨rfl, rfl⟩, .inl ⟨rfl, rfl⟩, fun h => absurd h (Nat.lt_irrefl 0), fun h => absurd h (Nat.lt_irrefl 0), fun h => absurd h (Nat.lt_irrefl 0), fun h => absurd h (Nat.lt_irrefl 0), fun h => absurd h (Nat.lt_irrefl 0)⟩, .inl ⟨rfl, rfl⟩⟩
/-- Which texts are sound. -/
theorem Tb.leaf_text (s : ByteArray) : Tr.sound (Tb.leaf 5 0 s) = Lib.validD s.data.toList := by
  unfold Tr.sound Tb.leaf
  have hsh : Tr.Hd.shape ⟨5, 0, false, [], [], false, [], [], s, ⟨#[]⟩⟩ 0 = Lib.validD s.data.toList := by
    unfold Tr.Hd.shape Tr.Hd.num Rt.noRat Tr.isText Tr.own
    have e : (⟨#[]⟩ : ByteArray).size = 0 := rfl
    simp only [e]
    simp
  cases h : Lib.validD s.data.toList
  · rw [Tr.snd_bad (.inr (.inr (by rw [List.length_nil, hsh, h])))]
  · rw [Tr.snd_list (by rw [List.length_nil, hsh, h]; decide) (show (5 : Int) ≠ 8 by decide), Tr.sndL_nil]
theorem Tb.leaf_bool : Tr.sound (Tb.leaf 2 0 ⟨#[]⟩) = true := by
  unfold Tr.sound Tb.leaf
  have hsh : Tr.Hd.shape ⟨2, 0, false, [], [], false, [], [], ⟨#[]⟩, ⟨#[]⟩⟩ 0 = true := by decide +kernel
  rw [Tr.snd_list (by rw [List.length_nil, hsh]; decide) (by decide), Tr.sndL_nil]
/-- A sound text's name in a table of kind 2. -/
theorem Tb.names2 (p : Nat) (last mp : Value) (key : Tr) (more : List Tr) (hsk : ∀ t ∈ more ++ [key], Tr.sound t = true) (h5 : key.hd.k = 5) (hx : key.hd.x.size ≤ 8796093022208) : Tb.Names 2 p last mp key more ⟨(Ch.foldL key.hd.x.data.toList).toArray⟩ 0 := by
  intro w vk vm hk hm hp hT
  have h := Tb.name2_any key more p last mp vk vm w hk hm hp hT hx
  have e : Tb.nm2 (more ++ [key]) key = (⟨(Ch.foldL key.hd.x.data.toList).toArray⟩, 0) := by
    unfold Tb.nm2
    rw [if_neg (by rw [List.all_eq_true.2 hsk]; decide), if_pos h5]
  rwa [e] at h
/-- A sound whole number's name in a table of kind 3. -/
theorem Tb.names3 (p : Nat) (last mp : Value) (key : Tr) (more : List Tr) (hsk : ∀ t ∈ more ++ [key], Tr.sound t = true) (h3 : key.hd.k = 3) (h4 : Nt.val key.hd.t2 = 0) (h5 : Nt.val key.hd.b1 = 1) : Tb.Names 3 p last mp key more (Tx.str (Tx.dec (Tx.rem key.hd.s1 (Nt.val key.hd.t1) 10))) 0 := by
  intro w vk vm hk hm hp hT
  have h := Tb.name3_any key more p last mp vk vm w hk hm hp hT
  have e : Tb.nm3 (more ++ [key]) key = (Tx.str (Tx.dec (Tx.rem key.hd.s1 (Nt.val key.hd.t1) 10)), 0) := by
    unfold Tb.nm3
    rw [if_neg (by rw [List.all_eq_true.2 hsk]; decide), if_pos ⟨h3, h4, h5⟩]
  rwa [e] at h
end Go.Proofs.YtikmebkfdpbidaaGreatDoor
namespace Go.Proofs.YtikmebkfdpbidaaGreatDoor
open Go.RowKit
set_option linter.unusedVariables false
set_option linter.unusedSimpArgs false

/-- A whole number as a datum. -/
def Tb.numT (s : Bool) (t : Nat) : Tr := .mk ⟨3, 0, s, Nt.dig t, Nt.dig 1, false, Nt.dig 0, Nt.dig 1, ⟨#[]⟩, ⟨#[]⟩⟩ []
theorem Tb.On_true {v : Value} {n : Nat} : Tr.On (fun _ => True) v n := fun _ _ _ _ _ _ => trivial
theorem Tb.num_in {w : World} {s : Bool} {t : Nat} {v3 v4 v6 v7 : Value} (h : Rt.Q w (.agg #[.bool s, v3, v4, .bool false, v6, v7]) s t 1 false 0 1) (hl : (Nt.dig t).length ≤ 512) : Tr.In w (fun _ => True) (Tb.numT s t) (.agg #[.int .i64 3, .int .i64 0, .bool s, v3, v4, .bool false, v6, v7, .string ⟨#[]⟩, .slice none 0 0, .slice none 0 0]) := by
  obtain ⟨tv, bv, tv2, bv2, e, h1, h2, h3, h4⟩ := h
  simp only [Value.agg.injEq, Array.mk.injEq, List.cons.injEq, true_and, and_true] at e
  obtain ⟨rfl, rfl, rfl, rfl⟩ := e
  have l1 : (Nt.dig 1).length ≤ 1 := Nt.dig_len_le (by decide)
  have l0 : (Nt.dig 0).length ≤ 1 := Nt.dig_len_le (by decide)
  unfold Tb.numT
  rw [Tr.In_mk]
  exact ⟨v3, v4, v6, v7, .slice none 0 0, .slice none 0 0, rfl, ⟨⟨by show (-9223372036854775808 : Int) ≤ 3; decide, by show (3 : Int) ≤ 9223372036854775807; decide, by show (-9223372036854775808 : Int) ≤ 0; decide, by show (0 : Int) ≤ 9223372036854775807; decide, Nt.dig_wd _, Nt.dig_wd _, Nt.dig_wd _, Nt.dig_wd _, by show (Nt.dig t).length ≤ _; omega, by show (Nt.dig 1).length ≤ _; omega, by show (Nt.dig 0).length ≤ _; omega, by show (Nt.dig 1).length ≤ _; omega, Nat.zero_le _, Nat.zero_le _⟩, h1, h2, h3, h4, .inl ⟨rfl, rfl⟩, Tb.On_true, Tb.On_true, Tb.On_true, Tb.On_true, Tb.On_true⟩, .inl ⟨rfl, rfl⟩⟩
theorem Tb.num_sound {s : Bool} {t : Nat} (ht : t < 18446744073709551616) (hs : t = 0 → s = false) : Tr.sound (Tb.numT s t) = true := by
  have h1 := (Rt.Snd.int ht hs).sound
  have h2 := Rt.Snd.nought.sound
  unfold Tr.sound Tb.numT
  have hsh : Tr.Hd.shape ⟨3, 0, s, Nt.dig t, Nt.dig 1, false, Nt.dig 0, Nt.dig 1, ⟨#[]⟩, ⟨#[]⟩⟩ 0 = true := by
    unfold Tr.Hd.shape Tr.Hd.num
    rw [if_pos rfl, h1, h2]
    rfl
  rw [Tr.snd_list (by rw [List.length_nil, hsh]; decide) (show (3 : Int) ≠ 8 by decide), Tr.sndL_nil]
/-- A whole number's name. -/
def Tb.nmN (s : Bool) (t : Nat) : ByteArray := Tx.str (Tx.dec (Tx.rem s t 10))
theorem Tb.num_names (p : Nat) (last mp : Value) {s : Bool} {t : Nat} (more : List Tr) (hm : ∀ u ∈ more, Tr.sound u = true) (ht : t < 18446744073709551616) (hs : t = 0 → s = false) : Tb.Names 3 p last mp (Tb.numT s t) more (Tb.nmN s t) 0 := by
  have h := Tb.names3 p last mp (Tb.numT s t) more (fun u hu => by
    rcases List.mem_append.1 hu with h | h
    · exact hm u h
    · simp only [List.mem_singleton] at h
      subst h
      exact Tb.num_sound ht hs) rfl (by show Nt.val (Nt.dig 0) = 0; rw [Nt.val_dig]) (by show Nt.val (Nt.dig 1) = 1; rw [Nt.val_dig])
  have e : Nt.val (Tb.numT s t).hd.t1 = t := Nt.val_dig t
  rw [e] at h
  exact h
theorem Tb.beq_bytes (a b : ByteArray) : (a == b) = decide (a = b) := by
  obtain ⟨a⟩ := a
  obtain ⟨b⟩ := b
  by_cases h : a = b
  · subst h
    rw [decide_eq_true rfl]
    show (a == a) = true
    exact beq_self_eq_true a
  · rw [decide_eq_false (fun e => h (by injection e))]
    show (a == b) = false
    exact beq_eq_false_iff_ne.2 h
/-- One name just if the last digits, counted from 0 upwards, are one. -/
theorem Tb.nmN_eq {s s2 : Bool} {t t2 : Nat} : (Tb.nmN s2 t2 == Tb.nmN s t) = decide (Tx.rem s2 t2 10 = Tx.rem s t 10) := by
  rw [Tb.beq_bytes]
  by_cases h : Tx.rem s2 t2 10 = Tx.rem s t 10
  · rw [decide_eq_true h]
    unfold Tb.nmN
    rw [h]
    exact decide_eq_true rfl
  · rw [decide_eq_false h]
    refine decide_eq_false (fun e => h ?_)
    unfold Tb.nmN Tx.str at e
    injection e with e
    have e2 := congrArg Array.toList e
    simp only [List.toList_toArray] at e2
    exact Tx.dec_inj e2
/-- The digit as Go's remainders give it. -/
theorem Tb.digit (m : Int) : (Int.tmod (Int.tmod m 10 + 10) 10 : Int) = (Tx.rem (decide (m < 0)) m.natAbs 10 : Nat) := by
  unfold Tx.rem
  rcases Int.lt_or_le m 0 with h | h
  · rw [decide_eq_true h, if_pos rfl]
    have e : Int.tmod m 10 = -((m.natAbs % 10 : Nat) : Int) := by
      obtain ⟨n, hn⟩ : ∃ n : Nat, m = -(n : Int) := ⟨m.natAbs, by omega⟩
      subst hn
      rw [Int.neg_tmod, Int.natAbs_neg, Int.natAbs_natCast, Int.tmod_eq_emod_of_nonneg (by omega)]
      omega
    rw [e, Int.tmod_eq_emod_of_nonneg (by omega)]
    omega
  · rw [decide_eq_false (by omega), if_neg (by decide)]
    have e : Int.tmod m 10 = ((m.natAbs % 10 : Nat) : Int) := by
      rw [Int.tmod_eq_emod_of_nonneg h]
      omega
    rw [e, Int.tmod_eq_emod_of_nonneg (by omega)]
    omega
end Go.Proofs.YtikmebkfdpbidaaGreatDoor
namespace Go.Proofs.YtikmebkfdpbidaaGreatDoor
open Go.RowKit
set_option linter.unusedVariables false
set_option linter.unusedSimpArgs false

def Tb.sAb : ByteArray := ⟨#[65, 98]⟩
def Tb.saB : ByteArray := ⟨#[97, 66]⟩
def Tb.sab : ByteArray := ⟨#[97, 98]⟩
/-- A datum without lists and numbers, as its cells. -/
theorem Tb.leaf_open {w : World} {S : Nat → Prop} {k n : Int} {s : ByteArray} {v : Value} (h : Tr.In w S (Tb.leaf k n s) v) : ∃ (a3 a4 a6 a7 a9 a10 : Option Addr) (n3 n4 n6 n7 n9 n10 c3 c4 c6 c7 c9 c10 : Nat), v = .agg #[.int .i64 k, .int .i64 n, .bool false, .slice a3 n3 c3, .slice a4 n4 c4, .bool false, .slice a6 n6 c6, .slice a7 n7 c7, .string s, .slice a9 n9 c9, .slice a10 n10 c10] := by
  obtain ⟨C, rfl⟩ := h.agg
  obtain ⟨hd, l, a3, a4, a6, a7, a9, a10, n3, n4, n6, n7, n9, n10, c3, c4, c6, c7, c9, c10, eC, et, _, _⟩ := Tr.In.form2 h
  unfold Tb.leaf at et
  injection et with e1 e2
  subst e1
  exact ⟨a3, a4, a6, a7, a9, a10, n3, n4, n6, n7, n9, n10, c3, c4, c6, c7, c9, c10, by rw [eC]; rfl⟩
set_option maxHeartbeats 1000000 in
set_option maxRecDepth 1000000 in
theorem Tb.awake2 (w : World) (hT : Tr.Tabs w) : Calls Tryz.prog 14 #[] w fun e w' => e = .returned (.bool true) ∧ Below w.heap.size w w' := by
  have nm1 : (⟨(Ch.foldL Tb.sAb.data.toList).toArray⟩ : ByteArray) = Tb.sab := by decide +kernel
  have nm2 : (⟨(Ch.foldL Tb.saB.data.toList).toArray⟩ : ByteArray) = Tb.sab := by decide +kernel
  have v1 : Tr.sound (Tb.leaf 5 0 Tb.sAb) = true := by rw [Tb.leaf_text]; decide +kernel
  have v2 : Tr.sound (Tb.leaf 5 0 Tb.saB) = true := by rw [Tb.leaf_text]; decide +kernel
  have I := fun (k : Int) (hk : k = 5 ∨ k = 2) (s : ByteArray) (hs : s.size ≤ maxLen) (w : World) => Tb.leaf_in k 0 s w (by omega) (by omega) hs
  have m1 : Tb.sAb.size ≤ maxLen := by decide
  have m2 : Tb.saB.size ≤ maxLen := by decide
  have m0 : (⟨#[]⟩ : ByteArray).size ≤ maxLen := by decide
  have KS := Lib.hid (fun p r w' hp hr (hT : Tr.Tabs w') => Tb.Set_one 2 p r (Tb.leaf 5 0 Tb.sAb) (Tb.leaf 2 0 ⟨#[]⟩) Tb.sab _ _ w' hp hr (I 5 (.inl rfl) Tb.sAb m1 w') (I 2 (.inr rfl) ⟨#[]⟩ m0 w') v1 Tb.leaf_bool hT (by
    have := Tb.names2 p (.int .i64 0) (.map (some r)) (Tb.leaf 5 0 Tb.sAb) [Tb.leaf 2 0 ⟨#[]⟩] (fun t ht => by
      simp only [List.cons_append, List.nil_append, List.mem_cons, List.not_mem_nil, or_false] at ht
      rcases ht with rfl | rfl
      · exact Tb.leaf_bool
      · exact v1) rfl (by decide)
    rwa [show (⟨(Ch.foldL (Tb.leaf 5 0 Tb.sAb).hd.x.data.toList).toArray⟩ : ByteArray) = Tb.sab from nm1] at this))
  have KG := Lib.hid (fun p r x w' hp hr hE (hT : Tr.Tabs w') => Tb.Get_found 2 p r x (.int .i64 1) (Tb.leaf 5 0 Tb.saB) (Tb.leaf 5 0 Tb.sAb) (Tb.leaf 2 0 ⟨#[]⟩) Tb.sab (by decide) _ w' hp hr hE (I 5 (.inl rfl) Tb.saB m2 w') Tb.leaf_bool hT (by
    have := Tb.names2 p (.int .i64 1) (.map (some r)) (Tb.leaf 5 0 Tb.saB) [] (fun t ht => by
      simp only [List.nil_append, List.mem_singleton] at ht
      subst ht
      exact v2) rfl (by decide)
    rwa [show (⟨(Ch.foldL (Tb.leaf 5 0 Tb.saB).hd.x.data.toList).toArray⟩ : ByteArray) = Tb.sab from nm2] at this))
  clear nm1 nm2 v1 v2 I m1 m2 m0
  unfold Tb.leafV at KS KG
  rw [show Tb.sAb = ⟨#[65, 98]⟩ from rfl] at KS
  rw [show Tb.saB = ⟨#[97, 66]⟩ from rfl] at KG
  have HT := Lib.hid hT
  clear hT
  go_enter Tryz.func14, Tryz.ntmps14
  go_wp2_with fail
  refine (Tb.new_any 2 (by decide) _).mono ?_
  rintro y w1 ⟨rfl, hr1, hp1, hb1⟩
  have HB1 := Lib.hid hb1
  have HP1 := Lib.hid hp1
  have HR1 := Lib.hid hr1
  clear hb1 hp1 hr1
  go_wp2_with fail
  refine (KS.out _ _ _ HP1.out HR1.out (HT.out.below HB1.out)).mono ?_
  rintro y w2 ⟨rfl, ⟨x, hr2, hE2⟩, hp2, hold2, hb2⟩
  have HB2 := Lib.hid (HB1.out.trans (hb2.mono (by omega)))
  have HP2 := Lib.hid hp2
  have HR2 := Lib.hid hr2
  have HE2 := Lib.hid hE2
  clear hb2 hp2 hr2 hE2 hold2 KS
  go_wp2_with fail
  refine (KG.out _ _ _ _ HP2.out HR2.out HE2.out (HT.out.below HB2.out)).mono ?_
  rintro y w3 ⟨v3, rfl, hI3, hb3⟩
  have HB3 := Lib.hid (HB2.out.trans (hb3.mono HB2.out.size))
  obtain ⟨a3, a4, a6, a7, a9, a10, n3, n4, n6, n7, n9, n10, c3, c4, c6, c7, c9, c10, rfl⟩ := Tb.leaf_open hI3
  clear hb3 hI3 KG
  go_wp2
  go_ret
  exact ⟨rfl, HB3.out.alloc HB3.out.size _⟩
end Go.Proofs.YtikmebkfdpbidaaGreatDoor
namespace Go.Proofs.YtikmebkfdpbidaaGreatDoor
open Go.RowKit

/-- A unit of the reference: the character (0: none), whether there is none, where it begins. -/
def Cd.refU (u : Cd.U) : Int × Bool × Int := if u.2.1 then (u.1, false, u.2.2) else (0, true, u.2.2)
def Cd.cellsU (us : List (Int × Bool × Int)) : List Value := us.flatMap fun u => [.int .i32 u.1, .bool u.2.1, .int .i64 u.2.2]
theorem Cd.cellsU_append (a b : List (Int × Bool × Int)) : Cd.cellsU (a ++ b) = Cd.cellsU a ++ Cd.cellsU b := by simp [Cd.cellsU]
theorem Cd.cellsU_len (a : List (Int × Bool × Int)) : (Cd.cellsU a).length = a.length * 3 := by
  induction a with
  | nil => rfl
  | cons u t ih => simp only [Cd.cellsU, List.flatMap_cons, List.length_append, List.length_cons, List.length_nil] at *; omega

theorem Cd.and31 (x : Int) (h0 : 0 ≤ x) (h1 : x < 256) : bits .and .u8 x 31 = x % 32 := bits_mask .u8 8 (by decide) wraps_u8 5 (by decide) x h0 h1
theorem Cd.and15 (x : Int) (h0 : 0 ≤ x) (h1 : x < 256) : bits .and .u8 x 15 = x % 16 := bits_mask .u8 8 (by decide) wraps_u8 4 (by decide) x h0 h1
theorem Cd.and7 (x : Int) (h0 : 0 ≤ x) (h1 : x < 256) : bits .and .u8 x 7 = x % 8 := bits_mask .u8 8 (by decide) wraps_u8 3 (by decide) x h0 h1
theorem Cd.and63 (x : Int) (h0 : 0 ≤ x) (h1 : x < 256) : bits .and .u8 x 63 = x % 64 := bits_mask .u8 8 (by decide) wraps_u8 6 (by decide) x h0 h1

theorem Cd.utf8U_at (s : ByteArray) (k : Nat) (h : k < s.size) (V W : Nat) (hd : Lib.decodeN (s.size - k) (s.get! k).toNat (s.get! (k + 1)).toNat (s.get! (k + 2)).toNat (s.get! (k + 3)).toNat = (V, W)) (F : Bool) (hF : F = !decide (V ≠ 65533 ∨ 1 < W)) :
    (Cd.utf8U s k).map Cd.refU = (if F then ((0 : Int), true, (k : Int)) else ((V : Int), false, (k : Int))) :: (Cd.utf8U s (k + W)).map Cd.refU := by
  have e := Lib.decode_at s k
  rw [hd] at e
  rw [Cd.utf8U_one s k h, e, List.map_cons]
  subst hF
  unfold Cd.refU
  by_cases hc : V ≠ 65533 ∨ 1 < W <;> simp [hc]
end Go.Proofs.YtikmebkfdpbidaaGreatDoor
