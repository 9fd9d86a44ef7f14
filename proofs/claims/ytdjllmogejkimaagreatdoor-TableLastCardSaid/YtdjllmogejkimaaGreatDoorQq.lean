/-
  Set of the first key of a table. Get in a table of one key. Texts and small data as keys; what the name of a key is asked of.
-/
import Derived.Deep.RegionHeld3
import Derived.Deep.LoopGhost
import Derived.Deep.DeepCutAuto
import Derived.Test.YtdjllmogejkimaaGreatDoorQh
import Derived.Test.YtdjllmogejkimaaGreatDoorQg
import Derived.Test.YtdjllmogejkimaaGreatDoorQm
import Derived.Test.YtdjllmogejkimaaGreatDoorQd
set_option linter.unusedVariables false
set_option linter.unusedSimpArgs false
namespace Go.Proofs.YtdjllmogejkimaaGreatDoor
open Go.RowKit

/-- The entry in block x: a key and a value. -/
def Tb.Ent (w : World) (x : Nat) (key val : Tr) : Prop := ∃ C CK CV, w.heap[x]? = some (.cells C 68 (0, 0)) ∧ (∀ j, j < 11 → C[j]? = CK[j]?) ∧ (∀ j, j < 11 → C[11 + j]? = CV[j]?) ∧ Tr.In w (fun _ => True) key (.agg CK) ∧ Tr.In w (fun _ => True) val (.agg CV)
/-- What the name of a key is asked of. -/
def Tb.Names (K : Int) (p : Nat) (last : Value) (mp : Value) (key : Tr) (more : List Tr) (nm : ByteArray) (er : Int) : Prop := ∀ (w : World) (vk vm : Value), Tr.In w (fun _ => True) key vk → Tb.More w vm more → w.heap[p]? = some (.cells #[.int .i64 K, last, mp] 61 (0, 0)) → Tr.Tabs w →
  Calls Tryz.prog 20 #[.pointer (some ⟨p, 0, none⟩), vk, vm] w fun e w' => e = .returned (.tuple #[.string nm, .int .i64 er]) ∧ Below w.heap.size w w'
set_option maxHeartbeats 2000000 in
set_option maxRecDepth 1000000 in
theorem Tb.Set_one (K : Int) (p r : Nat) (key val : Tr) (nm : ByteArray) (vk vv : Value) (w : World) (hp : w.heap[p]? = some (.cells #[.int .i64 K, .int .i64 0, .map (some r)] 61 (0, 0))) (hr : w.heap[r]? = some (.map #[] 0))
    (hk : Tr.In w (fun _ => True) key vk) (hv : Tr.In w (fun _ => True) val vv) (hsk : Tr.sound key = true) (hsv : Tr.sound val = true) (hT : Tr.Tabs w) (KN : Tb.Names K p (.int .i64 0) (.map (some r)) key [val] nm 0) :
    Calls Tryz.prog 8 #[.pointer (some ⟨p, 0, none⟩), vk, vv] w fun e w' => e = .returned (.int .i64 0) ∧ (∃ x, w'.heap[r]? = some (.map #[{ key := .string nm, val := .pointer (some ⟨x, 0, none⟩), born := 0 }] 1) ∧ Tb.Ent w' x key val) ∧ w'.heap[p]? = some (.cells #[.int .i64 K, .int .i64 1, .map (some r)] 61 (0, 0)) ∧
      (∀ q, q < w.heap.size → q ≠ p → q ≠ r → w'.heap[q]? = w.heap[q]?) ∧ Below (min p r) w w' := by
  obtain ⟨CK, rfl⟩ := hk.agg
  obtain ⟨CV, rfl⟩ := hv.agg
  have hpl : p < w.heap.size := (Array.getElem?_eq_some_iff.1 hp).1
  have hrl : r < w.heap.size := (Array.getElem?_eq_some_iff.1 hr).1
  have hpr : p ≠ r := fun e => by subst e; rw [hp] at hr; cases hr
  obtain ⟨he, le, ka3, ka4, ka6, ka7, ka9, ka10, kn3, kn4, kn6, kn7, kn9, kn10, kc3, kc4, kc6, kc7, kc9, kc10, eCk, etk1, etk2, etk3⟩ := Tr.In.form2 hk
  obtain ⟨hf, lf, va3, va4, va6, va7, va9, va10, vn3, vn4, vn6, vn7, vn9, vn10, vc3, vc4, vc6, vc7, vc9, vc10, eCv, etv1, etv2, etv3⟩ := Tr.In.form2 hv
  subst eCk
  subst eCv
  unfold Tr.cells at *
  obtain ⟨W3, hW3, h0, h1, h2, hz3, hb3⟩ := Rt.three w (.cells #[.int .i64 he.k, .int .i64 he.n, .bool he.s1, .slice ka3 kn3 kc3, .slice ka4 kn4 kc4, .bool he.s2, .slice ka6 kn6 kc6, .slice ka7 kn7 kc7, .string he.x, .slice ka9 kn9 kc9, .slice ka10 kn10 kc10] 37) (.cells #[.int .i64 hf.k, .int .i64 hf.n, .bool hf.s1, .slice va3 vn3 vc3, .slice va4 vn4 vc4, .bool hf.s2, .slice va6 vn6 vc6, .slice va7 vn7 vc7, .string hf.x, .slice va9 vn9 vc9, .slice va10 vn10 vc10] 37) (.cells #[.int .i64 hf.k, .int .i64 hf.n, .bool hf.s1, .slice va3 vn3 vc3, .slice va4 vn4 vc4, .bool hf.s2, .slice va6 vn6 vc6, .slice va7 vn7 vc7, .string hf.x, .slice va9 vn9 vc9, .slice va10 vn10 vc10] 37)
  have hp3 := (hb3.block p hpl).trans hp
  have hr3 := (hb3.block r hrl).trans hr
  have KNN := KN W3 _ _ (Tr.In.below hk hb3 (Nat.le_refl _)) (Tb.More.one h2 (Tr.In.below hv hb3 (Nat.le_refl _))) hp3 (hT.below hb3)
  have HI := Lib.hid (And.intro hk hv)
  have HSD := Lib.hid (And.intro hsk hsv)
  have HB3 := Lib.hid hb3
  have H012 := Lib.hid (And.intro h0 (And.intro h1 hz3))
  have HPR := Lib.hid (And.intro hp3 hr3)
  obtain ⟨e0, e1, e2, e3, e4, e5, e6, e7, e8, e9, e10⟩ := Dt.cells11 h0
  obtain ⟨f0, f1, f2, f3, f4, f5, f6, f7, f8, f9, f10⟩ := Dt.cells11 h1
  clear hk hv hsk hsv hT KN hp hr h0 h1 h2 hb3 hp3 hr3 etk1 etk2 etk3 etv1 etv2 etv3
  go_enter Tryz.func8, Tryz.ntmps8
  go_wp2_with fail
  refine KNN.mono ?_
  rintro x w1 ⟨rfl, hb1⟩
  have qp := (hb1.block p (by have := HB3.out.size; omega)).trans HPR.out.1
  have qr := (hb1.block r (by have := HB3.out.size; omega)).trans HPR.out.2
  have q0 := (hb1.block w.heap.size (by have := H012.out.2.2; omega)).trans H012.out.1
  have q1 := (hb1.block (w.heap.size + 1) (by have := H012.out.2.2; omega)).trans H012.out.2.1
  have HB1 := Lib.hid (HB3.out.trans (hb1.mono HB3.out.size))
  clear hb1 KNN hW3 hz3 e0 e1 e2 e3 e4 e5 e6 e7 e8 e9 e10 f0 f1 f2 f3 f4 f5 f6 f7 f8 f9 f10
  have p0 := Rt.cell_of qp 0
  have p1 : w1.cell? ⟨p, 1, none⟩ = some (.int .i64 0) := Rt.cell_of qp 1
  have p2 : w1.cell? ⟨p, 2, none⟩ = some (.map (some r)) := Rt.cell_of qp 2
  have z1 := Rt.frozen_of qp 1
  have hlk := Tb.lookup_empty w1 r 0 nm qr
  have hln := fun ty => Tb.len_map w1 r 0 #[] ty qr
  have qp2 : (w1.setCell ⟨p, 1, none⟩ (.int .i64 1)).heap[p]? = some (.cells #[.int .i64 K, .int .i64 1, .map (some r)] 61 (0, 0)) := Rt.setCells qp 1 (.int .i64 1)
  obtain ⟨W1, hW1⟩ : ∃ W, w1.setCell ⟨p, 1, none⟩ (.int .i64 1) = W := ⟨_, rfl⟩
  have hne : ∀ b, b ≠ p → W1.heap[b]? = w1.heap[b]? := fun b hb => by rw [← hW1]; exact Below.heap_setCell w1 ⟨p, 1, none⟩ _ b hb
  have hbW : Below (min p r) w1 W1 := by rw [← hW1]; exact (Below.refl _ _).setCell (p := ⟨p, 1, none⟩) (Nat.min_le_left p r) _
  have hzW : W1.heap.size = w1.heap.size := by rw [← hW1]; simp
  rw [hW1] at qp2
  have l0 : w.heap.size < w1.heap.size := (Array.getElem?_eq_some_iff.1 q0).1
  have l1 : w.heap.size + 1 < w1.heap.size := (Array.getElem?_eq_some_iff.1 q1).1
  have HBW := Lib.hid ((HB1.out.mono (by omega : min p r ≤ w.heap.size)).trans hbW)
  have HIW : Hid (Tr.In W1 (fun _ => True) key (.agg #[.int .i64 he.k, .int .i64 he.n, .bool he.s1, .slice ka3 kn3 kc3, .slice ka4 kn4 kc4, .bool he.s2, .slice ka6 kn6 kc6, .slice ka7 kn7 kc7, .string he.x, .slice ka9 kn9 kc9, .slice ka10 kn10 kc10]) ∧ Tr.In W1 (fun _ => True) val (.agg #[.int .i64 hf.k, .int .i64 hf.n, .bool hf.s1, .slice va3 vn3 vc3, .slice va4 vn4 vc4, .bool hf.s2, .slice va6 vn6 vc6, .slice va7 vn7 vc7, .string hf.x, .slice va9 vn9 vc9, .slice va10 vn10 vc10])) := Lib.hid ⟨Tr.In.tab (Tr.In.below HI.out.1 HB1.out (Nat.le_refl _)) (Tb.NoData.table qp) (Tb.NoData.map qr) (by omega) (fun q _ hq _ => hne q hq), Tr.In.tab (Tr.In.below HI.out.2 HB1.out (Nat.le_refl _)) (Tb.NoData.table qp) (Tb.NoData.map qr) (by omega) (fun q _ hq _ => hne q hq)⟩
  have QR := Lib.hid ((hne r (fun e => hpr e.symm)).trans qr)
  have QP := Lib.hid qp2
  have QX0 := (hne w.heap.size (by omega)).trans q0
  have QX1 := (hne (w.heap.size + 1) (by omega)).trans q1
  have HOLD : Hid (∀ q, q < w.heap.size → q ≠ p → W1.heap[q]? = w.heap[q]?) := Lib.hid (fun q hq hqp => (hne q hqp).trans (HB1.out.block q hq))
  have lr : r < W1.heap.size := by omega
  have HSZ : Hid (w.heap.size + 1 < W1.heap.size ∧ p < W1.heap.size ∧ w.heap.size ≠ r ∧ w.heap.size + 1 ≠ r) := Lib.hid ⟨by omega, by omega, by omega, by omega⟩
  have HS : Hid (∀ w' : World, (∀ q, q < W1.heap.size → q ≠ r → w'.heap[q]? = W1.heap[q]?) → w'.cell? ⟨w.heap.size, 0, none⟩ = some (.int .i64 he.k) ∧ w'.cell? ⟨w.heap.size, 1, none⟩ = some (.int .i64 he.n) ∧ w'.cell? ⟨w.heap.size, 2, none⟩ = some (.bool he.s1) ∧ w'.cell? ⟨w.heap.size, 3, none⟩ = some (.slice ka3 kn3 kc3) ∧ w'.cell? ⟨w.heap.size, 4, none⟩ = some (.slice ka4 kn4 kc4) ∧ w'.cell? ⟨w.heap.size, 5, none⟩ = some (.bool he.s2) ∧ w'.cell? ⟨w.heap.size, 6, none⟩ = some (.slice ka6 kn6 kc6) ∧ w'.cell? ⟨w.heap.size, 7, none⟩ = some (.slice ka7 kn7 kc7) ∧ w'.cell? ⟨w.heap.size, 8, none⟩ = some (.string he.x) ∧ w'.cell? ⟨w.heap.size, 9, none⟩ = some (.slice ka9 kn9 kc9) ∧ w'.cell? ⟨w.heap.size, 10, none⟩ = some (.slice ka10 kn10 kc10) ∧ w'.cell? ⟨w.heap.size + 1, 0, none⟩ = some (.int .i64 hf.k) ∧ w'.cell? ⟨w.heap.size + 1, 1, none⟩ = some (.int .i64 hf.n) ∧ w'.cell? ⟨w.heap.size + 1, 2, none⟩ = some (.bool hf.s1) ∧ w'.cell? ⟨w.heap.size + 1, 3, none⟩ = some (.slice va3 vn3 vc3) ∧ w'.cell? ⟨w.heap.size + 1, 4, none⟩ = some (.slice va4 vn4 vc4) ∧ w'.cell? ⟨w.heap.size + 1, 5, none⟩ = some (.bool hf.s2) ∧ w'.cell? ⟨w.heap.size + 1, 6, none⟩ = some (.slice va6 vn6 vc6) ∧ w'.cell? ⟨w.heap.size + 1, 7, none⟩ = some (.slice va7 vn7 vc7) ∧ w'.cell? ⟨w.heap.size + 1, 8, none⟩ = some (.string hf.x) ∧ w'.cell? ⟨w.heap.size + 1, 9, none⟩ = some (.slice va9 vn9 vc9) ∧ w'.cell? ⟨w.heap.size + 1, 10, none⟩ = some (.slice va10 vn10 vc10) ∧ w'.cell? ⟨p, 1, none⟩ = some (.int .i64 1) ∧ w'.cell? ⟨p, 2, none⟩ = some (.map (some r))) := Lib.hid (fun w' hq => by
    obtain ⟨e0, e1, e2, e3, e4, e5, e6, e7, e8, e9, e10⟩ := Dt.cells11 ((hq w.heap.size (by have := HSZ.out.1; omega) HSZ.out.2.2.1).trans QX0)
    obtain ⟨f0, f1, f2, f3, f4, f5, f6, f7, f8, f9, f10⟩ := Dt.cells11 ((hq (w.heap.size + 1) HSZ.out.1 HSZ.out.2.2.2).trans QX1)
    have g := (hq p HSZ.out.2.1 hpr).trans QP.out
    exact ⟨e0, e1, e2, e3, e4, e5, e6, e7, e8, e9, e10, f0, f1, f2, f3, f4, f5, f6, f7, f8, f9, f10, Rt.cell_of g 1, Rt.cell_of g 2⟩)
  have KCkey : Hid (∀ w', Below W1.heap.size W1 w' → Calls Tryz.prog 21 #[.agg #[.int .i64 he.k, .int .i64 he.n, .bool he.s1, .slice ka3 kn3 kc3, .slice ka4 kn4 kc4, .bool he.s2, .slice ka6 kn6 kc6, .slice ka7 kn7 kc7, .string he.x, .slice ka9 kn9 kc9, .slice ka10 kn10 kc10]] w' fun e w'' => ∃ C, e = .returned (.agg C) ∧ Tr.In w'' (fun q => w'.heap.size ≤ q) key (.agg C) ∧ Below w'.heap.size w' w'') := Lib.hid (fun w' hb => Tr.Copy_any key _ _ w' (Tr.In.below HIW.out.1 hb (Nat.le_refl _)) HSD.out.1)
  have KCval : Hid (∀ w', Below W1.heap.size W1 w' → Calls Tryz.prog 21 #[.agg #[.int .i64 hf.k, .int .i64 hf.n, .bool hf.s1, .slice va3 vn3 vc3, .slice va4 vn4 vc4, .bool hf.s2, .slice va6 vn6 vc6, .slice va7 vn7 vc7, .string hf.x, .slice va9 vn9 vc9, .slice va10 vn10 vc10]] w' fun e w'' => ∃ C, e = .returned (.agg C) ∧ Tr.In w'' (fun q => w'.heap.size ≤ q) val (.agg C) ∧ Below w'.heap.size w' w'') := Lib.hid (fun w' hb => Tr.Copy_any val _ _ w' (Tr.In.below HIW.out.2 hb (Nat.le_refl _)) HSD.out.2)
  clear q0 q1 qr hne hbW hzW l0 l1 QX0 QX1 qp qp2
  go_upto_region 11 with fail
  have hacc : Below W1.heap.size W1 W1.drew := (Below.refl _ _).drew
  have hkeep := HS.out _ (fun q hq hr => hacc.block q hq)
  clear hlk hln p0 p1 p2 z1
  go_region_held3 (fun w' => w'.cell? ⟨w.heap.size, 0, none⟩ = some (.int .i64 he.k) ∧ w'.cell? ⟨w.heap.size, 1, none⟩ = some (.int .i64 he.n) ∧ w'.cell? ⟨w.heap.size, 2, none⟩ = some (.bool he.s1) ∧ w'.cell? ⟨w.heap.size, 3, none⟩ = some (.slice ka3 kn3 kc3) ∧ w'.cell? ⟨w.heap.size, 4, none⟩ = some (.slice ka4 kn4 kc4) ∧ w'.cell? ⟨w.heap.size, 5, none⟩ = some (.bool he.s2) ∧ w'.cell? ⟨w.heap.size, 6, none⟩ = some (.slice ka6 kn6 kc6) ∧ w'.cell? ⟨w.heap.size, 7, none⟩ = some (.slice ka7 kn7 kc7) ∧ w'.cell? ⟨w.heap.size, 8, none⟩ = some (.string he.x) ∧ w'.cell? ⟨w.heap.size, 9, none⟩ = some (.slice ka9 kn9 kc9) ∧ w'.cell? ⟨w.heap.size, 10, none⟩ = some (.slice ka10 kn10 kc10) ∧ w'.cell? ⟨w.heap.size + 1, 0, none⟩ = some (.int .i64 hf.k) ∧ w'.cell? ⟨w.heap.size + 1, 1, none⟩ = some (.int .i64 hf.n) ∧ w'.cell? ⟨w.heap.size + 1, 2, none⟩ = some (.bool hf.s1) ∧ w'.cell? ⟨w.heap.size + 1, 3, none⟩ = some (.slice va3 vn3 vc3) ∧ w'.cell? ⟨w.heap.size + 1, 4, none⟩ = some (.slice va4 vn4 vc4) ∧ w'.cell? ⟨w.heap.size + 1, 5, none⟩ = some (.bool hf.s2) ∧ w'.cell? ⟨w.heap.size + 1, 6, none⟩ = some (.slice va6 vn6 vc6) ∧ w'.cell? ⟨w.heap.size + 1, 7, none⟩ = some (.slice va7 vn7 vc7) ∧ w'.cell? ⟨w.heap.size + 1, 8, none⟩ = some (.string hf.x) ∧ w'.cell? ⟨w.heap.size + 1, 9, none⟩ = some (.slice va9 vn9 vc9) ∧ w'.cell? ⟨w.heap.size + 1, 10, none⟩ = some (.slice va10 vn10 vc10) ∧ w'.cell? ⟨p, 1, none⟩ = some (.int .i64 1) ∧ w'.cell? ⟨p, 2, none⟩ = some (.map (some r)))
    (first | exact hkeep | exact hkeepA _ | exact hkeepU _)
    (first
      | (go_at_call_of 21 (Value.agg #[.int .i64 he.k, .int .i64 he.n, .bool he.s1, .slice ka3 kn3 kc3, .slice ka4 kn4 kc4, .bool he.s2, .slice ka6 kn6 kc6, .slice ka7 kn7 kc7, .string he.x, .slice ka9 kn9 kc9, .slice ka10 kn10 kc10])
         refine (KCkey.out _ hacc).mono ?_
         rintro x wA ⟨CA, rfl, hICA, hby⟩
         obtain ⟨hA, lA, xa3, xa4, xa6, xa7, xa9, xa10, xn3, xn4, xn6, xn7, xn9, xn10, xc3, xc4, xc6, xc7, xc9, xc10, eCA, et1, et2, et3⟩ := Tr.In.form2 hICA
         clear et1 et2 et3
         have e9 : CA = #[.int .i64 hA.k, .int .i64 hA.n, .bool hA.s1, .slice xa3 xn3 xc3, .slice xa4 xn4 xc4, .bool hA.s2, .slice xa6 xn6 xc6, .slice xa7 xn7 xc7, .string hA.x, .slice xa9 xn9 xc9, .slice xa10 xn10 xc10] := eCA
         clear eCA
         subst e9
         have HCA := Lib.hid (Tr.In.mono (S' := fun q => W1.heap.size ≤ q) (fun q hq => Nat.le_trans hacc.size hq) _ _ hICA)
         try have HCB := Lib.hid (Tr.In.below HCB.out hby (Nat.le_refl _))
         have hacc := hacc.trans (hby.mono hacc.size)
         clear hICA hby
         have hkeep := HS.out _ (fun q hq hr => hacc.block q hq)
         have hU := fun o => Tb.fin W1 wA o nm r hacc lr
         have hmu : ∀ o, (Instr.mapUpdate 59 (.map (some r)) (.string nm) (.pointer (some ⟨wA.heap.size, 0, none⟩))).run Tryz.prog (wA.alloc o) = .ok () (Tb.upd (wA.alloc o) r nm wA.heap.size) := fun o => Tb.update_first _ r 0 nm _ ((Lib.alloc_old _ _ _ (Nat.lt_of_lt_of_le lr hacc.size)).trans ((hacc.block r lr).trans QR.out))
         have hkeepA := fun o => HS.out (wA.alloc o) (fun q hq hr => (hacc.alloc hacc.size o).block q hq)
         have hkeepU := fun o => HS.out (Tb.upd (wA.alloc o) r nm wA.heap.size) (fun q hq hr => ((hU o).2.2.1 q hr (Nat.lt_of_lt_of_le hq hacc.size)).trans (hacc.block q hq))
         have HFIN := Lib.hid (And.intro hacc hU))
      | (go_at_call_of 21 (Value.agg #[.int .i64 hf.k, .int .i64 hf.n, .bool hf.s1, .slice va3 vn3 vc3, .slice va4 vn4 vc4, .bool hf.s2, .slice va6 vn6 vc6, .slice va7 vn7 vc7, .string hf.x, .slice va9 vn9 vc9, .slice va10 vn10 vc10])
         refine (KCval.out _ hacc).mono ?_
         rintro x wB ⟨CB, rfl, hICB, hby⟩
         obtain ⟨hB, lB, za3, za4, za6, za7, za9, za10, zn3, zn4, zn6, zn7, zn9, zn10, zc3, zc4, zc6, zc7, zc9, zc10, eCB, et1, et2, et3⟩ := Tr.In.form2 hICB
         clear et1 et2 et3
         have e9 : CB = #[.int .i64 hB.k, .int .i64 hB.n, .bool hB.s1, .slice za3 zn3 zc3, .slice za4 zn4 zc4, .bool hB.s2, .slice za6 zn6 zc6, .slice za7 zn7 zc7, .string hB.x, .slice za9 zn9 zc9, .slice za10 zn10 zc10] := eCB
         clear eCB
         subst e9
         have HCB := Lib.hid (Tr.In.mono (S' := fun q => W1.heap.size ≤ q) (fun q hq => Nat.le_trans hacc.size hq) _ _ hICB)
         try have HCA := Lib.hid (Tr.In.below HCA.out hby (Nat.le_refl _))
         have hacc := hacc.trans (hby.mono hacc.size)
         clear hICB hby
         have hkeep := HS.out _ (fun q hq hr => hacc.block q hq)
         have hU := fun o => Tb.fin W1 wB o nm r hacc lr
         have hmu : ∀ o, (Instr.mapUpdate 59 (.map (some r)) (.string nm) (.pointer (some ⟨wB.heap.size, 0, none⟩))).run Tryz.prog (wB.alloc o) = .ok () (Tb.upd (wB.alloc o) r nm wB.heap.size) := fun o => Tb.update_first _ r 0 nm _ ((Lib.alloc_old _ _ _ (Nat.lt_of_lt_of_le lr hacc.size)).trans ((hacc.block r lr).trans QR.out))
         have hkeepA := fun o => HS.out (wB.alloc o) (fun q hq hr => (hacc.alloc hacc.size o).block q hq)
         have hkeepU := fun o => HS.out (Tb.upd (wB.alloc o) r nm wB.heap.size) (fun q hq hr => ((hU o).2.2.1 q hr (Nat.lt_of_lt_of_le hq hacc.size)).trans (hacc.block q hq))
         have HFIN := Lib.hid (And.intro hacc hU)))
  all_goals
    clear hkeep hkeepA hkeepU hmu hU hacc
    go_wp2_with fail
    go_ret
    refine ⟨rfl, ⟨_, (HFIN.out.2 _).1, _, #[.int .i64 hA.k, .int .i64 hA.n, .bool hA.s1, .slice xa3 xn3 xc3, .slice xa4 xn4 xc4, .bool hA.s2, .slice xa6 xn6 xc6, .slice xa7 xn7 xc7, .string hA.x, .slice xa9 xn9 xc9, .slice xa10 xn10 xc10], #[.int .i64 hB.k, .int .i64 hB.n, .bool hB.s1, .slice za3 zn3 zc3, .slice za4 zn4 zc4, .bool hB.s2, .slice za6 zn6 zc6, .slice za7 zn7 zc7, .string hB.x, .slice za9 zn9 zc9, .slice za10 zn10 zc10], (HFIN.out.2 _).2.1, fun j hj => ?_, fun j hj => ?_, ?_, ?_⟩, ((HFIN.out.2 _).2.2.1 p hpr (Nat.lt_of_lt_of_le HSZ.out.2.1 HFIN.out.1.size)).trans ((HFIN.out.1.block p HSZ.out.2.1).trans QP.out), fun q hq hqp hqr => ((HFIN.out.2 _).2.2.1 q hqr (by have := HSZ.out.1; have := HFIN.out.1.size; omega)).trans ((HFIN.out.1.block q (by have := HSZ.out.1; omega)).trans (HOLD.out q hq hqp)), (HFIN.out.2 _).2.2.2.2 _ _ HBW.out (Nat.min_le_right p r) (by omega)⟩
    · match j, hj with
      | 0, _ => rfl | 1, _ => rfl | 2, _ => rfl | 3, _ => rfl | 4, _ => rfl | 5, _ => rfl | 6, _ => rfl | 7, _ => rfl | 8, _ => rfl | 9, _ => rfl | 10, _ => rfl | n + 11, h => omega
    · match j, hj with
      | 0, _ => rfl | 1, _ => rfl | 2, _ => rfl | 3, _ => rfl | 4, _ => rfl | 5, _ => rfl | 6, _ => rfl | 7, _ => rfl | 8, _ => rfl | 9, _ => rfl | 10, _ => rfl | n + 11, h => omega
    · exact Tr.In.mono (fun _ _ => trivial) _ _ (Tr.In.kept (S := fun q => W1.heap.size ≤ q) ⟨(HFIN.out.2 _).2.2.2.1, fun q hq hl => (HFIN.out.2 _).2.2.1 q (fun e => by have : W1.heap.size ≤ q := hq; omega) hl⟩ _ _ HCA.out)
    · exact Tr.In.mono (fun _ _ => trivial) _ _ (Tr.In.kept (S := fun q => W1.heap.size ≤ q) ⟨(HFIN.out.2 _).2.2.2.1, fun q hq hl => (HFIN.out.2 _).2.2.1 q (fun e => by have : W1.heap.size ≤ q := hq; omega) hl⟩ _ _ HCB.out)

set_option maxHeartbeats 2000000 in
set_option maxRecDepth 1000000 in
theorem Tb.Get_found (K : Int) (p r x : Nat) (last : Value) (key key0 val : Tr) (nm : ByteArray) (hnm : (nm == nm) = true) (vk : Value) (w : World) (hp : w.heap[p]? = some (.cells #[.int .i64 K, last, .map (some r)] 61 (0, 0))) (hr : w.heap[r]? = some (.map #[{ key := .string nm, val := .pointer (some ⟨x, 0, none⟩), born := 0 }] 1))
    (hE : Tb.Ent w x key0 val) (hk : Tr.In w (fun _ => True) key vk) (hsv : Tr.sound val = true) (hT : Tr.Tabs w) (KN : Tb.Names K p last (.map (some r)) key [] nm 0) :
    Calls Tryz.prog 12 #[.pointer (some ⟨p, 0, none⟩), vk] w fun e w' => ∃ v', e = .returned (.tuple #[v', .int .i64 0]) ∧ Tr.In w' (fun _ => True) val v' ∧ Below w.heap.size w w' := by
  have hrl : r < w.heap.size := (Array.getElem?_eq_some_iff.1 hr).1
  obtain ⟨C, CK0, CV, hx, hcK, hcV, hI0, hIv⟩ := hE
  have hxl : x < w.heap.size := (Array.getElem?_eq_some_iff.1 hx).1
  have hs11 := hIv.size11
  obtain ⟨hf, lf, va3, va4, va6, va7, va9, va10, vn3, vn4, vn6, vn7, vn9, vn10, vc3, vc4, vc6, vc7, vc9, vc10, eCv, etv1, etv2, etv3⟩ := Tr.In.form2 hIv
  have eC3 : CV = #[.int .i64 hf.k, .int .i64 hf.n, .bool hf.s1, .slice va3 vn3 vc3, .slice va4 vn4 vc4, .bool hf.s2, .slice va6 vn6 vc6, .slice va7 vn7 vc7, .string hf.x, .slice va9 vn9 vc9, .slice va10 vn10 vc10] := eCv
  clear eCv
  subst eC3
  obtain ⟨CK, rfl⟩ := hk.agg
  have hpl : p < w.heap.size := (Array.getElem?_eq_some_iff.1 hp).1
  obtain ⟨he, le, ka3, ka4, ka6, ka7, ka9, ka10, kn3, kn4, kn6, kn7, kn9, kn10, kc3, kc4, kc6, kc7, kc9, kc10, eCk, etk1, etk2, etk3⟩ := Tr.In.form2 hk
  have eC2 : CK = #[.int .i64 he.k, .int .i64 he.n, .bool he.s1, .slice ka3 kn3 kc3, .slice ka4 kn4 kc4, .bool he.s2, .slice ka6 kn6 kc6, .slice ka7 kn7 kc7, .string he.x, .slice ka9 kn9 kc9, .slice ka10 kn10 kc10] := eCk
  clear eCk
  subst eC2
  obtain ⟨n0, n1, n2, n3⟩ := Sm.two w (.cells #[.int .i64 he.k, .int .i64 he.n, .bool he.s1, .slice ka3 kn3 kc3, .slice ka4 kn4 kc4, .bool he.s2, .slice ka6 kn6 kc6, .slice ka7 kn7 kc7, .string he.x, .slice ka9 kn9 kc9, .slice ka10 kn10 kc10] 37) (.cells #[.int .i64 0, .int .i64 0, .bool false, .slice none 0 0, .slice none 0 0, .bool false, .slice none 0 0, .slice none 0 0, .string ⟨#[]⟩, .slice none 0 0, .slice none 0 0] 37)
  have KNN := KN _ _ _ (Tr.In.below hk n3 (Nat.le_refl _)) (Tb.More.nil _) ((n3.block p hpl).trans hp) (hT.below n3)
  have HN := Lib.hid (And.intro n1 (And.intro n2 n3))
  have HC := Lib.hid hcV
  have HX := Lib.hid (And.intro hp (And.intro hr hx))
  have HIV := Lib.hid (And.intro hIv hsv)
  clear hp hr hx hcK hcV hI0 hIv hk hsv hT KN n0 n1 n2 n3 hs11 etk1 etk2 etk3 etv1 etv2 etv3
  go_enter Tryz.func12, Tryz.ntmps12
  go_wp2_with fail
  refine KNN.mono ?_
  rintro y w1 ⟨rfl, hb1⟩
  have hbw := HN.out.2.2.trans (hb1.mono HN.out.2.2.size)
  have qp := (hbw.block p hpl).trans HX.out.1
  have qr := (hbw.block r hrl).trans HX.out.2.1
  have qx := (hbw.block x hxl).trans HX.out.2.2
  have q1 := (hb1.block (w.heap.size + 1) (by have := HN.out.2.1; omega)).trans HN.out.1
  have Q1 := Lib.hid q1
  have HB1 := Lib.hid hbw
  have p2 : w1.cell? ⟨p, 2, none⟩ = some (.map (some r)) := Rt.cell_of qp 2
  have hlk := Tb.lookup_one w1 r 1 0 nm (.pointer (some ⟨x, 0, none⟩)) hnm qr
  have d0 : w1.cell? ⟨x, 11, none⟩ = some (.int .i64 hf.k) := (Rt.cell_of qx 11).trans (HC.out 0 (by decide))
  have d1 : w1.cell? ⟨x, 12, none⟩ = some (.int .i64 hf.n) := (Rt.cell_of qx 12).trans (HC.out 1 (by decide))
  have d2 : w1.cell? ⟨x, 13, none⟩ = some (.bool hf.s1) := (Rt.cell_of qx 13).trans (HC.out 2 (by decide))
  have d3 : w1.cell? ⟨x, 14, none⟩ = some (.slice va3 vn3 vc3) := (Rt.cell_of qx 14).trans (HC.out 3 (by decide))
  have d4 : w1.cell? ⟨x, 15, none⟩ = some (.slice va4 vn4 vc4) := (Rt.cell_of qx 15).trans (HC.out 4 (by decide))
  have d5 : w1.cell? ⟨x, 16, none⟩ = some (.bool hf.s2) := (Rt.cell_of qx 16).trans (HC.out 5 (by decide))
  have d6 : w1.cell? ⟨x, 17, none⟩ = some (.slice va6 vn6 vc6) := (Rt.cell_of qx 17).trans (HC.out 6 (by decide))
  have d7 : w1.cell? ⟨x, 18, none⟩ = some (.slice va7 vn7 vc7) := (Rt.cell_of qx 18).trans (HC.out 7 (by decide))
  have d8 : w1.cell? ⟨x, 19, none⟩ = some (.string hf.x) := (Rt.cell_of qx 19).trans (HC.out 8 (by decide))
  have d9 : w1.cell? ⟨x, 20, none⟩ = some (.slice va9 vn9 vc9) := (Rt.cell_of qx 20).trans (HC.out 9 (by decide))
  have d10 : w1.cell? ⟨x, 21, none⟩ = some (.slice va10 vn10 vc10) := (Rt.cell_of qx 21).trans (HC.out 10 (by decide))
  have KC := Tr.Copy_any val _ _ w1 (Tr.In.below HIV.out.1 hbw (Nat.le_refl _)) HIV.out.2
  clear qp qr qx q1 hb1 hbw KNN
  go_wp2_with fail
  refine KC.mono ?_
  rintro y w2 ⟨CA, rfl, hIA, hb2⟩
  obtain ⟨hA, lA, xa3, xa4, xa6, xa7, xa9, xa10, xn3, xn4, xn6, xn7, xn9, xn10, xc3, xc4, xc6, xc7, xc9, xc10, eCA, et1, et2, et3⟩ := Tr.In.form2 hIA
  clear et1 et2 et3
  have e9 : CA = #[.int .i64 hA.k, .int .i64 hA.n, .bool hA.s1, .slice xa3 xn3 xc3, .slice xa4 xn4 xc4, .bool hA.s2, .slice xa6 xn6 xc6, .slice xa7 xn7 xc7, .string hA.x, .slice xa9 xn9 xc9, .slice xa10 xn10 xc10] := eCA
  clear eCA
  subst e9
  have q2 := (hb2.block (w.heap.size + 1) (Array.getElem?_eq_some_iff.1 Q1.out).1).trans Q1.out
  have hbw2 := HB1.out.trans (hb2.mono HB1.out.size)
  have HIA := Lib.hid hIA
  have HLT := Lib.hid (Array.getElem?_eq_some_iff.1 Q1.out).1
  clear hb2 KC d0 d1 d2 d3 d4 d5 d6 d7 d8 d9 d10 hlk p2 hIA
  obtain ⟨W1, W2, W3, W4, W5, W6, W7, W8, W9, W10, W11, ⟨f0, z0, g0, s0⟩, ⟨f1, z1, g1, s1⟩, ⟨f2, z2, g2, s2⟩, ⟨f3, z3, g3, s3⟩, ⟨f4, z4, g4, s4⟩, ⟨f5, z5, g5, s5⟩, ⟨f6, z6, g6, s6⟩, ⟨f7, z7, g7, s7⟩, ⟨f8, z8, g8, s8⟩, ⟨f9, z9, g9, s9⟩, ⟨f10, z10, g10, s10⟩, q4, hszz, hoth, hbb⟩ := Dt.put11 q2 (.int .i64 hA.k) (.int .i64 hA.n) (.bool hA.s1) (.slice xa3 xn3 xc3) (.slice xa4 xn4 xc4) (.bool hA.s2) (.slice xa6 xn6 xc6) (.slice xa7 xn7 xc7) (.string hA.x) (.slice xa9 xn9 xc9) (.slice xa10 xn10 xc10)
  have HE := Lib.hid (hbb w.heap.size w hbw2 (Nat.le_succ _))
  obtain ⟨r0, r1, r2, r3, r4, r5, r6, r7, r8, r9, r10⟩ := Dt.cells11 q4
  have HIW : Hid (Tr.In W11 (fun _ => True) val (.agg #[.int .i64 hA.k, .int .i64 hA.n, .bool hA.s1, .slice xa3 xn3 xc3, .slice xa4 xn4 xc4, .bool hA.s2, .slice xa6 xn6 xc6, .slice xa7 xn7 xc7, .string hA.x, .slice xa9 xn9 xc9, .slice xa10 xn10 xc10])) := Lib.hid (Tr.In.mono (fun _ _ => trivial) _ _ (Tr.In.kept (S := fun q => w1.heap.size ≤ q) ⟨by rw [hszz]; exact Nat.le_refl _, fun q hq hl => hoth q (fun e => by have : w1.heap.size ≤ q := hq; have := HLT.out; omega)⟩ _ _ HIA.out))
  clear hbb hszz q4 q2 hoth hbw2
  go_wp2_with fail
  refine bodyPost_ret (v := .tuple #[.agg #[.int .i64 hA.k, .int .i64 hA.n, .bool hA.s1, .slice xa3 xn3 xc3, .slice xa4 xn4 xc4, .bool hA.s2, .slice xa6 xn6 xc6, .slice xa7 xn7 xc7, .string hA.x, .slice xa9 xn9 xc9, .slice xa10 xn10 xc10], .int .i64 0]) (by simp [results, Tryz.results12, go_sem, r0, r1, r2, r3, r4, r5, r6, r7, r8, r9, r10]) rfl ⟨_, rfl, HIW.out, HE.out⟩

/-- A datum of a kind, a number and a text. -/
def Tb.leaf (k n : Int) (s : ByteArray) : Tr := .mk ⟨k, n, false, [], [], false, [], [], s, ⟨#[]⟩⟩ []
def Tb.leafV (k n : Int) (s : ByteArray) : Value := .agg #[.int .i64 k, .int .i64 n, .bool false, .slice none 0 0, .slice none 0 0, .bool false, .slice none 0 0, .slice none 0 0, .string s, .slice none 0 0, .slice none 0 0]
theorem Tb.leaf_in (k n : Int) (s : ByteArray) (w : World) (hk : -9223372036854775808 ≤ k ∧ k ≤ 9223372036854775807) (hn : -9223372036854775808 ≤ n ∧ n ≤ 9223372036854775807) (hs : s.size ≤ maxLen) : Tr.In w (fun _ => True) (Tb.leaf k n s) (Tb.leafV k n s) := by
  unfold Tb.leaf
  rw [Tr.In_mk]
  exact ⟨.slice none 0 0, .slice none 0 0, .slice none 0 0, .slice none 0 0, .slice none 0 0, .slice none 0 0, rfl, ⟨⟨hk.1, hk.2, hn.1, hn.2, fun x h => by simp at h, fun x h => by simp at h, fun x h => by simp at h, fun x h => by simp at h, Nat.zero_le _, Nat.zero_le _, Nat.zero_le _, Nat.zero_le _, hs, Nat.zero_le _⟩, .inl ⟨rfl, rfl⟩, .inl ⟨rfl, rfl⟩, .inl ⟨rfl, rfl⟩, .inl ⟨rfl, rfl⟩, .inl ⟨rfl, rfl⟩, fun h => absurd h (Nat.lt_irrefl 0), fun h => absurd h (Nat.lt_irrefl 0), fun h => absurd h (Nat.lt_irrefl 0), fun h => absurd h (Nat.lt_irrefl 0), fun h => absurd h (Nat.lt_irrefl 0)⟩, .inl ⟨rfl, rfl⟩⟩
/-- Which texts are sound. -/
theorem Tb.leaf_text (s : ByteArray) : Tr.sound (Tb.leaf 5 0 s) = Lib.validD s.data.toList := by
  unfold Tr.sound Tb.leaf
  have hsh : Tr.Hd.shape ⟨5, 0, false, [], [], false, [], [], s, ⟨#[]⟩⟩ 0 = Lib.validD s.data.toList := by
    unfold Tr.Hd.shape Tr.Hd.num Rt.noRat Tr.isText Tr.own
    have e : (⟨#[]⟩ : ByteArray).size = 0 := rfl
    simp only [e]
    simp
  cases h : Lib.validD s.data.toList
  · rw [Tr.snd_bad (.inr (.inr (by rw [List.length_nil, hsh, h])))]
  · rw [Tr.snd_list (by rw [List.length_nil, hsh, h]; decide) (show (5 : Int) ≠ 8 by decide), Tr.sndL_nil]
theorem Tb.leaf_bool : Tr.sound (Tb.leaf 2 0 ⟨#[]⟩) = true := by
  unfold Tr.sound Tb.leaf
  have hsh : Tr.Hd.shape ⟨2, 0, false, [], [], false, [], [], ⟨#[]⟩, ⟨#[]⟩⟩ 0 = true := by decide +kernel
  rw [Tr.snd_list (by rw [List.length_nil, hsh]; decide) (by decide), Tr.sndL_nil]
/-- A sound text's name in a table of kind 2. -/
theorem Tb.names2 (p : Nat) (last mp : Value) (key : Tr) (more : List Tr) (hsk : ∀ t ∈ more ++ [key], Tr.sound t = true) (h5 : key.hd.k = 5) (hx : key.hd.x.size ≤ 8796093022208) : Tb.Names 2 p last mp key more ⟨(Ch.foldL key.hd.x.data.toList).toArray⟩ 0 := by
  intro w vk vm hk hm hp hT
  have h := Tb.name2_any key more p last mp vk vm w hk hm hp hT hx
  have e : Tb.nm2 (more ++ [key]) key = (⟨(Ch.foldL key.hd.x.data.toList).toArray⟩, 0) := by
    unfold Tb.nm2
    rw [if_neg (by rw [List.all_eq_true.2 hsk]; decide), if_pos h5]
  rwa [e] at h

/-- What told answers. -/
def Tm.ToldSays (t : Tr) : Prop := ∀ (S : Nat → Prop) (C : Array Value) (w : World), Tr.In w S t (.agg C) → Tr.good t → Wt.fit t → Tr.size t ≤ 1000000 → Wt.Tabs w →
  Calls Tryz.prog 34 #[.agg C] w fun e w' => e = .returned (.string (Tx.str (Tm.told t))) ∧ Below w.heap.size w w'
theorem Tm.leaf_nil {h : Tr.Hd} {l : List Tr} (hs : h.shape l.length = true) (h8 : h.k ≠ 8) (h9 : h.k ≠ 9) : l = [] := by
  unfold Tr.Hd.shape Tr.own at hs
  simp only [Bool.and_eq_true, if_neg h8, if_neg h9] at hs
  have h := hs.2
  have h0 : decide (l.length = 0) = true := by
    split at h
    · simp only [Bool.and_eq_true] at h; exact h.2
    · split at h
      · simp only [Bool.and_eq_true] at h; exact h.2
      · simp only [Bool.and_eq_true] at h; exact h.2
  exact List.eq_nil_of_length_eq_zero (of_decide_eq_true h0)
theorem Tm.shape_valid {h : Tr.Hd} {n : Nat} (hs : h.shape n = true) : Lib.validD h.x.data.toList = true := by
  unfold Tr.Hd.shape at hs
  simp only [Bool.and_eq_true] at hs
  exact hs.1.1.2
theorem Tm.leaf_sound {h : Tr.Hd} (hs : h.shape 0 = true) (h8 : h.k ≠ 8) : Tr.sound (.mk h []) = true := by
  unfold Tr.sound
  rw [Tr.snd_list (by rw [List.length_nil, hs]; decide) h8, Tr.sndL_nil]
theorem Tm.leaf_write {h : Tr.Hd} (hs : h.shape 0 = true) (h8 : h.k ≠ 8) (h9 : h.k ≠ 9) : Wt.answer true (.mk h []) = .tuple #[.string (Tx.str (Wt.atom true h [])), .int .i64 0] := by
  unfold Wt.answer
  rw [if_pos (Tm.leaf_sound hs h8), Wt.tell_atom h8, Wt.row_nil]
theorem Tm.text_write {x : ByteArray} (hv : Lib.validD x.data.toList = true) : Wt.answer true (Tb.leaf 5 0 x) = .tuple #[.string (Tx.str (Wt.str x.data.toList)), .int .i64 0] := by
  unfold Wt.answer
  rw [if_pos (by rw [Tb.leaf_text]; exact hv)]
  unfold Tb.leaf
  rw [Wt.tell_atom (by show (5 : Int) ≠ 8; decide)]
  rfl
theorem Tm.len_size : ∀ (l : List Tr), l.length ≤ Tr.sizeL l
  | [] => Nat.zero_le _
  | t :: ts => by
    rw [Tr.sizeL_cons, List.length_cons]
    have h1 := Tm.len_size ts
    have h2 := Tr.size_pos t
    omega
theorem Tm.str_size (l : List UInt8) : (Tx.str l).size = l.length := by
  unfold Tx.str
  show l.toArray.size = _
  simp
set_option maxHeartbeats 1000000 in
set_option maxRecDepth 1000000 in
theorem Tm.told_sym (K : Int) (hK : K = 6 ∨ K = 11) (n : Int) (s1 s2 : Bool) (v3 v4 v6 v7 v9 v10 : Value) (x : ByteArray) (w : World) (hx : x.size ≤ 1048576) (hv : Lib.validD x.data.toList = true) (hT : Wt.Tabs w) :
    Calls Tryz.prog 34 #[.agg #[.int .i64 K, .int .i64 n, .bool s1, v3, v4, .bool s2, v6, v7, .string x, v9, v10]] w fun e w' => e = .returned (.string (Tx.str (Lib.encodeRune (65 + K) ++ Wt.str x.data.toList))) ∧ Below w.heap.size w w' := by
  obtain ⟨W0, hW0⟩ : ∃ z, w.alloc (.cells #[.int .i64 K, .int .i64 n, .bool s1, v3, v4, .bool s2, v6, v7, .string x, v9, v10] 37) = z := ⟨_, rfl⟩
  have hb0 : Below w.heap.size w W0 := by rw [← hW0]; exact (Below.refl _ _).alloc (Nat.le_refl _) _
  have hq0 : W0.heap[w.heap.size]? = some (.cells #[.int .i64 K, .int .i64 n, .bool s1, v3, v4, .bool s2, v6, v7, .string x, v9, v10] 37 (0, 0)) := by rw [← hW0]; exact heap_alloc_new w _
  have HL := Lib.hid (Lib.cell_of_heap hq0)
  have q0 := HL.out 0
  have q8 := HL.out 8
  obtain ⟨X, hX⟩ : ∃ z, z = Tx.str (Wt.str x.data.toList) := ⟨_, rfl⟩
  have hxs : X.size ≤ 16777004 := by
    rw [hX, Tm.str_size]
    have h1 := Wt.str_len x.data.toList
    have h2 : x.data.toList.length = x.size := by simp
    omega
  have KW := Wt.Write_any (Tb.leaf 5 0 x) (fun _ => True) (Tb.leafV 5 0 x) W0 (Tb.leaf_in 5 0 x W0 (by decide) (by decide) (by unfold maxLen; omega)) (hT.below hb0) (by unfold Tb.leaf; exact Wt.fit_mk.2 ⟨⟨hx, Nat.zero_le _⟩, Wt.fitL_nil⟩)
  rw [Tm.text_write hv, ← hX] at KW
  unfold Tb.leafV at KW
  have hcat : (9223372036854775807 < 1 + X.size) = False := eq_false (by omega)
  have hcat6 : (9223372036854775807 < (Utf8.encode 71).size + X.size) = False := eq_false (by have : (Utf8.encode 71).size = 1 := rfl; omega)
  have hcat7 : (9223372036854775807 < (Utf8.encode 76).size + X.size) = False := eq_false (by have : (Utf8.encode 76).size = 1 := rfl; omega)
  have HB := Lib.hid hb0
  have HX := Lib.hid hX
  clear hq0 hb0 hT hx hv hX hxs
  rcases hK with rfl | rfl
  all_goals
    have q0 := q0
    go_enter Tryz.func34, Tryz.ntmps34
    go_wp2_with fail
    refine KW.mono ?_
    rintro e w1 ⟨rfl, hb1⟩
    have q0 := (hb1.cell (p := ⟨w.heap.size, 0, none⟩) (by have := World.block_lt_of_cell? W0 _ q0; exact this)).trans q0
    have HB1 := Lib.hid (HB.out.trans (hb1.mono HB.out.size))
    clear hb1 KW
    go_wp2_with fail
    go_ret
    refine ⟨?_, HB1.out⟩
    rw [HX.out, Sl.encode_eq]
    show Ending.returned (.string (Tx.str (Lib.encodeRune _) ++ Tx.str (Wt.str x.data.toList))) = _
    rw [Tx.str_append]
    rfl
set_option maxHeartbeats 1000000 in
set_option maxRecDepth 1000000 in
theorem Tm.told_atom (h : Tr.Hd) (S : Nat → Prop) (C : Array Value) (w : World) (hI : Tr.In w S (.mk h []) (.agg C)) (hs : h.shape 0 = true) (hf : Wt.fit (.mk h [])) (h8 : h.k ≠ 8) (h9 : h.k ≠ 9) (hT : Wt.Tabs w) :
    Calls Tryz.prog 34 #[.agg C] w fun e w' => e = .returned (.string (Tx.str (Tm.leaf h))) ∧ Below w.heap.size w w' := by
  have hI0 := hI
  obtain ⟨he, le, ea3, ea4, ea6, ea7, ea9, ea10, en3, en4, en6, en7, en9, en10, ec3, ec4, ec6, ec7, ec9, ec10, eCb, etb, hHb, hLb⟩ := Tr.In.form2 hI
  have e2b : C = #[.int .i64 he.k, .int .i64 he.n, .bool he.s1, .slice ea3 en3 ec3, .slice ea4 en4 ec4, .bool he.s2, .slice ea6 en6 ec6, .slice ea7 en7 ec7, .string he.x, .slice ea9 en9 ec9, .slice ea10 en10 ec10] := eCb
  clear eCb
  subst e2b
  have hee : he = h := by cases etb; rfl
  subst hee
  by_cases h6 : he.k = 6 ∨ he.k = 11
  · have e : Tm.leaf he = Lib.encodeRune (65 + he.k) ++ Wt.str he.x.data.toList := by unfold Tm.leaf; rw [if_pos h6]
    rw [e]
    exact Tm.told_sym he.k h6 he.n he.s1 he.s2 _ _ _ _ _ _ he.x w (Wt.fit_mk.1 hf).1.1 (Tm.shape_valid hs) hT
  · have e : Tm.leaf he = 32 :: Wt.atom true he [] := by unfold Tm.leaf; rw [if_neg h6]
    rw [e]
    obtain ⟨W0, hW0⟩ : ∃ z, w.alloc (.cells #[.int .i64 he.k, .int .i64 he.n, .bool he.s1, .slice ea3 en3 ec3, .slice ea4 en4 ec4, .bool he.s2, .slice ea6 en6 ec6, .slice ea7 en7 ec7, .string he.x, .slice ea9 en9 ec9, .slice ea10 en10 ec10] 37) = z := ⟨_, rfl⟩
    have hb0 : Below w.heap.size w W0 := by rw [← hW0]; exact (Below.refl _ _).alloc (Nat.le_refl _) _
    have hq0 : W0.heap[w.heap.size]? = some (.cells #[.int .i64 he.k, .int .i64 he.n, .bool he.s1, .slice ea3 en3 ec3, .slice ea4 en4 ec4, .bool he.s2, .slice ea6 en6 ec6, .slice ea7 en7 ec7, .string he.x, .slice ea9 en9 ec9, .slice ea10 en10 ec10] 37 (0, 0)) := by rw [← hW0]; exact heap_alloc_new w _
    obtain ⟨q0, q1, q2, q3, q4, q5, q6, q7, q8, q9, q10⟩ := Dt.cells11 hq0
    obtain ⟨X, hX⟩ : ∃ z, z = Tx.str (Wt.atom true he []) := ⟨_, rfl⟩
    have hxs : X.size ≤ 16777004 := by
      rw [hX, Tm.str_size]
      have := Wt.atom_len true ([] : List UInt8) hs (Wt.fit_mk.1 hf).1.1 (Wt.fit_mk.1 hf).1.2
      simp only [List.length_nil] at this
      omega
    have KW := Wt.Write_any (.mk he []) S _ W0 (hI0.below hb0 (Nat.le_refl _)) (hT.below hb0) hf
    rw [Tm.leaf_write hs h8 h9, ← hX] at KW
    have hcat : (9223372036854775807 < 1 + X.size) = False := eq_false (by omega)
    have k8 : (he.k == 8) = false := by simpa using h8
    have k9 : (he.k == 9) = false := by simpa using h9
    have k6 : (he.k == 6) = false := by simpa using fun e => h6 (.inl e)
    have k11 : (he.k == 11) = false := by simpa using fun e => h6 (.inr e)
    have HB := Lib.hid hb0
    have HX := Lib.hid hX
    clear hq0 hb0 hT hf hs hX hxs hI hI0 h6 h8 h9 e hHb hLb etb
    go_enter Tryz.func34, Tryz.ntmps34
    go_wp2_with fail
    refine KW.mono ?_
    rintro e w1 ⟨rfl, hb1⟩
    have HB1 := Lib.hid (HB.out.trans (hb1.mono HB.out.size))
    clear hb1 KW
    go_wp2_with fail
    go_ret
    refine ⟨?_, HB1.out⟩
    rw [HX.out]
    rfl
set_option maxHeartbeats 2000000 in
set_option maxRecDepth 1000000 in
theorem Tm.told_vector (h : Tr.Hd) (l : List Tr) (IH : ∀ u, Tr.size u < Tr.size (.mk h l) → Tm.ToldSays u) (h9 : h.k = 9) : Tm.ToldSays (.mk h l) := by
  intro S C w hI hgood hfit hsz0 hT
  have hI0 := hI
  obtain ⟨he, le, ea3, ea4, ea6, ea7, ea9, ea10, en3, en4, en6, en7, en9, en10, ec3, ec4, ec6, ec7, ec9, ec10, eCb, etb, hHb, hLb⟩ := Tr.In.form2 hI
  have e2b : C = #[.int .i64 he.k, .int .i64 he.n, .bool he.s1, .slice ea3 en3 ec3, .slice ea4 en4 ec4, .bool he.s2, .slice ea6 en6 ec6, .slice ea7 en7 ec7, .string he.x, .slice ea9 en9 ec9, .slice ea10 en10 ec10] := eCb
  clear eCb
  subst e2b
  have hee : he = h ∧ le = l := by cases etb; exact ⟨rfl, rfl⟩
  obtain ⟨rfl, rfl⟩ := hee
  have hn10 : en10 = le.length := by
    obtain ⟨xa, xc, hv, _, _⟩ := Tr.Sl.slice hLb
    simp only [Value.slice.injEq] at hv
    exact hv.2.1
  obtain ⟨W0, hW0⟩ : ∃ z, w.alloc (.cells #[.int .i64 he.k, .int .i64 he.n, .bool he.s1, .slice ea3 en3 ec3, .slice ea4 en4 ec4, .bool he.s2, .slice ea6 en6 ec6, .slice ea7 en7 ec7, .string he.x, .slice ea9 en9 ec9, .slice ea10 en10 ec10] 37) = z := ⟨_, rfl⟩
  have hb0 : Below w.heap.size w W0 := by rw [← hW0]; exact (Below.refl _ _).alloc (Nat.le_refl _) _
  have hq0 : W0.heap[w.heap.size]? = some (.cells #[.int .i64 he.k, .int .i64 he.n, .bool he.s1, .slice ea3 en3 ec3, .slice ea4 en4 ec4, .bool he.s2, .slice ea6 en6 ec6, .slice ea7 en7 ec7, .string he.x, .slice ea9 en9 ec9, .slice ea10 en10 ec10] 37 (0, 0)) := by rw [← hW0]; exact heap_alloc_new w _
  obtain ⟨q0, q1, q2, q3, q4, q5, q6, q7, q8, q9, q10⟩ := Dt.cells11 hq0
  have k8 : (he.k == 8) = false := by rw [h9]; rfl
  have k9 : (he.k == 9) = true := by rw [h9]; rfl
  have hlen := (Tm.small (.mk he le) hgood hfit).1
  rw [Tm.told_vec h9, List.length_cons, List.length_append, List.length_singleton] at hlen
  have hlen2 : (Tm.toldL le).length + 2 ≤ 9000000000000000000 := by omega
  have HLEN := Lib.hid hlen2
  have HG := Lib.hid (And.intro (Tr.good_mk.1 hgood).2 (Wt.fit_mk.1 hfit).2)
  have HSZ := Lib.hid hsz0
  have HT := Lib.hid hT
  have HB := Lib.hid hb0
  have HLI := Lib.hid hLb
  have HIH := Lib.hid IH
  have HN := Lib.hid hn10
  have HANS := Lib.hid (Tm.told_vec (l := le) h9)
  clear hq0 hb0 hT hfit hgood hsz0 hI hI0 h9 hHb hLb etb IH hlen hlen2 hn10
  go_enter Tryz.func34, Tryz.ntmps34
  go_wp2_with fail
  go_loopg [4, 40] en10 (fun g s i wr => ∃ (k : Nat) (X : ByteArray) (pre : List UInt8), k + g = en10 ∧ s = .string X ∧ X = Tx.str pre ∧ i = .int .i64 k ∧ pre ++ Tm.toldL (le.drop k) = 91 :: Tm.toldL le ∧ Below w.heap.size w wr)
  case atStart => exact ⟨0, ⟨#[91]⟩, [91], by omega, rfl, rfl, rfl, rfl, HB.out⟩
  case round =>
    obtain ⟨k, X, pre, hkg, rfl, hX, rfl, hpre, hbw⟩ := hrel
    obtain ⟨wo, hwo⟩ : ∃ z, z = wr := ⟨_, rfl⟩
    subst hwo
    clear q0 q1 q2 q3 q4 q5 q6 q7 q8 q9 q10 hW0
    have hpl : pre.length + (Tm.toldL (le.drop k)).length = 1 + (Tm.toldL le).length := by
      have := congrArg List.length hpre
      rw [List.length_append, List.length_cons] at this
      omega
    have hxs : X.size = pre.length := by rw [hX, Tm.str_size]
    have HX := Lib.hid (And.intro hX (And.intro hpre (And.intro hpl hxs)))
    have HBW := Lib.hid hbw
    clear hX hpre hpl hxs hbw
    by_cases hlt : k < en10
    · have hltl : k < le.length := by rw [← HN.out]; exact hlt
      obtain ⟨tk, htk⟩ : ∃ t, le[k]? = some t := ⟨_, List.getElem?_eq_getElem hltl⟩
      obtain ⟨b2, off2, rfl, hx1, hx2, hx3, hb2lt, hS2, hall2⟩ := Tr.Sl.at HLI.out (by omega)
      clear hx1 hx2 hx3
      obtain ⟨Ck, hIk, hMk⟩ := Tr.All.at _ _ _ hall2 k tk htk
      rw [Nat.mul_comm 11 k] at hMk
      have hMk4 := hMk.kept (Tr.Kept.all HBW.out (Nat.le_refl _)) hS2 hb2lt
      have hdr : le.drop k = tk :: le.drop (k + 1) := by
        rw [List.drop_eq_getElem_cons hltl]
        rw [List.getElem?_eq_getElem hltl] at htk
        simp only [Option.some.injEq] at htk
        rw [htk]
      have hszt := Tr.size_lt (t := .mk he le) (k := k) htk
      have HK4 : Hid (k ≤ 1000000) := Lib.hid (by
        have h1 := Tm.len_size le
        have h2 := HSZ.out
        rw [Tr.size_mk] at h2
        omega)
      have KS := fun o => HIH.out tk hszt S Ck (wo.alloc o) (Tr.In.below (Tr.In.below hIk HBW.out (Nat.le_refl _)) ((Below.refl _ _).alloc (Nat.le_refl _) o) (Nat.le_refl _)) (Tr.goodL_at le HG.out.1 k tk htk) (Wt.fitL_at HG.out.2 htk) (by have := HSZ.out; omega) (HT.out.below ((HBW.out).trans (((Below.refl _ _).alloc (Nat.le_refl _) o).mono HBW.out.size)))
      obtain ⟨hf, lf, ra3, ra4, ra6, ra7, ra9, ra10, rn3, rn4, rn6, rn7, rn9, rn10, rc3, rc4, rc6, rc7, rc9, rc10, eCr, etr, hHr, hLr⟩ := Tr.In.form2 hIk
      have e2r : Ck = #[.int .i64 hf.k, .int .i64 hf.n, .bool hf.s1, .slice ra3 rn3 rc3, .slice ra4 rn4 rc4, .bool hf.s2, .slice ra6 rn6 rc6, .slice ra7 rn7 rc7, .string hf.x, .slice ra9 rn9 rc9, .slice ra10 rn10 rc10] := eCr
      clear eCr
      subst e2r
      obtain ⟨e0, e1, e2, e3, e4, e5, e6, e7, e8, e9, e10⟩ := Tr.Mem.cells hMk4
      obtain ⟨Y, hY⟩ : ∃ z, z = Tx.str (Tm.told tk) := ⟨_, rfl⟩
      rw [← hY] at KS
      have hcat : (9223372036854775807 < X.size + Y.size) = False := by
        refine eq_false ?_
        rw [hY, Tm.str_size, HX.out.2.2.2]
        have h1 := HX.out.2.2.1
        have h2 := HLEN.out
        rw [hdr, Tm.toldL_cons, List.length_append] at h1
        omega
      have HNEXT : Hid (X ++ Y = Tx.str (pre ++ Tm.told tk) ∧ (pre ++ Tm.told tk) ++ Tm.toldL (le.drop (k + 1)) = 91 :: Tm.toldL le) := Lib.hid (by
        have h1 := HX.out.2.1
        rw [hdr, Tm.toldL_cons, ← List.append_assoc] at h1
        exact ⟨by rw [HX.out.1, hY, Tx.str_append], h1⟩)
      have hbA : ∀ o, Below w.heap.size w (wo.alloc o) := fun o => HBW.out.alloc HBW.out.size o
      have HBA := Lib.hid hbA
      clear hIk hMk hMk4 hall2 htk etr hHr hLr hb2lt hS2 hbA hdr hszt hltl hY
      go_wp2_with fail
      refine (KS _).mono ?_
      rintro x w5 ⟨rfl, hb5⟩
      have HB5 := Lib.hid ((HBA.out _).trans (hb5.mono (HBA.out _).size))
      clear hb5 KS e0 e1 e2 e3 e4 e5 e6 e7 e8 e9 e10
      go_wp2_with fail
      go_roundg (gk - 1)
      case measure => omega
      case rel =>
        have hk4 : k ≤ 1000000 := HK4.out
        exact ⟨k + 1, X ++ Y, pre ++ Tm.told tk, by omega, rfl, HNEXT.out.1, by first | rfl | go_num | (simp; done) | (simp; unfold wrap64; omega), HNEXT.out.2, HB5.out⟩
    · have hk2 : k = en10 := by omega
      subst hk2
      have hend : pre = 91 :: Tm.toldL le := by
        have h1 := HX.out.2.1
        rw [HN.out, List.drop_length, Tm.toldL_nil, List.append_nil] at h1
        exact h1
      have hcat : (9223372036854775807 < X.size + 1) = False := by
        refine eq_false ?_
        rw [HX.out.2.2.2, hend, List.length_cons]
        have := HLEN.out
        omega
      have HEND : Hid (Ending.returned (.string (X ++ ⟨#[93]⟩)) = .returned (.string (Tx.str (Tm.told (.mk he le))))) := Lib.hid (by
        rw [HANS.out, HX.out.1, hend]
        show Ending.returned (.string (Tx.str (91 :: Tm.toldL le) ++ Tx.str [93])) = _
        rw [Tx.str_append]
        rfl)
      clear hend
      go_wp2_with fail
      go_ret
      exact ⟨HEND.out, HBW.out⟩
set_option maxHeartbeats 4000000 in
set_option maxRecDepth 1000000 in
theorem Tm.told_list (h : Tr.Hd) (l : List Tr) (IH : ∀ u, Tr.size u < Tr.size (.mk h l) → Tm.ToldSays u) (h8 : h.k = 8) : Tm.ToldSays (.mk h l) := by
  intro S C w hI hgood hfit hsz0 hT
  have hI0 := hI
  obtain ⟨he, le, ea3, ea4, ea6, ea7, ea9, ea10, en3, en4, en6, en7, en9, en10, ec3, ec4, ec6, ec7, ec9, ec10, eCb, etb, hHb, hLb⟩ := Tr.In.form2 hI
  have e2b : C = #[.int .i64 he.k, .int .i64 he.n, .bool he.s1, .slice ea3 en3 ec3, .slice ea4 en4 ec4, .bool he.s2, .slice ea6 en6 ec6, .slice ea7 en7 ec7, .string he.x, .slice ea9 en9 ec9, .slice ea10 en10 ec10] := eCb
  clear eCb
  subst e2b
  have hee : he = h ∧ le = l := by cases etb; exact ⟨rfl, rfl⟩
  obtain ⟨rfl, rfl⟩ := hee
  obtain ⟨T, hTT⟩ : ∃ z, z = Tr.mk he le := ⟨_, rfl⟩
  obtain ⟨W0, hW0⟩ : ∃ z, w.alloc (.cells #[.int .i64 he.k, .int .i64 he.n, .bool he.s1, .slice ea3 en3 ec3, .slice ea4 en4 ec4, .bool he.s2, .slice ea6 en6 ec6, .slice ea7 en7 ec7, .string he.x, .slice ea9 en9 ec9, .slice ea10 en10 ec10] 37) = z := ⟨_, rfl⟩
  have hb0 : Below w.heap.size w W0 := by rw [← hW0]; exact (Below.refl _ _).alloc (Nat.le_refl _) _
  have hq0 : W0.heap[w.heap.size]? = some (.cells #[.int .i64 he.k, .int .i64 he.n, .bool he.s1, .slice ea3 en3 ec3, .slice ea4 en4 ec4, .bool he.s2, .slice ea6 en6 ec6, .slice ea7 en7 ec7, .string he.x, .slice ea9 en9 ec9, .slice ea10 en10 ec10] 37 (0, 0)) := by rw [← hW0]; exact heap_alloc_new w _
  obtain ⟨q0, q1, q2, q3, q4, q5, q6, q7, q8, q9, q10⟩ := Dt.cells11 hq0
  have k8 : (he.k == 8) = true := by rw [h8]; rfl
  have hst : Tm.told (.mk he le) = 40 :: Tm.tolds (.mk he le) := by
    match le, Tr.Hd.shape_pair (Tr.good_mk.1 hgood).1 h8 with
    | [a, b], _ => rw [Tm.told_pair h8, Tm.tolds_pair h8]
  have hlen := (Tm.small (.mk he le) hgood hfit).1
  rw [← hTT] at hst hlen IH hI0 hgood hfit hsz0 ⊢
  have hlen2 : (Tm.told T).length + 2 ≤ 9000000000000000000 := by omega
  have HLEN := Lib.hid hlen2
  have HSZ := Lib.hid hsz0
  have HT := Lib.hid hT
  have HB := Lib.hid hb0
  have HIH := Lib.hid IH
  have HT8 : Hid (T.hd.k = 8) := Lib.hid (by rw [hTT]; exact h8)
  have H0 : Hid (∃ (pre : List UInt8) (u : Tr) (CU : Array Value) (X : ByteArray), Tr.size u = Tr.size T ∧ Value.string ⟨#[40]⟩ = .string X ∧ X = Tx.str pre ∧ pre ++ Tm.tolds u = Tm.told T ∧ Tr.In w S u (.agg CU) ∧ Tr.good u ∧ Wt.fit u ∧ (u = T ∨ Tr.size u < Tr.size T) ∧ W0.heap[w.heap.size]? = some (.cells CU 37 (0, 0)) ∧ Below w.heap.size w W0) := Lib.hid ⟨[40], T, _, ⟨#[40]⟩, rfl, rfl, rfl, by rw [hst]; rfl, hI0, hgood, hfit, .inl rfl, hq0, hb0⟩
  clear hq0 hb0 hT hfit hgood hsz0 hI hI0 h8 hHb hLb etb IH hlen hlen2 hst hTT
  go_enter Tryz.func34, Tryz.ntmps34
  go_wp2_with fail
  go_loopg [3] (Tr.size T) (fun g s wr => ∃ (pre : List UInt8) (u : Tr) (CU : Array Value) (X : ByteArray), Tr.size u = g ∧ s = .string X ∧ X = Tx.str pre ∧ pre ++ Tm.tolds u = Tm.told T ∧ Tr.In w S u (.agg CU) ∧ Tr.good u ∧ Wt.fit u ∧ (u = T ∨ Tr.size u < Tr.size T) ∧ wr.heap[w.heap.size]? = some (.cells CU 37 (0, 0)) ∧ Below w.heap.size w wr)
  case atStart => exact H0.out
  case round =>
    obtain ⟨pre, u, CU, X, hg, rfl, hX, hpre, hIu, hgu, hfu, huT, hqu, hbw⟩ := hrel
    obtain ⟨wo, hwo⟩ : ∃ z, z = wr := ⟨_, rfl⟩
    subst hwo
    clear q0 q1 q2 q3 q4 q5 q6 q7 q8 q9 q10 hW0 H0
    have hIu0 := hIu
    obtain ⟨hu, lu, ua3, ua4, ua6, ua7, ua9, ua10, un3, un4, un6, un7, un9, un10, uc3, uc4, uc6, uc7, uc9, uc10, eCu, etu, hHu, hLu⟩ := Tr.In.form2 hIu
    have e2u : CU = #[.int .i64 hu.k, .int .i64 hu.n, .bool hu.s1, .slice ua3 un3 uc3, .slice ua4 un4 uc4, .bool hu.s2, .slice ua6 un6 uc6, .slice ua7 un7 uc7, .string hu.x, .slice ua9 un9 uc9, .slice ua10 un10 uc10] := eCu
    clear eCu
    subst e2u
    obtain ⟨q0, q1, q2, q3, q4, q5, q6, q7, q8, q9, q10⟩ := Dt.cells11 hqu
    have hxs : X.size = pre.length := by rw [hX, Tm.str_size]
    have hpl : pre.length + (Tm.tolds u).length = (Tm.told T).length := by
      have := congrArg List.length hpre
      rwa [List.length_append] at this
    have HBW := Lib.hid hbw
    by_cases hk8 : hu.k = 8
    · have k8u : (hu.k == 8) = true := by rw [hk8]; rfl
      subst etu
      obtain ⟨ta, tb, rfl⟩ : ∃ a b, lu = [a, b] := by
        match lu, Tr.Hd.shape_pair (Tr.good_mk.1 hgu).1 hk8 with
        | [a, b], _ => exact ⟨a, b, rfl⟩
      obtain ⟨bL, oL, rfl, hn10, hcp1, hcp2, hbLlt, hSb, hall⟩ := Tr.Sl.at hLu (by simp)
      have hn10' : un10 = 2 := hn10
      clear hn10
      subst hn10'
      obtain ⟨Ca, hIa, hMa⟩ := Tr.All.at _ _ _ hall 0 ta rfl
      obtain ⟨Cb, hIb, hMb⟩ := Tr.All.at _ _ _ hall 1 tb rfl
      have hMa : Tr.Mem w bL oL Ca := hMa
      have hMb : Tr.Mem w bL (oL + 11) Cb := hMb
      have hsz : Tr.size (.mk hu [ta, tb]) = 1 + (Tr.size ta + (Tr.size tb + 0)) := by rw [Tr.size_mk, Tr.sizeL_cons, Tr.sizeL_cons, Tr.sizeL_nil]
      have hle : Tr.size (.mk hu [ta, tb]) ≤ Tr.size T := by rcases huT with e | e; exact Nat.le_of_eq (congrArg Tr.size e); omega
      have hpa := Tr.size_pos ta
      have hpb := Tr.size_pos tb
      have hga := Tr.goodL_cons.1 (Tr.good_mk.1 hgu).2
      have hgb := Tr.goodL_cons.1 hga.2
      have hfa := Wt.fitL_cons.1 (Wt.fit_mk.1 hfu).2
      have hfb := Wt.fitL_cons.1 hfa.2
      have KA := HIH.out ta (by omega) S Ca wo (Tr.In.below hIa hbw (Nat.le_refl _)) hga.1 hfa.1 (by have := HSZ.out; omega) (HT.out.below hbw)
      have hds := Tm.tolds_pair (a := ta) (r := tb) hk8
      obtain ⟨Y, hY⟩ : ∃ z, z = Tx.str (Tm.told ta) := ⟨_, rfl⟩
      rw [← hY] at KA
      have hcat : (9223372036854775807 < X.size + Y.size) = False := by
        refine eq_false ?_
        rw [hY, Tm.str_size, hxs]
        have h2 := HLEN.out
        rw [hds, List.length_append] at hpl
        omega
      have HNEXT : Hid (X ++ Y = Tx.str (pre ++ Tm.told ta) ∧ (pre ++ Tm.told ta) ++ Tm.tolds tb = Tm.told T ∧ Tr.In w S tb (.agg Cb) ∧ Tr.good tb ∧ Wt.fit tb ∧ Tr.size tb < Tr.size T ∧ Tr.size tb < Tr.size (.mk hu [ta, tb])) := Lib.hid ⟨by rw [hX, hY, Tx.str_append], by rw [List.append_assoc, ← hds]; exact hpre, hIb, hgb.1, hfb.1, by omega, by omega⟩
      have HG := Lib.hid hg
      obtain ⟨ha, la, aa3, aa4, aa6, aa7, aa9, aa10, an3, an4, an6, an7, an9, an10, ac3, ac4, ac6, ac7, ac9, ac10, eCa, eta, hHa, hLa⟩ := Tr.In.form2 hIa
      have e2a : Ca = #[.int .i64 ha.k, .int .i64 ha.n, .bool ha.s1, .slice aa3 an3 ac3, .slice aa4 an4 ac4, .bool ha.s2, .slice aa6 an6 ac6, .slice aa7 an7 ac7, .string ha.x, .slice aa9 an9 ac9, .slice aa10 an10 ac10] := eCa
      clear eCa
      subst e2a
      obtain ⟨hb, lb, ba3, ba4, ba6, ba7, ba9, ba10, bn3, bn4, bn6, bn7, bn9, bn10, bc3, bc4, bc6, bc7, bc9, bc10, eCb, etb, hHb, hLb⟩ := Tr.In.form2 hIb
      have e2b : Cb = #[.int .i64 hb.k, .int .i64 hb.n, .bool hb.s1, .slice ba3 bn3 bc3, .slice ba4 bn4 bc4, .bool hb.s2, .slice ba6 bn6 bc6, .slice ba7 bn7 bc7, .string hb.x, .slice ba9 bn9 bc9, .slice ba10 bn10 bc10] := eCb
      clear eCb
      subst e2b
      have hMa4 := hMa.kept (Tr.Kept.all hbw (Nat.le_refl _)) hSb hbLlt
      obtain ⟨e0, e1, e2, e3, e4, e5, e6, e7, e8, e9, e10⟩ := Tr.Mem.cells hMa4
      have HMB := Lib.hid (And.intro hMb (And.intro hSb hbLlt))
      have HQU := Lib.hid hqu
      clear hIa hIb hMa hMb hMa4 hall hsz hle hpa hpb hga hgb hfa hfb hds hY hX hpre hIu hIu0 hgu hfu huT hqu hbw hHu hLu hHa hLa eta hHb hLb etb hxs hpl hk8 hg hcp1 hcp2 hSb hbLlt
      go_wp2_with fail
      refine KA.mono ?_
      rintro x w5 ⟨rfl, hb5⟩
      have hbw5 := HBW.out.trans (hb5.mono HBW.out.size)
      have hqu5 := (hb5.block w.heap.size (Array.getElem?_eq_some_iff.1 HQU.out).1).trans HQU.out
      have hMb5 := HMB.out.1.kept (Tr.Kept.all hbw5 (Nat.le_refl _)) HMB.out.2.1 HMB.out.2.2
      clear q0 q1 q2 q3 q4 q5 q6 q7 q8 q9 q10 e0 e1 e2 e3 e4 e5 e6 e7 e8 e9 e10 KA hb5
      obtain ⟨q0, q1, q2, q3, q4, q5, q6, q7, q8, q9, q10⟩ := Dt.cells11 hqu5
      obtain ⟨e0, e1, e2, e3, e4, e5, e6, e7, e8, e9, e10⟩ := Tr.Mem.cells hMb5
      obtain ⟨W1, W2, W3, W4, W5, W6, W7, W8, W9, W10, W11, ⟨f0, z0, g0, s0⟩, ⟨f1, z1, g1, s1⟩, ⟨f2, z2, g2, s2⟩, ⟨f3, z3, g3, s3⟩, ⟨f4, z4, g4, s4⟩, ⟨f5, z5, g5, s5⟩, ⟨f6, z6, g6, s6⟩, ⟨f7, z7, g7, s7⟩, ⟨f8, z8, g8, s8⟩, ⟨f9, z9, g9, s9⟩, ⟨f10, z10, g10, s10⟩, q4', hszz, hoth, hbb⟩ := Dt.put11 hqu5 (.int .i64 hb.k) (.int .i64 hb.n) (.bool hb.s1) (.slice ba3 bn3 bc3) (.slice ba4 bn4 bc4) (.bool hb.s2) (.slice ba6 bn6 bc6) (.slice ba7 bn7 bc7) (.string hb.x) (.slice ba9 bn9 bc9) (.slice ba10 bn10 bc10)
      have HE := Lib.hid (And.intro (hbb w.heap.size w hbw5 (Nat.le_refl _)) q4')
      clear hbb hszz q4' hoth hbw5 hqu5 hMb5 q0 q1 q2 q3 q4 q6 q7 q8 q9
      go_wp2_with fail
      go_roundg (Tr.size tb)
      case measure => have := HNEXT.out.2.2.2.2.2.2; have := HG.out; omega
      case rel => exact ⟨pre ++ Tm.told ta, tb, _, X ++ Y, rfl, rfl, HNEXT.out.1, HNEXT.out.2.1, HNEXT.out.2.2.1, HNEXT.out.2.2.2.1, HNEXT.out.2.2.2.2.1, .inr HNEXT.out.2.2.2.2.2.1, HE.out.2, HE.out.1⟩
    · have k8u : (hu.k == 8) = false := by simpa using hk8
      have hlt : Tr.size u < Tr.size T := by
        rcases huT with e | e
        · rw [etu] at e
          have := HT8.out
          rw [← e] at this
          exact absurd this hk8
        · exact e
      have KU := HIH.out u hlt S _ wo (Tr.In.below hIu0 hbw (Nat.le_refl _)) hgu hfu (by have := HSZ.out; omega) (HT.out.below hbw)
      have hds : Tm.tolds u = 46 :: (Tm.told u ++ [41]) := by rw [etu]; exact Tm.tolds_end hk8
      obtain ⟨Y, hY⟩ : ∃ z, z = Tx.str (Tm.told u) := ⟨_, rfl⟩
      rw [← hY] at KU
      have hyl : X.size + (1 + (Y.size + 1)) ≤ 9000000000000000000 := by
        rw [hY, Tm.str_size, hxs]
        have h2 := HLEN.out
        rw [hds, List.length_cons, List.length_append, List.length_singleton] at hpl
        omega
      have hc1 : (9223372036854775807 < X.size + 1) = False := eq_false (by omega)
      have hc2 : (9223372036854775807 < X.size + 1 + Y.size) = False := eq_false (by omega)
      have hc3 : (9223372036854775807 < X.size + 1 + Y.size + 1) = False := eq_false (by omega)
      have HEND : Hid (Ending.returned (.string (X ++ ⟨#[46]⟩ ++ Y ++ ⟨#[41]⟩)) = .returned (.string (Tx.str (Tm.told T)))) := Lib.hid (by
        rw [← hpre, hds, hX, hY]
        show Ending.returned (.string (Tx.str pre ++ Tx.str [46] ++ Tx.str (Tm.told u) ++ Tx.str [41])) = _
        rw [Tx.str_append, Tx.str_append, Tx.str_append]
        simp)
      clear hds hY hX hpre hIu hIu0 hgu hfu huT hqu hbw hHu hLu hxs hpl hk8 hg hlt hyl etu
      go_wp2_with fail
      refine KU.mono ?_
      rintro x w5 ⟨rfl, hb5⟩
      have HB5 := Lib.hid (HBW.out.trans (hb5.mono HBW.out.size))
      clear hb5 KU q0 q1 q2 q3 q4 q5 q6 q7 q8 q9 q10
      go_wp2_with fail
      go_ret
      exact ⟨HEND.out, HB5.out⟩
theorem Tm.told_step (t : Tr) (IH : ∀ u, Tr.size u < Tr.size t → Tm.ToldSays u) : Tm.ToldSays t := by
  obtain ⟨h, l⟩ := t
  by_cases h8 : h.k = 8
  · exact Tm.told_list h l IH h8
  by_cases h9 : h.k = 9
  · exact Tm.told_vector h l IH h9
  intro S C w hI hg hf hsz hT
  have hl := Tm.leaf_nil (Tr.good_mk.1 hg).1 h8 h9
  subst hl
  rw [Tm.told_leaf h8 h9]
  exact Tm.told_atom h S C w hI (Tr.good_mk.1 hg).1 hf h8 h9 hT
theorem Tm.told_any (t : Tr) : Tm.ToldSays t := Tm.told_step t (fun u _ => Tm.told_any u)
termination_by Tr.size t
decreasing_by assumption

/-- The name of a key in a table of kind 1, or why it has none. -/
def Tb.nm1 (ts : List Tr) (key : Tr) : ByteArray × Int := if ts.all Tr.sound = false then (⟨#[]⟩, 2) else (Tx.str (Tm.told key), 0)
set_option maxHeartbeats 2000000 in
set_option maxRecDepth 1000000 in
theorem Tb.name1_any (key : Tr) (more : List Tr) (p : Nat) (last mp vk vm : Value) (w : World) (hk : Tr.In w (fun _ => True) key vk) (hm : Tb.More w vm more) (hp : w.heap[p]? = some (.cells #[.int .i64 1, last, mp] 61 (0, 0))) (hTT : Wt.Tabs w) (hff : Wt.fit key) :
    Calls Tryz.prog 20 #[.pointer (some ⟨p, 0, none⟩), vk, vm] w fun e w' => e = .returned (.tuple #[.string (Tb.nm1 (more ++ [key]) key).1, .int .i64 (Tb.nm1 (more ++ [key]) key).2]) ∧ Below w.heap.size w w' := by
  have hT := hTT.utf
  have HTW := Lib.hid (And.intro hTT hff)
  clear hTT hff
  obtain ⟨CK, rfl⟩ := hk.agg
  obtain ⟨ao, m, olds, rfl, hnone, hml, hm1, hol, hold, hbl, hin⟩ := hm
  have h11 := hk.size11
  have hone := Tb.one_cells hk
  obtain ⟨he, le, ab3, ab4, ab6, ab7, ab9, ab10, nb3, nb4, nb6, nb7, nb9, nb10, cb3, cb4, cb6, cb7, cb9, cb10, eCb, etk, hbH, hbL⟩ := Tr.In.form2 hk
  obtain ⟨R, hR⟩ : ∃ z, z = Tb.nm1 (more ++ [key]) key := ⟨_, rfl⟩
  rw [← hR]
  have HR := Lib.hid hR
  have HK := Lib.hid hk
  have HHD := Lib.hid hbH
  have HTK := Lib.hid etk
  have HT := Lib.hid hT
  have HIN := Lib.hid hin
  have HML := Lib.hid (And.intro hml hol)
  obtain ⟨i0, hi, hz0, hz1, hz2⟩ := info_parts Tb.infoD
  have hpl : p < w.heap.size := (Array.getElem?_eq_some_iff.1 hp).1
  subst eCb
  unfold Tr.cells at *
  obtain ⟨n0, n1, n2, n3⟩ := Sm.two w (.cells #[.int .i64 he.k, .int .i64 he.n, .bool he.s1, .slice ab3 nb3 cb3, .slice ab4 nb4 cb4, .bool he.s2, .slice ab6 nb6 cb6, .slice ab7 nb7 cb7, .string he.x, .slice ab9 nb9 cb9, .slice ab10 nb10 cb10] 37) (.cells #[.int .i64 he.k, .int .i64 he.n, .bool he.s1, .slice ab3 nb3 cb3, .slice ab4 nb4 cb4, .bool he.s2, .slice ab6 nb6 cb6, .slice ab7 nb7 cb7, .string he.x, .slice ab9 nb9 cb9, .slice ab10 nb10 cb10] 37)
  have hb0 : Below w.heap.size w (w.alloc (.cells #[.int .i64 he.k, .int .i64 he.n, .bool he.s1, .slice ab3 nb3 cb3, .slice ab4 nb4 cb4, .bool he.s2, .slice ab6 nb6 cb6, .slice ab7 nb7 cb7, .string he.x, .slice ab9 nb9 cb9, .slice ab10 nb10 cb10] 37)) := (Below.refl _ _).alloc (Nat.le_refl _) _
  have HB2 := Lib.hid n3
  have HN := Lib.hid (And.intro n0 (And.intro n1 n2))
  have HP := Lib.hid hp
  have hm1n : m + 1 ≤ 2 := by omega
  have holds : ∀ b, ao = some b → ∀ (j : Nat) u, olds[j]? = some u → ((w.alloc (.cells #[.int .i64 he.k, .int .i64 he.n, .bool he.s1, .slice ab3 nb3 cb3, .slice ab4 nb4 cb4, .bool he.s2, .slice ab6 nb6 cb6, .slice ab7 nb7 cb7, .string he.x, .slice ab9 nb9 cb9, .slice ab10 nb10 cb10] 37)).alloc (.cells #[.int .i64 he.k, .int .i64 he.n, .bool he.s1, .slice ab3 nb3 cb3, .slice ab4 nb4 cb4, .bool he.s2, .slice ab6 nb6 cb6, .slice ab7 nb7 cb7, .string he.x, .slice ab9 nb9 cb9, .slice ab10 nb10 cb10] 37)).cell? (b.add j) = some u := fun b hbb j u hu => (n3.cell (p := b.add j) (by
    have : (b.add j).block = b.block := by unfold Addr.add; split <;> rfl
    rw [this]; exact hbl b hbb)).trans (hold b hbb j u hu)
  clear hp hR hk hbH hbL etk hT hin hml hold hbl n0 n1 n2 n3 hb0
  go_enter Tryz.func20, Tryz.ntmps20
  go_wp2_with (at_builtin; refine wpList_append_grows _ rfl _ _ 35 rfl 37 i0 (.agg #[.int .i64 0, .int .i64 0, .bool false, .slice none 0 0, .slice none 0 0, .bool false, .slice none 0 0, .slice none 0 0, .string ⟨#[]⟩, .slice none 0 0, .slice none 0 0]) 11 192 Tryz.underlying35 hi hz0 hz1 hz2 rfl (by decide) ao m m olds rfl hnone hol holds ⟨w.heap.size + 1, 0, none⟩ 1 1 (#[.int .i64 he.k, .int .i64 he.n, .bool he.s1, .slice ab3 nb3 cb3, .slice ab4 nb4 cb4, .bool he.s2, .slice ab6 nb6 cb6, .slice ab7 nb7 cb7, .string he.x, .slice ab9 nb9 cb9, .slice ab10 nb10 cb10] : Array Value).toList rfl rfl (Tb.row_at HN.out.2.1) hone (by omega) (by simp only [maxLen]; omega) (by omega) ?_)
  intro v' w1 hown hg
  have hb1 : Below w.heap.size w w1 := HB2.out.grown hg HB2.out.size (fun k hk => by cases hk)
  have HB1 := Lib.hid hb1
  have hlin := Tb.row_lin hb1 (by rw [← HML.out.1]; exact HML.out.2) HIN.out HK.out (by rw [← HML.out.1]; exact hown)
  have q0 := (hg.block w.heap.size (by have := HN.out.2.2; omega) (by simp)).trans HN.out.1
  have qp := (hb1.block p hpl).trans HP.out
  obtain ⟨TS, hTS⟩ : ∃ z, z = more ++ [key] := ⟨_, rfl⟩
  rw [← hTS] at hlin HR
  obtain ⟨ra, rc, hv, _, _⟩ := Tr.Sl.slice hlin
  obtain ⟨NL, hNL⟩ : ∃ z, z = TS.length := ⟨_, rfl⟩
  rw [← hNL] at hv
  subst hv
  have hNL2 : NL ≤ 2 := by rw [hNL, hTS, List.length_append, ← HML.out.1]; simpa using hm1n
  have HLIN := Lib.hid hlin
  have HNL := Lib.hid hNL
  have HTS := Lib.hid hTS
  have HFR : Hid (∀ w', Below w1.heap.size w1 w' → (w'.heap[w.heap.size]? = some (.cells #[.int .i64 he.k, .int .i64 he.n, .bool he.s1, .slice ab3 nb3 cb3, .slice ab4 nb4 cb4, .bool he.s2, .slice ab6 nb6 cb6, .slice ab7 nb7 cb7, .string he.x, .slice ab9 nb9 cb9, .slice ab10 nb10 cb10] 37 (0, 0)) ∧ w'.heap[p]? = some (.cells #[.int .i64 1, last, mp] 61 (0, 0))) ∧ Below w.heap.size w w') := Lib.hid (fun w' hb => ⟨⟨(hb.block _ (Array.getElem?_eq_some_iff.1 q0).1).trans q0, (hb.block p (Array.getElem?_eq_some_iff.1 qp).1).trans qp⟩, HB1.out.trans (hb.mono HB1.out.size)⟩)
  clear hlin hown hg hb1 q0 qp hTS holds hone hNL hnone hol hm1n
  go_wp2_with fail
  go_loopg [22] NL (fun g i wr => ∃ k : Nat, k + g = NL ∧ i = .int .i64 k ∧ (∀ t ∈ TS.take k, Tr.sound t = true) ∧ Below w1.heap.size w1 wr)
  case atStart => exact ⟨0, by omega, rfl, fun t h => by simp at h, Below.refl _ _⟩
  case round =>
    obtain ⟨k, hkg, rfl, hall, hbw⟩ := hrel
    obtain ⟨wo, hwo⟩ : ∃ z, z = wr := ⟨_, rfl⟩
    subst hwo
    have HALL := Lib.hid hall
    have HBW := Lib.hid hbw
    have HFW := Lib.hid (HFR.out _ hbw)
    clear hall hbw
    by_cases hlt : k < NL
    · obtain ⟨tk, htk⟩ : ∃ t, TS[k]? = some t := ⟨_, List.getElem?_eq_getElem (by rw [← HNL.out]; exact hlt)⟩
      obtain ⟨b2, off2, rfl, hx1, hx2, hx3, hb2lt, hS2, hall2⟩ := Tr.Sl.at HLIN.out (by rw [← HNL.out]; omega)
      clear hx1 hx2 hx3
      obtain ⟨Ck, hIk, hMk⟩ := Tr.All.at _ _ _ hall2 k tk htk
      rw [Nat.mul_comm 11 k] at hMk
      have hMk4 := hMk.kept (S := fun _ => True) (Tr.Kept.all HBW.out (Nat.le_refl _)) trivial hb2lt
      have KS := fun o => Tr.Sound_any tk _ (.agg Ck) (wo.alloc o) (Tr.In.below (Tr.In.below hIk HBW.out (Nat.le_refl _)) ((Below.refl _ _).alloc (Nat.le_refl _) o) (Nat.le_refl _)) (HT.out.below ((HFW.out.2).trans (((Below.refl _ _).alloc (Nat.le_refl _) o).mono HFW.out.2.size)))
      obtain ⟨hf, lf, ar3, ar4, ar6, ar7, ar9, ar10, nr3, nr4, nr6, nr7, nr9, nr10, cr3, cr4, cr6, cr7, cr9, cr10, eCr, ert, hrH, hrL⟩ := Tr.In.form2 hIk
      subst eCr
      unfold Tr.cells at KS hMk4
      obtain ⟨e0, e1, e2, e3, e4, e5, e6, e7, e8, e9, e10⟩ := Tr.Mem.cells hMk4
      have HTK2 := Lib.hid htk
      have hbA : ∀ o, Below w1.heap.size w1 (wo.alloc o) := fun o => HBW.out.alloc HBW.out.size o
      have HBA := Lib.hid hbA
      clear hIk hMk hMk4 hall2 htk ert hrH hrL hb2lt hS2 hbA
      cases hsd : Tr.sound tk
      · rw [hsd] at KS
        have hans : R = (⟨#[]⟩, 2) := by
          rw [HR.out]
          unfold Tb.nm1
          rw [if_pos]
          cases hx : TS.all Tr.sound
          · rfl
          · have := List.all_eq_true.1 hx tk (List.mem_of_getElem? HTK2.out)
            rw [hsd] at this
            exact absurd this (by decide)
        subst hans
        go_wp2_with fail
        refine (KS _).mono ?_
        rintro x w5 ⟨rfl, hb5⟩
        have HB5 := Lib.hid (HFR.out _ ((HBA.out _).trans (hb5.mono (HBA.out _).size))).2
        clear hb5 KS e0 e1 e2 e3 e4 e5 e6 e7 e8 e9 e10
        go_wp2_with fail
        go_ret2
        exact ⟨rfl, HB5.out⟩
      · rw [hsd] at KS
        go_wp2_with fail
        refine (KS _).mono ?_
        rintro x w5 ⟨rfl, hb5⟩
        have HB5 := Lib.hid ((HBA.out _).trans (hb5.mono (HBA.out _).size))
        clear hb5 KS e0 e1 e2 e3 e4 e5 e6 e7 e8 e9 e10
        go_wp2_with fail
        go_roundg (gk - 1)
        case measure => omega
        case rel =>
          refine ⟨k + 1, by omega, by first | rfl | go_num | (simp; try omega), fun t ht => ?_, HB5.out⟩
          rw [List.take_add_one, HTK2.out] at ht
          rcases List.mem_append.1 ht with ht | ht
          · exact HALL.out t ht
          · simp at ht
            subst ht
            exact hsd
    · have hk2 : k = NL := by omega
      subst hk2
      have hallT : TS.all Tr.sound = true := List.all_eq_true.2 (fun t ht => HALL.out t (by rw [HNL.out, List.take_length]; exact ht))
      have HSND := Lib.hid hallT
      obtain ⟨⟨qb, qp⟩, hbw⟩ := HFW.out
      have p0 : wo.cell? ⟨p, 0, none⟩ = some (.int .i64 1) := Rt.cell_of qp 0
      obtain ⟨e0, e1, e2, e3, e4, e5, e6, e7, e8, e9, e10⟩ := Dt.cells11 qb
      have HBN := Lib.hid hbw
      clear hallT qb qp hbw
      have hsk : Tr.sound key = true := List.all_eq_true.1 HSND.out key (by rw [HTS.out]; simp)
      obtain ⟨Y, hY⟩ : ∃ z, z = Tx.str (Tm.told key) := ⟨_, rfl⟩
      have hans : R = (Y, 0) := by
        rw [HR.out, hY]; unfold Tb.nm1
        rw [if_neg (by rw [HSND.out]; decide)]
      subst hans
      have hgk := Tr.sound_good hsk
      have hzk := Nat.le_trans (Tr.sound_size hsk) (show 20000 ≤ 1000000 by decide)
      have KF := Tm.told_any key (fun _ => True) _ wo (Tr.In.below HK.out HBN.out (Nat.le_refl _)) hgk HTW.out.2 hzk (HTW.out.1.below HBN.out)
      rw [← hY] at KF
      clear hsk hgk hzk hY
      go_wp2_with fail
      refine KF.mono ?_
      rintro x w6 ⟨rfl, hb6⟩
      have HB6 := Lib.hid (HBN.out.trans (hb6.mono HBN.out.size))
      clear hb6 KF e0 e1 e2 e3 e4 e5 e6 e7 e8 e9 e10
      go_wp2_with fail
      go_ret2
      exact ⟨rfl, HB6.out⟩

/-- The world in which the map r has one entry more. -/
def Tm.upd (w : World) (r : Nat) (es : Array MapEntry) (clock : Nat) (nm : ByteArray) (x : Nat) : World := { w with heap := w.heap.setIfInBounds r (.map (es.push { key := .string nm, val := .pointer (some ⟨x, 0, none⟩), born := clock }) (clock + 1)) }
/-- The world behind a map's further entry. -/
theorem Tm.fin (W1 wB : World) (o : Obj) (es : Array MapEntry) (clock : Nat) (nm : ByteArray) (r : Nat) (hacc : Below W1.heap.size W1 wB) (hr : r < W1.heap.size) :
    (Tm.upd (wB.alloc o) r es clock nm wB.heap.size).heap[r]? = some (.map (es.push { key := .string nm, val := .pointer (some ⟨wB.heap.size, 0, none⟩), born := clock }) (clock + 1)) ∧ (Tm.upd (wB.alloc o) r es clock nm wB.heap.size).heap[wB.heap.size]? = some o ∧
      (∀ b, b ≠ r → b < wB.heap.size → (Tm.upd (wB.alloc o) r es clock nm wB.heap.size).heap[b]? = wB.heap[b]?) ∧ wB.heap.size ≤ (Tm.upd (wB.alloc o) r es clock nm wB.heap.size).heap.size ∧ (∀ (B : Nat) (w0 : World), Below B w0 W1 → B ≤ r → B ≤ W1.heap.size → Below B w0 (Tm.upd (wB.alloc o) r es clock nm wB.heap.size)) := by
  have hs := hacc.size
  have hne : ∀ b, b ≠ r → (Tm.upd (wB.alloc o) r es clock nm wB.heap.size).heap[b]? = (wB.alloc o).heap[b]? := fun b hb => by
    show ((wB.alloc o).heap.setIfInBounds r _)[b]? = _
    rw [Array.getElem?_setIfInBounds]
    simp [Ne.symm hb]
  refine ⟨?_, (hne _ (by omega)).trans (heap_alloc_new wB o), fun b hb hlt => (hne b hb).trans (Lib.alloc_old _ _ _ hlt), ?_, fun B w0 hB h1 h2 => ?_⟩
  · show ((wB.alloc o).heap.setIfInBounds r _)[r]? = _
    rw [Array.getElem?_setIfInBounds]
    simp
    omega
  · show _ ≤ ((wB.alloc o).heap.setIfInBounds r _).size
    simp
  · have h8 : Below B w0 (wB.alloc o) := (hB.trans (hacc.mono h2)).alloc (by omega) _
    exact h8.grown (row := some r) ⟨rfl, rfl, rfl, by show _ ≤ ((wB.alloc o).heap.setIfInBounds r _).size; simp, fun k _ hk => hne k (fun e => hk (by simp [e]))⟩ (by simp; omega) (fun k hk => by simp at hk; omega)
set_option maxHeartbeats 2000000 in
set_option maxRecDepth 1000000 in
theorem Tm.Set_new (D : Nat → Prop) (K : Int) (p r last B : Nat) (L : List Tm.Row) (key val : Tr) (nm : ByteArray) (vk vv : Value) (w : World) (hST : Tm.St D K p r last B w L) (hD : ∀ q, w.heap.size ≤ q → D q)
    (hk : Tr.In w (fun _ => True) key vk) (hv : Tr.In w (fun _ => True) val vv) (hsk : Tr.sound key = true) (hsv : Tr.sound val = true) (hT : Wt.Tabs w) (KN : Tm.Names K p (.int .i64 last) (.map (some r)) key [val] nm 0)
    (hpos : Tm.pos (L.map (·.e)) nm = none) (hlen : L.length < 4096) (hla : last < 4611686018427387904) :
    Calls Tryz.prog 8 #[.pointer (some ⟨p, 0, none⟩), vk, vv] w fun e w' => e = .returned (.int .i64 0) ∧ (∃ x clock, Tm.St D K p r (last + 1) B w' (L ++ [⟨⟨nm, x, clock⟩, key, val, last + 1⟩])) ∧
      (∀ q, q < w.heap.size → q ≠ p → q ≠ r → w'.heap[q]? = w.heap[q]?) ∧ Below B w w' := by
  have hp := hST.tab
  obtain ⟨es, clock, hr, hes, hborn⟩ := hST.mp
  obtain ⟨L1, hL1⟩ : ∃ z, z = last + 1 := ⟨_, rfl⟩
  have hwr : IntKind.i64.wrap ((last : Int) + 1) = (L1 : Int) := by rw [IntKind.wrap_i64]; omega
  have hesz := Tm.size hes
  rw [List.length_map] at hesz
  obtain ⟨N, hN⟩ : ∃ z, z = es.size := ⟨_, rfl⟩
  have hge : decide ((4096 : Int) ≤ (N : Int)) = false := by rw [hN, hesz]; exact decide_eq_false (by omega)
  have hge2 : decide ((N : Int) ≥ 4096) = false := hge
  have HST := Lib.hid hST
  have HDD := Lib.hid hD
  clear hD
  have HES := Lib.hid (And.intro hes hpos)
  have HL1 := Lib.hid hL1
  have HBS := Lib.hid hST.base
  have hBp := hST.base.1
  have hBr := hST.base.2.1
  obtain ⟨CK, rfl⟩ := hk.agg
  obtain ⟨CV, rfl⟩ := hv.agg
  have hpl : p < w.heap.size := (Array.getElem?_eq_some_iff.1 hp).1
  have hrl : r < w.heap.size := (Array.getElem?_eq_some_iff.1 hr).1
  have hpr : p ≠ r := hST.pr
  obtain ⟨he, le, ka3, ka4, ka6, ka7, ka9, ka10, kn3, kn4, kn6, kn7, kn9, kn10, kc3, kc4, kc6, kc7, kc9, kc10, eCk, etk1, etk2, etk3⟩ := Tr.In.form2 hk
  obtain ⟨hf, lf, va3, va4, va6, va7, va9, va10, vn3, vn4, vn6, vn7, vn9, vn10, vc3, vc4, vc6, vc7, vc9, vc10, eCv, etv1, etv2, etv3⟩ := Tr.In.form2 hv
  subst eCk
  subst eCv
  unfold Tr.cells at *
  obtain ⟨W3, hW3, h0, h1, h2, hz3, hb3⟩ := Rt.three w (.cells #[.int .i64 he.k, .int .i64 he.n, .bool he.s1, .slice ka3 kn3 kc3, .slice ka4 kn4 kc4, .bool he.s2, .slice ka6 kn6 kc6, .slice ka7 kn7 kc7, .string he.x, .slice ka9 kn9 kc9, .slice ka10 kn10 kc10] 37) (.cells #[.int .i64 hf.k, .int .i64 hf.n, .bool hf.s1, .slice va3 vn3 vc3, .slice va4 vn4 vc4, .bool hf.s2, .slice va6 vn6 vc6, .slice va7 vn7 vc7, .string hf.x, .slice va9 vn9 vc9, .slice va10 vn10 vc10] 37) (.cells #[.int .i64 hf.k, .int .i64 hf.n, .bool hf.s1, .slice va3 vn3 vc3, .slice va4 vn4 vc4, .bool hf.s2, .slice va6 vn6 vc6, .slice va7 vn7 vc7, .string hf.x, .slice va9 vn9 vc9, .slice va10 vn10 vc10] 37)
  have hp3 := (hb3.block p hpl).trans hp
  have hr3 := (hb3.block r hrl).trans hr
  have KNN := KN W3 _ _ (Tr.In.below hk hb3 (Nat.le_refl _)) (Tb.More.one h2 (Tr.In.below hv hb3 (Nat.le_refl _))) hp3 (hT.below hb3)
  have HI := Lib.hid (And.intro hk hv)
  have HR0 := Lib.hid hr
  have HSD := Lib.hid (And.intro hsk hsv)
  have HB3 := Lib.hid hb3
  have H012 := Lib.hid (And.intro h0 (And.intro h1 hz3))
  have HPR := Lib.hid (And.intro hp3 hr3)
  obtain ⟨e0, e1, e2, e3, e4, e5, e6, e7, e8, e9, e10⟩ := Dt.cells11 h0
  obtain ⟨f0, f1, f2, f3, f4, f5, f6, f7, f8, f9, f10⟩ := Dt.cells11 h1
  clear hST hk hv hsk hsv hT KN hes hborn hpos hesz hlen hL1 hla hp hr h0 h1 h2 hb3 hp3 hr3 etk1 etk2 etk3 etv1 etv2 etv3
  go_enter Tryz.func8, Tryz.ntmps8
  go_wp2_with fail
  refine KNN.mono ?_
  rintro x w1 ⟨rfl, hb1⟩
  have qp := (hb1.block p (by have := HB3.out.size; omega)).trans HPR.out.1
  have qr := (hb1.block r (by have := HB3.out.size; omega)).trans HPR.out.2
  have q0 := (hb1.block w.heap.size (by have := H012.out.2.2; omega)).trans H012.out.1
  have q1 := (hb1.block (w.heap.size + 1) (by have := H012.out.2.2; omega)).trans H012.out.2.1
  have HB1 := Lib.hid (HB3.out.trans (hb1.mono HB3.out.size))
  clear hb1 KNN hW3 hz3 e0 e1 e2 e3 e4 e5 e6 e7 e8 e9 e10 f0 f1 f2 f3 f4 f5 f6 f7 f8 f9 f10
  have p0 := Rt.cell_of qp 0
  have p1 : w1.cell? ⟨p, 1, none⟩ = some (.int .i64 last) := Rt.cell_of qp 1
  have p2 : w1.cell? ⟨p, 2, none⟩ = some (.map (some r)) := Rt.cell_of qp 2
  have z1 := Rt.frozen_of qp 1
  have hlk := Tm.look w1 r clock es _ nm HES.out.1 qr
  rw [HES.out.2] at hlk
  simp only [Option.map_none, Option.isSome_none] at hlk
  have hln := fun ty => Tb.len_map w1 r clock es ty qr
  rw [← hN] at hln
  have qp2 : (w1.setCell ⟨p, 1, none⟩ (.int .i64 L1)).heap[p]? = some (.cells #[.int .i64 K, .int .i64 L1, .map (some r)] 61 (0, 0)) := Rt.setCells qp 1 (.int .i64 L1)
  obtain ⟨W1, hW1⟩ : ∃ W, w1.setCell ⟨p, 1, none⟩ (.int .i64 L1) = W := ⟨_, rfl⟩
  have hne : ∀ b, b ≠ p → W1.heap[b]? = w1.heap[b]? := fun b hb => by rw [← hW1]; exact Below.heap_setCell w1 ⟨p, 1, none⟩ _ b hb
  have hbW : Below B w1 W1 := by rw [← hW1]; exact (Below.refl _ _).setCell (p := ⟨p, 1, none⟩) hBp _
  have hzW : W1.heap.size = w1.heap.size := by rw [← hW1]; simp
  rw [hW1] at qp2
  have l0 : w.heap.size < w1.heap.size := (Array.getElem?_eq_some_iff.1 q0).1
  have l1 : w.heap.size + 1 < w1.heap.size := (Array.getElem?_eq_some_iff.1 q1).1
  have HBW := Lib.hid ((HB1.out.mono (by omega : B ≤ w.heap.size)).trans hbW)
  have HIW : Hid (Tr.In W1 (fun _ => True) key (.agg #[.int .i64 he.k, .int .i64 he.n, .bool he.s1, .slice ka3 kn3 kc3, .slice ka4 kn4 kc4, .bool he.s2, .slice ka6 kn6 kc6, .slice ka7 kn7 kc7, .string he.x, .slice ka9 kn9 kc9, .slice ka10 kn10 kc10]) ∧ Tr.In W1 (fun _ => True) val (.agg #[.int .i64 hf.k, .int .i64 hf.n, .bool hf.s1, .slice va3 vn3 vc3, .slice va4 vn4 vc4, .bool hf.s2, .slice va6 vn6 vc6, .slice va7 vn7 vc7, .string hf.x, .slice va9 vn9 vc9, .slice va10 vn10 vc10])) := Lib.hid ⟨Tr.In.tab (Tr.In.below HI.out.1 HB1.out (Nat.le_refl _)) (Tb.NoData.table qp) (Tb.NoData.map qr) (by omega) (fun q _ hq _ => hne q hq), Tr.In.tab (Tr.In.below HI.out.2 HB1.out (Nat.le_refl _)) (Tb.NoData.table qp) (Tb.NoData.map qr) (by omega) (fun q _ hq _ => hne q hq)⟩
  have QR := Lib.hid ((hne r (fun e => hpr e.symm)).trans qr)
  have QP := Lib.hid qp2
  have QX0 := (hne w.heap.size (by omega)).trans q0
  have QX1 := (hne (w.heap.size + 1) (by omega)).trans q1
  have HOLD : Hid (∀ q, q < w.heap.size → q ≠ p → W1.heap[q]? = w.heap[q]?) := Lib.hid (fun q hq hqp => (hne q hqp).trans (HB1.out.block q hq))
  have lr : r < W1.heap.size := by omega
  have HSZ : Hid (w.heap.size + 1 < W1.heap.size ∧ p < W1.heap.size ∧ w.heap.size ≠ r ∧ w.heap.size + 1 ≠ r) := Lib.hid ⟨by omega, by omega, by omega, by omega⟩
  have HS : Hid (∀ w' : World, (∀ q, q < W1.heap.size → q ≠ r → w'.heap[q]? = W1.heap[q]?) → w'.cell? ⟨w.heap.size, 0, none⟩ = some (.int .i64 he.k) ∧ w'.cell? ⟨w.heap.size, 1, none⟩ = some (.int .i64 he.n) ∧ w'.cell? ⟨w.heap.size, 2, none⟩ = some (.bool he.s1) ∧ w'.cell? ⟨w.heap.size, 3, none⟩ = some (.slice ka3 kn3 kc3) ∧ w'.cell? ⟨w.heap.size, 4, none⟩ = some (.slice ka4 kn4 kc4) ∧ w'.cell? ⟨w.heap.size, 5, none⟩ = some (.bool he.s2) ∧ w'.cell? ⟨w.heap.size, 6, none⟩ = some (.slice ka6 kn6 kc6) ∧ w'.cell? ⟨w.heap.size, 7, none⟩ = some (.slice ka7 kn7 kc7) ∧ w'.cell? ⟨w.heap.size, 8, none⟩ = some (.string he.x) ∧ w'.cell? ⟨w.heap.size, 9, none⟩ = some (.slice ka9 kn9 kc9) ∧ w'.cell? ⟨w.heap.size, 10, none⟩ = some (.slice ka10 kn10 kc10) ∧ w'.cell? ⟨w.heap.size + 1, 0, none⟩ = some (.int .i64 hf.k) ∧ w'.cell? ⟨w.heap.size + 1, 1, none⟩ = some (.int .i64 hf.n) ∧ w'.cell? ⟨w.heap.size + 1, 2, none⟩ = some (.bool hf.s1) ∧ w'.cell? ⟨w.heap.size + 1, 3, none⟩ = some (.slice va3 vn3 vc3) ∧ w'.cell? ⟨w.heap.size + 1, 4, none⟩ = some (.slice va4 vn4 vc4) ∧ w'.cell? ⟨w.heap.size + 1, 5, none⟩ = some (.bool hf.s2) ∧ w'.cell? ⟨w.heap.size + 1, 6, none⟩ = some (.slice va6 vn6 vc6) ∧ w'.cell? ⟨w.heap.size + 1, 7, none⟩ = some (.slice va7 vn7 vc7) ∧ w'.cell? ⟨w.heap.size + 1, 8, none⟩ = some (.string hf.x) ∧ w'.cell? ⟨w.heap.size + 1, 9, none⟩ = some (.slice va9 vn9 vc9) ∧ w'.cell? ⟨w.heap.size + 1, 10, none⟩ = some (.slice va10 vn10 vc10) ∧ w'.cell? ⟨p, 1, none⟩ = some (.int .i64 L1) ∧ w'.cell? ⟨p, 2, none⟩ = some (.map (some r))) := Lib.hid (fun w' hq => by
    obtain ⟨e0, e1, e2, e3, e4, e5, e6, e7, e8, e9, e10⟩ := Dt.cells11 ((hq w.heap.size (by have := HSZ.out.1; omega) HSZ.out.2.2.1).trans QX0)
    obtain ⟨f0, f1, f2, f3, f4, f5, f6, f7, f8, f9, f10⟩ := Dt.cells11 ((hq (w.heap.size + 1) HSZ.out.1 HSZ.out.2.2.2).trans QX1)
    have g := (hq p HSZ.out.2.1 hpr).trans QP.out
    exact ⟨e0, e1, e2, e3, e4, e5, e6, e7, e8, e9, e10, f0, f1, f2, f3, f4, f5, f6, f7, f8, f9, f10, Rt.cell_of g 1, Rt.cell_of g 2⟩)
  have KCkey : Hid (∀ w', Below W1.heap.size W1 w' → Calls Tryz.prog 21 #[.agg #[.int .i64 he.k, .int .i64 he.n, .bool he.s1, .slice ka3 kn3 kc3, .slice ka4 kn4 kc4, .bool he.s2, .slice ka6 kn6 kc6, .slice ka7 kn7 kc7, .string he.x, .slice ka9 kn9 kc9, .slice ka10 kn10 kc10]] w' fun e w'' => ∃ C, e = .returned (.agg C) ∧ Tr.In w'' (fun q => w'.heap.size ≤ q) key (.agg C) ∧ Below w'.heap.size w' w'') := Lib.hid (fun w' hb => Tr.Copy_any key _ _ w' (Tr.In.below HIW.out.1 hb (Nat.le_refl _)) HSD.out.1)
  have KCval : Hid (∀ w', Below W1.heap.size W1 w' → Calls Tryz.prog 21 #[.agg #[.int .i64 hf.k, .int .i64 hf.n, .bool hf.s1, .slice va3 vn3 vc3, .slice va4 vn4 vc4, .bool hf.s2, .slice va6 vn6 vc6, .slice va7 vn7 vc7, .string hf.x, .slice va9 vn9 vc9, .slice va10 vn10 vc10]] w' fun e w'' => ∃ C, e = .returned (.agg C) ∧ Tr.In w'' (fun q => w'.heap.size ≤ q) val (.agg C) ∧ Below w'.heap.size w' w'') := Lib.hid (fun w' hb => Tr.Copy_any val _ _ w' (Tr.In.below HIW.out.2 hb (Nat.le_refl _)) HSD.out.2)
  clear q0 q1 qr hN hne hbW hzW l0 l1 QX0 QX1 qp qp2
  go_upto_region 11 with fail
  have hacc : Below W1.heap.size W1 W1.drew := (Below.refl _ _).drew
  have hkeep := HS.out _ (fun q hq hr => hacc.block q hq)
  clear hlk hln hge hge2 hwr p0 p1 p2 z1
  go_region_held3 (fun w' => w'.cell? ⟨w.heap.size, 0, none⟩ = some (.int .i64 he.k) ∧ w'.cell? ⟨w.heap.size, 1, none⟩ = some (.int .i64 he.n) ∧ w'.cell? ⟨w.heap.size, 2, none⟩ = some (.bool he.s1) ∧ w'.cell? ⟨w.heap.size, 3, none⟩ = some (.slice ka3 kn3 kc3) ∧ w'.cell? ⟨w.heap.size, 4, none⟩ = some (.slice ka4 kn4 kc4) ∧ w'.cell? ⟨w.heap.size, 5, none⟩ = some (.bool he.s2) ∧ w'.cell? ⟨w.heap.size, 6, none⟩ = some (.slice ka6 kn6 kc6) ∧ w'.cell? ⟨w.heap.size, 7, none⟩ = some (.slice ka7 kn7 kc7) ∧ w'.cell? ⟨w.heap.size, 8, none⟩ = some (.string he.x) ∧ w'.cell? ⟨w.heap.size, 9, none⟩ = some (.slice ka9 kn9 kc9) ∧ w'.cell? ⟨w.heap.size, 10, none⟩ = some (.slice ka10 kn10 kc10) ∧ w'.cell? ⟨w.heap.size + 1, 0, none⟩ = some (.int .i64 hf.k) ∧ w'.cell? ⟨w.heap.size + 1, 1, none⟩ = some (.int .i64 hf.n) ∧ w'.cell? ⟨w.heap.size + 1, 2, none⟩ = some (.bool hf.s1) ∧ w'.cell? ⟨w.heap.size + 1, 3, none⟩ = some (.slice va3 vn3 vc3) ∧ w'.cell? ⟨w.heap.size + 1, 4, none⟩ = some (.slice va4 vn4 vc4) ∧ w'.cell? ⟨w.heap.size + 1, 5, none⟩ = some (.bool hf.s2) ∧ w'.cell? ⟨w.heap.size + 1, 6, none⟩ = some (.slice va6 vn6 vc6) ∧ w'.cell? ⟨w.heap.size + 1, 7, none⟩ = some (.slice va7 vn7 vc7) ∧ w'.cell? ⟨w.heap.size + 1, 8, none⟩ = some (.string hf.x) ∧ w'.cell? ⟨w.heap.size + 1, 9, none⟩ = some (.slice va9 vn9 vc9) ∧ w'.cell? ⟨w.heap.size + 1, 10, none⟩ = some (.slice va10 vn10 vc10) ∧ w'.cell? ⟨p, 1, none⟩ = some (.int .i64 L1) ∧ w'.cell? ⟨p, 2, none⟩ = some (.map (some r)))
    (first | exact hkeep | exact hkeepA _ | exact hkeepU _)
    (first
      | (go_at_call_of 21 (Value.agg #[.int .i64 he.k, .int .i64 he.n, .bool he.s1, .slice ka3 kn3 kc3, .slice ka4 kn4 kc4, .bool he.s2, .slice ka6 kn6 kc6, .slice ka7 kn7 kc7, .string he.x, .slice ka9 kn9 kc9, .slice ka10 kn10 kc10])
         refine (KCkey.out _ hacc).mono ?_
         rintro x wA ⟨CA, rfl, hICA, hby⟩
         obtain ⟨hA, lA, xa3, xa4, xa6, xa7, xa9, xa10, xn3, xn4, xn6, xn7, xn9, xn10, xc3, xc4, xc6, xc7, xc9, xc10, eCA, et1, et2, et3⟩ := Tr.In.form2 hICA
         clear et1 et2 et3
         have e9 : CA = #[.int .i64 hA.k, .int .i64 hA.n, .bool hA.s1, .slice xa3 xn3 xc3, .slice xa4 xn4 xc4, .bool hA.s2, .slice xa6 xn6 xc6, .slice xa7 xn7 xc7, .string hA.x, .slice xa9 xn9 xc9, .slice xa10 xn10 xc10] := eCA
         clear eCA
         subst e9
         have HCA := Lib.hid (Tr.In.mono (S' := fun q => W1.heap.size ≤ q) (fun q hq => Nat.le_trans hacc.size hq) _ _ hICA)
         try have HCB := Lib.hid (Tr.In.below HCB.out hby (Nat.le_refl _))
         have hacc := hacc.trans (hby.mono hacc.size)
         clear hICA hby
         have hkeep := HS.out _ (fun q hq hr => hacc.block q hq)
         have hU := fun o => Tm.fin W1 wA o es clock nm r hacc lr
         have hmu : ∀ o, (Instr.mapUpdate 59 (.map (some r)) (.string nm) (.pointer (some ⟨wA.heap.size, 0, none⟩))).run Tryz.prog (wA.alloc o) = .ok () (Tm.upd (wA.alloc o) r es clock nm wA.heap.size) := fun o => Tm.update _ r clock es _ nm _ HES.out.1 HES.out.2 ((Lib.alloc_old _ _ _ (Nat.lt_of_lt_of_le lr hacc.size)).trans ((hacc.block r lr).trans QR.out))
         have hkeepA := fun o => HS.out (wA.alloc o) (fun q hq hr => (hacc.alloc hacc.size o).block q hq)
         have hkeepU := fun o => HS.out (Tm.upd (wA.alloc o) r es clock nm wA.heap.size) (fun q hq hr => ((hU o).2.2.1 q hr (Nat.lt_of_lt_of_le hq hacc.size)).trans (hacc.block q hq))
         have HFIN := Lib.hid (And.intro hacc hU))
      | (go_at_call_of 21 (Value.agg #[.int .i64 hf.k, .int .i64 hf.n, .bool hf.s1, .slice va3 vn3 vc3, .slice va4 vn4 vc4, .bool hf.s2, .slice va6 vn6 vc6, .slice va7 vn7 vc7, .string hf.x, .slice va9 vn9 vc9, .slice va10 vn10 vc10])
         refine (KCval.out _ hacc).mono ?_
         rintro x wB ⟨CB, rfl, hICB, hby⟩
         obtain ⟨hB, lB, za3, za4, za6, za7, za9, za10, zn3, zn4, zn6, zn7, zn9, zn10, zc3, zc4, zc6, zc7, zc9, zc10, eCB, et1, et2, et3⟩ := Tr.In.form2 hICB
         clear et1 et2 et3
         have e9 : CB = #[.int .i64 hB.k, .int .i64 hB.n, .bool hB.s1, .slice za3 zn3 zc3, .slice za4 zn4 zc4, .bool hB.s2, .slice za6 zn6 zc6, .slice za7 zn7 zc7, .string hB.x, .slice za9 zn9 zc9, .slice za10 zn10 zc10] := eCB
         clear eCB
         subst e9
         have HCB := Lib.hid (Tr.In.mono (S' := fun q => W1.heap.size ≤ q) (fun q hq => Nat.le_trans hacc.size hq) _ _ hICB)
         try have HCA := Lib.hid (Tr.In.below HCA.out hby (Nat.le_refl _))
         have hacc := hacc.trans (hby.mono hacc.size)
         clear hICB hby
         have hkeep := HS.out _ (fun q hq hr => hacc.block q hq)
         have hU := fun o => Tm.fin W1 wB o es clock nm r hacc lr
         have hmu : ∀ o, (Instr.mapUpdate 59 (.map (some r)) (.string nm) (.pointer (some ⟨wB.heap.size, 0, none⟩))).run Tryz.prog (wB.alloc o) = .ok () (Tm.upd (wB.alloc o) r es clock nm wB.heap.size) := fun o => Tm.update _ r clock es _ nm _ HES.out.1 HES.out.2 ((Lib.alloc_old _ _ _ (Nat.lt_of_lt_of_le lr hacc.size)).trans ((hacc.block r lr).trans QR.out))
         have hkeepA := fun o => HS.out (wB.alloc o) (fun q hq hr => (hacc.alloc hacc.size o).block q hq)
         have hkeepU := fun o => HS.out (Tm.upd (wB.alloc o) r es clock nm wB.heap.size) (fun q hq hr => ((hU o).2.2.1 q hr (Nat.lt_of_lt_of_le hq hacc.size)).trans (hacc.block q hq))
         have HFIN := Lib.hid (And.intro hacc hU)))
  all_goals
    clear hkeep hkeepA hkeepU hmu hU hacc
    go_wp2_with fail
    go_ret
    have hfp := ((HFIN.out.2 (.cells #[.int .i64 hA.k, .int .i64 hA.n, .bool hA.s1, .slice xa3 xn3 xc3, .slice xa4 xn4 xc4, .bool hA.s2, .slice xa6 xn6 xc6, .slice xa7 xn7 xc7, .string hA.x, .slice xa9 xn9 xc9, .slice xa10 xn10 xc10, .int .i64 hB.k, .int .i64 hB.n, .bool hB.s1, .slice za3 zn3 zc3, .slice za4 zn4 zc4, .bool hB.s2, .slice za6 zn6 zc6, .slice za7 zn7 zc7, .string hB.x, .slice za9 zn9 zc9, .slice za10 zn10 zc10, .int .i64 L1] 68)).2.2.1 p hpr (Nat.lt_of_lt_of_le HSZ.out.2.1 HFIN.out.1.size)).trans ((HFIN.out.1.block p HSZ.out.2.1).trans QP.out)
    have hfo := fun (q : Nat) (hq : q < w.heap.size) (hqp : q ≠ p) (hqr : q ≠ r) => ((HFIN.out.2 (.cells #[.int .i64 hA.k, .int .i64 hA.n, .bool hA.s1, .slice xa3 xn3 xc3, .slice xa4 xn4 xc4, .bool hA.s2, .slice xa6 xn6 xc6, .slice xa7 xn7 xc7, .string hA.x, .slice xa9 xn9 xc9, .slice xa10 xn10 xc10, .int .i64 hB.k, .int .i64 hB.n, .bool hB.s1, .slice za3 zn3 zc3, .slice za4 zn4 zc4, .bool hB.s2, .slice za6 zn6 zc6, .slice za7 zn7 zc7, .string hB.x, .slice za9 zn9 zc9, .slice za10 zn10 zc10, .int .i64 L1] 68)).2.2.1 q hqr (by have := HSZ.out.1; have := HFIN.out.1.size; omega)).trans ((HFIN.out.1.block q (by have := HSZ.out.1; omega)).trans (HOLD.out q hq hqp))
    have hin : ∀ (t : Tr) (v : Value) (wX : World), Below W1.heap.size W1 wX → (∀ q, q ≠ r → q < wX.heap.size → (Tm.upd (wX.alloc (.cells #[.int .i64 hA.k, .int .i64 hA.n, .bool hA.s1, .slice xa3 xn3 xc3, .slice xa4 xn4 xc4, .bool hA.s2, .slice xa6 xn6 xc6, .slice xa7 xn7 xc7, .string hA.x, .slice xa9 xn9 xc9, .slice xa10 xn10 xc10, .int .i64 hB.k, .int .i64 hB.n, .bool hB.s1, .slice za3 zn3 zc3, .slice za4 zn4 zc4, .bool hB.s2, .slice za6 zn6 zc6, .slice za7 zn7 zc7, .string hB.x, .slice za9 zn9 zc9, .slice za10 zn10 zc10, .int .i64 L1] 68)) r es clock nm wX.heap.size).heap[q]? = wX.heap[q]?) → wX.heap.size ≤ (Tm.upd (wX.alloc (.cells #[.int .i64 hA.k, .int .i64 hA.n, .bool hA.s1, .slice xa3 xn3 xc3, .slice xa4 xn4 xc4, .bool hA.s2, .slice xa6 xn6 xc6, .slice xa7 xn7 xc7, .string hA.x, .slice xa9 xn9 xc9, .slice xa10 xn10 xc10, .int .i64 hB.k, .int .i64 hB.n, .bool hB.s1, .slice za3 zn3 zc3, .slice za4 zn4 zc4, .bool hB.s2, .slice za6 zn6 zc6, .slice za7 zn7 zc7, .string hB.x, .slice za9 zn9 zc9, .slice za10 zn10 zc10, .int .i64 L1] 68)) r es clock nm wX.heap.size).heap.size → Tr.In wX (fun q => W1.heap.size ≤ q) t v → Tr.In (Tm.upd (wX.alloc (.cells #[.int .i64 hA.k, .int .i64 hA.n, .bool hA.s1, .slice xa3 xn3 xc3, .slice xa4 xn4 xc4, .bool hA.s2, .slice xa6 xn6 xc6, .slice xa7 xn7 xc7, .string hA.x, .slice xa9 xn9 xc9, .slice xa10 xn10 xc10, .int .i64 hB.k, .int .i64 hB.n, .bool hB.s1, .slice za3 zn3 zc3, .slice za4 zn4 zc4, .bool hB.s2, .slice za6 zn6 zc6, .slice za7 zn7 zc7, .string hB.x, .slice za9 zn9 zc9, .slice za10 zn10 zc10, .int .i64 L1] 68)) r es clock nm wX.heap.size) (fun q => w.heap.size ≤ q ∧ q ≠ wX.heap.size) t v := fun t v wX hacc hold hsz hI => by
      refine Tr.In.mono (fun q hq => ?_) _ _ (Tr.In.kept (S := fun q => W1.heap.size ≤ q ∧ q < wX.heap.size) ⟨hsz, fun q hq hl => hold q (fun e => by have := hq.1; omega) hl⟩ _ _ (Tr.In.top _ _ hI))
      have h1 := hq.1
      have h2 := hq.2
      have h3 := HSZ.out.1
      exact ⟨by omega, by omega⟩
    have hik := hin key _ _ HFIN.out.1 (HFIN.out.2 _).2.2.1 (HFIN.out.2 _).2.2.2.1 HCA.out
    have hiv := hin val _ _ HFIN.out.1 (HFIN.out.2 _).2.2.1 (HFIN.out.2 _).2.2.2.1 HCB.out
    have hxx : w.heap.size ≤ W1.heap.size := by have := HSZ.out.1; omega
    have hL1 := HL1.out
    refine ⟨rfl, ?_, hfo, (HFIN.out.2 _).2.2.2.2 _ _ HBW.out hBr (by omega)⟩
    subst hL1
    exact ⟨_, clock, HST.out.push HR0.out (Nat.le_trans hxx (Nat.le_trans HFIN.out.1.size (HFIN.out.2 _).2.2.2.1)) hfo (Tm.pos_rows_none.1 HES.out.2) hfp (HFIN.out.2 _).1 (Nat.le_trans hxx HFIN.out.1.size) (HFIN.out.2 _).2.1 hik hiv HSD.out.1 HSD.out.2 HDD.out⟩

theorem Tm.put1 {w : World} {b : Nat} {C : Array Value} {t : TypeId} (h : w.heap[b]? = some (.cells C t (0, 0))) (j : Nat) (u : Value) : ∃ W, w.setCell ⟨b, j, none⟩ u = W ∧ W.heap.size = w.heap.size ∧ W.heap[b]? = some (.cells (C.set! j u) t (0, 0)) ∧ (∀ q, q ≠ b → W.heap[q]? = w.heap[q]?) ∧ ∀ (B : Nat) (w0 : World), Below B w0 w → B ≤ b → Below B w0 W :=
  ⟨_, rfl, by simp, Rt.setCells h j u, fun q hq => Below.heap_setCell w ⟨b, j, none⟩ u q hq, fun B w0 hB hb => hB.setCell (p := ⟨b, j, none⟩) hb u⟩
/-- A store of eleven cells into an entry's block: its value. -/
theorem Tm.put11 {w : World} {b : Nat} {k0 k1 k2 k3 k4 k5 k6 k7 k8 k9 k10 v0 v1 v2 v3 v4 v5 v6 v7 v8 v9 v10 c : Value} {t : TypeId} (h : w.heap[b]? = some (.cells #[k0, k1, k2, k3, k4, k5, k6, k7, k8, k9, k10, v0, v1, v2, v3, v4, v5, v6, v7, v8, v9, v10, c] t (0, 0))) (u0 u1 u2 u3 u4 u5 u6 u7 u8 u9 u10 : Value) :
    ∃ W1 W2 W3 W4 W5 W6 W7 W8 W9 W10 W11 : World,
    (w.cell? ⟨b, 11, none⟩ = some v0 ∧ w.frozen? ⟨b, 11, none⟩ = false ∧ w.setCell ⟨b, 11, none⟩ u0 = W1) ∧
    (W1.cell? ⟨b, 12, none⟩ = some v1 ∧ W1.frozen? ⟨b, 12, none⟩ = false ∧ W1.setCell ⟨b, 12, none⟩ u1 = W2) ∧
    (W2.cell? ⟨b, 13, none⟩ = some v2 ∧ W2.frozen? ⟨b, 13, none⟩ = false ∧ W2.setCell ⟨b, 13, none⟩ u2 = W3) ∧
    (W3.cell? ⟨b, 14, none⟩ = some v3 ∧ W3.frozen? ⟨b, 14, none⟩ = false ∧ W3.setCell ⟨b, 14, none⟩ u3 = W4) ∧
    (W4.cell? ⟨b, 15, none⟩ = some v4 ∧ W4.frozen? ⟨b, 15, none⟩ = false ∧ W4.setCell ⟨b, 15, none⟩ u4 = W5) ∧
    (W5.cell? ⟨b, 16, none⟩ = some v5 ∧ W5.frozen? ⟨b, 16, none⟩ = false ∧ W5.setCell ⟨b, 16, none⟩ u5 = W6) ∧
    (W6.cell? ⟨b, 17, none⟩ = some v6 ∧ W6.frozen? ⟨b, 17, none⟩ = false ∧ W6.setCell ⟨b, 17, none⟩ u6 = W7) ∧
    (W7.cell? ⟨b, 18, none⟩ = some v7 ∧ W7.frozen? ⟨b, 18, none⟩ = false ∧ W7.setCell ⟨b, 18, none⟩ u7 = W8) ∧
    (W8.cell? ⟨b, 19, none⟩ = some v8 ∧ W8.frozen? ⟨b, 19, none⟩ = false ∧ W8.setCell ⟨b, 19, none⟩ u8 = W9) ∧
    (W9.cell? ⟨b, 20, none⟩ = some v9 ∧ W9.frozen? ⟨b, 20, none⟩ = false ∧ W9.setCell ⟨b, 20, none⟩ u9 = W10) ∧
    (W10.cell? ⟨b, 21, none⟩ = some v10 ∧ W10.frozen? ⟨b, 21, none⟩ = false ∧ W10.setCell ⟨b, 21, none⟩ u10 = W11) ∧
    Hid (W11.heap[b]? = some (.cells #[k0, k1, k2, k3, k4, k5, k6, k7, k8, k9, k10, u0, u1, u2, u3, u4, u5, u6, u7, u8, u9, u10, c] t (0, 0)) ∧ W11.heap.size = w.heap.size ∧ (∀ q, q ≠ b → W11.heap[q]? = w.heap[q]?) ∧ ∀ (B : Nat) (w0 : World), Below B w0 w → B ≤ b → Below B w0 W11) := by
  obtain ⟨W1, s0, n0, g1, o0, b0⟩ := Tm.put1 h 11 u0
  have g1 : W1.heap[b]? = some (.cells #[k0, k1, k2, k3, k4, k5, k6, k7, k8, k9, k10, u0, v1, v2, v3, v4, v5, v6, v7, v8, v9, v10, c] t (0, 0)) := g1
  obtain ⟨W2, s1, n1, g2, o1, b1⟩ := Tm.put1 g1 12 u1
  have g2 : W2.heap[b]? = some (.cells #[k0, k1, k2, k3, k4, k5, k6, k7, k8, k9, k10, u0, u1, v2, v3, v4, v5, v6, v7, v8, v9, v10, c] t (0, 0)) := g2
  obtain ⟨W3, s2, n2, g3, o2, b2⟩ := Tm.put1 g2 13 u2
  have g3 : W3.heap[b]? = some (.cells #[k0, k1, k2, k3, k4, k5, k6, k7, k8, k9, k10, u0, u1, u2, v3, v4, v5, v6, v7, v8, v9, v10, c] t (0, 0)) := g3
  obtain ⟨W4, s3, n3, g4, o3, b3⟩ := Tm.put1 g3 14 u3
  have g4 : W4.heap[b]? = some (.cells #[k0, k1, k2, k3, k4, k5, k6, k7, k8, k9, k10, u0, u1, u2, u3, v4, v5, v6, v7, v8, v9, v10, c] t (0, 0)) := g4
  obtain ⟨W5, s4, n4, g5, o4, b4⟩ := Tm.put1 g4 15 u4
  have g5 : W5.heap[b]? = some (.cells #[k0, k1, k2, k3, k4, k5, k6, k7, k8, k9, k10, u0, u1, u2, u3, u4, v5, v6, v7, v8, v9, v10, c] t (0, 0)) := g5
  obtain ⟨W6, s5, n5, g6, o5, b5⟩ := Tm.put1 g5 16 u5
  have g6 : W6.heap[b]? = some (.cells #[k0, k1, k2, k3, k4, k5, k6, k7, k8, k9, k10, u0, u1, u2, u3, u4, u5, v6, v7, v8, v9, v10, c] t (0, 0)) := g6
  obtain ⟨W7, s6, n6, g7, o6, b6⟩ := Tm.put1 g6 17 u6
  have g7 : W7.heap[b]? = some (.cells #[k0, k1, k2, k3, k4, k5, k6, k7, k8, k9, k10, u0, u1, u2, u3, u4, u5, u6, v7, v8, v9, v10, c] t (0, 0)) := g7
  obtain ⟨W8, s7, n7, g8, o7, b7⟩ := Tm.put1 g7 18 u7
  have g8 : W8.heap[b]? = some (.cells #[k0, k1, k2, k3, k4, k5, k6, k7, k8, k9, k10, u0, u1, u2, u3, u4, u5, u6, u7, v8, v9, v10, c] t (0, 0)) := g8
  obtain ⟨W9, s8, n8, g9, o8, b8⟩ := Tm.put1 g8 19 u8
  have g9 : W9.heap[b]? = some (.cells #[k0, k1, k2, k3, k4, k5, k6, k7, k8, k9, k10, u0, u1, u2, u3, u4, u5, u6, u7, u8, v9, v10, c] t (0, 0)) := g9
  obtain ⟨W10, s9, n9, g10, o9, b9⟩ := Tm.put1 g9 20 u9
  have g10 : W10.heap[b]? = some (.cells #[k0, k1, k2, k3, k4, k5, k6, k7, k8, k9, k10, u0, u1, u2, u3, u4, u5, u6, u7, u8, u9, v10, c] t (0, 0)) := g10
  obtain ⟨W11, s10, n10, g11, o10, b10⟩ := Tm.put1 g10 21 u10
  have g11 : W11.heap[b]? = some (.cells #[k0, k1, k2, k3, k4, k5, k6, k7, k8, k9, k10, u0, u1, u2, u3, u4, u5, u6, u7, u8, u9, u10, c] t (0, 0)) := g11
  exact ⟨_, _, _, _, _, _, _, _, _, _, _, ⟨Rt.cell_of h 11, Rt.frozen_of h 11, s0⟩, ⟨Rt.cell_of g1 12, Rt.frozen_of g1 12, s1⟩, ⟨Rt.cell_of g2 13, Rt.frozen_of g2 13, s2⟩, ⟨Rt.cell_of g3 14, Rt.frozen_of g3 14, s3⟩, ⟨Rt.cell_of g4 15, Rt.frozen_of g4 15, s4⟩, ⟨Rt.cell_of g5 16, Rt.frozen_of g5 16, s5⟩, ⟨Rt.cell_of g6 17, Rt.frozen_of g6 17, s6⟩, ⟨Rt.cell_of g7 18, Rt.frozen_of g7 18, s7⟩, ⟨Rt.cell_of g8 19, Rt.frozen_of g8 19, s8⟩, ⟨Rt.cell_of g9 20, Rt.frozen_of g9 20, s9⟩, ⟨Rt.cell_of g10 21, Rt.frozen_of g10 21, s10⟩, Lib.hid ⟨g11, by omega, fun q hq => (o10 q hq).trans ((o9 q hq).trans ((o8 q hq).trans ((o7 q hq).trans ((o6 q hq).trans ((o5 q hq).trans ((o4 q hq).trans ((o3 q hq).trans ((o2 q hq).trans ((o1 q hq).trans (o0 q hq)))))))))), fun B w0 hB hb => b10 B w0 (b9 B w0 (b8 B w0 (b7 B w0 (b6 B w0 (b5 B w0 (b4 B w0 (b3 B w0 (b2 B w0 (b1 B w0 (b0 B w0 hB hb) hb) hb) hb) hb) hb) hb) hb) hb) hb) hb⟩⟩
set_option maxHeartbeats 2000000 in
set_option maxRecDepth 1000000 in
theorem Tm.Set_old (D : Nat → Prop) (K : Int) (p r last B : Nat) (L : List Tm.Row) (key val : Tr) (nm : ByteArray) (vk vv : Value) (w : World) (hST : Tm.St D K p r last B w L) (hD : ∀ q, w.heap.size ≤ q → D q)
    (hk : Tr.In w (fun _ => True) key vk) (hv : Tr.In w (fun _ => True) val vv) (hsv : Tr.sound val = true) (hT : Wt.Tabs w) (KN : Tm.Names K p (.int .i64 last) (.map (some r)) key [val] nm 0)
    (j x : Nat) (row : Tm.Row) (hpos : Tm.pos (L.map (·.e)) nm = some (j, x)) (hj : L[j]? = some row) (hxr : row.e.x = x) :
    Calls Tryz.prog 8 #[.pointer (some ⟨p, 0, none⟩), vk, vv] w fun e w' => e = .returned (.int .i64 0) ∧ Tm.St D K p r last B w' (L.set j { row with val := val }) ∧
      (∀ q, q < w.heap.size → q ≠ x → w'.heap[q]? = w.heap[q]?) ∧ Below B w w' := by
  have hp := hST.tab
  obtain ⟨es, clock, hr, hes, hborn⟩ := hST.mp
  have hmem : row ∈ L := List.mem_of_getElem? hj
  obtain ⟨CO, CQ, hent, hiO, hiQ⟩ := hST.ents row hmem
  have hBx := hST.base.2.2 row hmem
  have hxl := hST.x_lt hmem
  have hxne := hST.x_ne hmem
  rw [hxr] at hent hBx hxl hxne
  have hBp := hST.base.1
  have HST := Lib.hid hST
  have HDD := Lib.hid hD
  clear hD
  have HES := Lib.hid (And.intro hes hpos)
  have HJ := Lib.hid (And.intro hj hxr)
  have HENT := Lib.hid hent
  have HIO := Lib.hid hiO
  obtain ⟨ho, lo, oa3, oa4, oa6, oa7, oa9, oa10, on3, on4, on6, on7, on9, on10, oc3, oc4, oc6, oc7, oc9, oc10, eCo, eto1, eto2, eto3⟩ := Tr.In.form2 hiO
  obtain ⟨hq, lq, qa3, qa4, qa6, qa7, qa9, qa10, qn3, qn4, qn6, qn7, qn9, qn10, qc3, qc4, qc6, qc7, qc9, qc10, eCq, etq1, etq2, etq3⟩ := Tr.In.form2 hiQ
  obtain ⟨CK, rfl⟩ := hk.agg
  obtain ⟨CV, rfl⟩ := hv.agg
  have hpl : p < w.heap.size := (Array.getElem?_eq_some_iff.1 hp).1
  have hrl : r < w.heap.size := (Array.getElem?_eq_some_iff.1 hr).1
  obtain ⟨he, le, ka3, ka4, ka6, ka7, ka9, ka10, kn3, kn4, kn6, kn7, kn9, kn10, kc3, kc4, kc6, kc7, kc9, kc10, eCk, etk1, etk2, etk3⟩ := Tr.In.form2 hk
  obtain ⟨hf, lf, va3, va4, va6, va7, va9, va10, vn3, vn4, vn6, vn7, vn9, vn10, vc3, vc4, vc6, vc7, vc9, vc10, eCv, etv1, etv2, etv3⟩ := Tr.In.form2 hv
  subst eCk
  subst eCv
  have HCO := Lib.hid eCo
  have HCQ := Lib.hid eCq
  unfold Tr.cells at *
  obtain ⟨W3, hW3, h0, h1, h2, hz3, hb3⟩ := Rt.three w (.cells #[.int .i64 he.k, .int .i64 he.n, .bool he.s1, .slice ka3 kn3 kc3, .slice ka4 kn4 kc4, .bool he.s2, .slice ka6 kn6 kc6, .slice ka7 kn7 kc7, .string he.x, .slice ka9 kn9 kc9, .slice ka10 kn10 kc10] 37) (.cells #[.int .i64 hf.k, .int .i64 hf.n, .bool hf.s1, .slice va3 vn3 vc3, .slice va4 vn4 vc4, .bool hf.s2, .slice va6 vn6 vc6, .slice va7 vn7 vc7, .string hf.x, .slice va9 vn9 vc9, .slice va10 vn10 vc10] 37) (.cells #[.int .i64 hf.k, .int .i64 hf.n, .bool hf.s1, .slice va3 vn3 vc3, .slice va4 vn4 vc4, .bool hf.s2, .slice va6 vn6 vc6, .slice va7 vn7 vc7, .string hf.x, .slice va9 vn9 vc9, .slice va10 vn10 vc10] 37)
  have hp3 := (hb3.block p hpl).trans hp
  have hr3 := (hb3.block r hrl).trans hr
  have KNN := KN W3 _ _ (Tr.In.below hk hb3 (Nat.le_refl _)) (Tb.More.one h2 (Tr.In.below hv hb3 (Nat.le_refl _))) hp3 (hT.below hb3)
  have HI := Lib.hid hv
  have HSD := Lib.hid hsv
  have HB3 := Lib.hid hb3
  have H012 := Lib.hid (And.intro h1 hz3)
  have HPR := Lib.hid (And.intro hp3 hr3)
  obtain ⟨e0, e1, e2, e3, e4, e5, e6, e7, e8, e9, e10⟩ := Dt.cells11 h0
  obtain ⟨f0, f1, f2, f3, f4, f5, f6, f7, f8, f9, f10⟩ := Dt.cells11 h1
  clear hST hk hv hsv hT KN hes hborn hpos hp hr h0 h1 h2 hb3 hp3 hr3 etk1 etk2 etk3 etv1 etv2 etv3 eto1 eto2 eto3 etq1 etq2 etq3 eCo eCq hent hiO hiQ hmem hj hxr
  go_enter Tryz.func8, Tryz.ntmps8
  go_wp2_with fail
  refine KNN.mono ?_
  rintro y w1 ⟨rfl, hb1⟩
  have qp := (hb1.block p (by have := HB3.out.size; omega)).trans HPR.out.1
  have qr := (hb1.block r (by have := HB3.out.size; omega)).trans HPR.out.2
  have q1 := (hb1.block (w.heap.size + 1) (by have := H012.out.2; omega)).trans H012.out.1
  have HB1 := Lib.hid (HB3.out.trans (hb1.mono HB3.out.size))
  clear hb1 KNN hW3 hz3 e0 e1 e2 e3 e4 e5 e6 e7 e8 e9 e10 f0 f1 f2 f3 f4 f5 f6 f7 f8 f9 f10
  have p2 : w1.cell? ⟨p, 2, none⟩ = some (.map (some r)) := Rt.cell_of qp 2
  have hlk := Tm.look w1 r clock es _ nm HES.out.1 qr
  rw [HES.out.2] at hlk
  simp only [Option.map_some, Option.isSome_some] at hlk
  obtain ⟨f0, f1, f2, f3, f4, f5, f6, f7, f8, f9, f10⟩ := Dt.cells11 q1
  have KC := Tr.Copy_any val _ _ w1 (Tr.In.below HI.out HB1.out (Nat.le_refl _)) HSD.out
  clear qp qr q1
  go_wp2_with fail
  refine KC.mono ?_
  rintro y w2 ⟨CA, rfl, hIA, hb2⟩
  obtain ⟨hA, lA, xa3, xa4, xa6, xa7, xa9, xa10, xn3, xn4, xn6, xn7, xn9, xn10, xc3, xc4, xc6, xc7, xc9, xc10, eCA, et1, et2, et3⟩ := Tr.In.form2 hIA
  clear et1 et2 et3
  have e9 : CA = #[.int .i64 hA.k, .int .i64 hA.n, .bool hA.s1, .slice xa3 xn3 xc3, .slice xa4 xn4 xc4, .bool hA.s2, .slice xa6 xn6 xc6, .slice xa7 xn7 xc7, .string hA.x, .slice xa9 xn9 xc9, .slice xa10 xn10 xc10] := eCA
  clear eCA
  subst e9
  have hbw2 := HB1.out.trans (hb2.mono HB1.out.size)
  have hx2 : w2.heap[x]? = some (.cells #[.int .i64 ho.k, .int .i64 ho.n, .bool ho.s1, .slice oa3 on3 oc3, .slice oa4 on4 oc4, .bool ho.s2, .slice oa6 on6 oc6, .slice oa7 on7 oc7, .string ho.x, .slice oa9 on9 oc9, .slice oa10 on10 oc10, .int .i64 hq.k, .int .i64 hq.n, .bool hq.s1, .slice qa3 qn3 qc3, .slice qa4 qn4 qc4, .bool hq.s2, .slice qa6 qn6 qc6, .slice qa7 qn7 qc7, .string hq.x, .slice qa9 qn9 qc9, .slice qa10 qn10 qc10, .int .i64 row.came] 68 (0, 0)) := by
    refine (hbw2.block x hxl).trans (HENT.out.trans ?_)
    rw [HCO.out, HCQ.out]
    rfl
  have HIA := Lib.hid hIA
  have HB2 := Lib.hid hbw2
  have HZ2 := Lib.hid (hb2.mono HB1.out.size).size
  obtain ⟨W1, W2, W3, W4, W5, W6, W7, W8, W9, W10, W11, ⟨g0, z0, s0⟩, ⟨g1, z1, s1⟩, ⟨g2, z2, s2⟩, ⟨g3, z3, s3⟩, ⟨g4, z4, s4⟩, ⟨g5, z5, s5⟩, ⟨g6, z6, s6⟩, ⟨g7, z7, s7⟩, ⟨g8, z8, s8⟩, ⟨g9, z9, s9⟩, ⟨g10, z10, s10⟩, HP⟩ := Tm.put11 hx2 (.int .i64 hA.k) (.int .i64 hA.n) (.bool hA.s1) (.slice xa3 xn3 xc3) (.slice xa4 xn4 xc4) (.bool hA.s2) (.slice xa6 xn6 xc6) (.slice xa7 xn7 xc7) (.string hA.x) (.slice xa9 xn9 xc9) (.slice xa10 xn10 xc10)
  have HFIN : Hid (Tm.St D K p r last B W11 (L.set j { row with val := val }) ∧ (∀ q, q < w.heap.size → q ≠ x → W11.heap[q]? = w.heap[q]?) ∧ Below B w W11) := Lib.hid (by
    have hz := hbw2.size
    have hzb := hb2.size
    have hz1 := HB1.out.size
    have hold : ∀ q, q < w.heap.size → q ≠ x → W11.heap[q]? = w.heap[q]? := fun q hq hqx => (HP.out.2.2.1 q hqx).trans (hbw2.block q hq)
    have hsz11 := HP.out.2.1
    refine ⟨?_, hold, HP.out.2.2.2 B w (hbw2.mono (by omega)) hBx⟩
    have hent := HENT.out
    have hxr := HJ.out.2
    subst hxr
    refine HST.out.turn HJ.out.1 (by omega) hold hent HIO.out (CV' := #[.int .i64 hA.k, .int .i64 hA.n, .bool hA.s1, .slice xa3 xn3 xc3, .slice xa4 xn4 xc4, .bool hA.s2, .slice xa6 xn6 xc6, .slice xa7 xn7 xc7, .string hA.x, .slice xa9 xn9 xc9, .slice xa10 xn10 xc10]) ?_ ?_ HSD.out HDD.out
    · refine HP.out.1.trans ?_
      rw [HCO.out]
      rfl
    · refine Tr.In.mono (fun q hq => ?_) _ _ (Tr.In.kept (S := fun q => w1.heap.size ≤ q) ⟨by omega, fun q hq hl => HP.out.2.2.1 q (fun e => by have h5 : w1.heap.size ≤ q := hq; omega)⟩ _ _ HIA.out)
      have h5 : w1.heap.size ≤ q := hq
      show w.heap.size ≤ q
      omega)
  clear hb2 KC hIA hbw2 hx2 hlk p2 HP f0 f1 f2 f3 f4 f5 f6 f7 f8 f9 f10
  go_wp2_with fail
  go_ret
  exact ⟨rfl, HFIN.out⟩

set_option maxHeartbeats 2000000 in
set_option maxRecDepth 1000000 in
theorem Tm.get_found (K : Int) (p r x clock j : Nat) (es : Array MapEntry) (L : List Tm.E) (last : Value) (key key0 val : Tr) (nm : ByteArray) (vk : Value) (w : World) (hp : w.heap[p]? = some (.cells #[.int .i64 K, last, .map (some r)] 61 (0, 0))) (hr : w.heap[r]? = some (.map es clock)) (hes : es.toList = Tm.ents L) (hpos : Tm.pos L nm = some (j, x))
    (hE : Tb.Ent w x key0 val) (hk : Tr.In w (fun _ => True) key vk) (hsv : Tr.sound val = true) (hT : Wt.Tabs w) (KN : Tm.Names K p last (.map (some r)) key [] nm 0) :
    Calls Tryz.prog 12 #[.pointer (some ⟨p, 0, none⟩), vk] w fun e w' => ∃ v', e = .returned (.tuple #[v', .int .i64 0]) ∧ Tr.In w' (fun _ => True) val v' ∧ Below w.heap.size w w' := by
  have hrl : r < w.heap.size := (Array.getElem?_eq_some_iff.1 hr).1
  obtain ⟨C, CK0, CV, hx, hcK, hcV, hI0, hIv⟩ := hE
  have hxl : x < w.heap.size := (Array.getElem?_eq_some_iff.1 hx).1
  have hs11 := hIv.size11
  obtain ⟨hf, lf, va3, va4, va6, va7, va9, va10, vn3, vn4, vn6, vn7, vn9, vn10, vc3, vc4, vc6, vc7, vc9, vc10, eCv, etv1, etv2, etv3⟩ := Tr.In.form2 hIv
  have eC3 : CV = #[.int .i64 hf.k, .int .i64 hf.n, .bool hf.s1, .slice va3 vn3 vc3, .slice va4 vn4 vc4, .bool hf.s2, .slice va6 vn6 vc6, .slice va7 vn7 vc7, .string hf.x, .slice va9 vn9 vc9, .slice va10 vn10 vc10] := eCv
  clear eCv
  subst eC3
  obtain ⟨CK, rfl⟩ := hk.agg
  have hpl : p < w.heap.size := (Array.getElem?_eq_some_iff.1 hp).1
  obtain ⟨he, le, ka3, ka4, ka6, ka7, ka9, ka10, kn3, kn4, kn6, kn7, kn9, kn10, kc3, kc4, kc6, kc7, kc9, kc10, eCk, etk1, etk2, etk3⟩ := Tr.In.form2 hk
  have eC2 : CK = #[.int .i64 he.k, .int .i64 he.n, .bool he.s1, .slice ka3 kn3 kc3, .slice ka4 kn4 kc4, .bool he.s2, .slice ka6 kn6 kc6, .slice ka7 kn7 kc7, .string he.x, .slice ka9 kn9 kc9, .slice ka10 kn10 kc10] := eCk
  clear eCk
  subst eC2
  obtain ⟨n0, n1, n2, n3⟩ := Sm.two w (.cells #[.int .i64 he.k, .int .i64 he.n, .bool he.s1, .slice ka3 kn3 kc3, .slice ka4 kn4 kc4, .bool he.s2, .slice ka6 kn6 kc6, .slice ka7 kn7 kc7, .string he.x, .slice ka9 kn9 kc9, .slice ka10 kn10 kc10] 37) (.cells #[.int .i64 0, .int .i64 0, .bool false, .slice none 0 0, .slice none 0 0, .bool false, .slice none 0 0, .slice none 0 0, .string ⟨#[]⟩, .slice none 0 0, .slice none 0 0] 37)
  have KNN := KN _ _ _ (Tr.In.below hk n3 (Nat.le_refl _)) (Tb.More.nil _) ((n3.block p hpl).trans hp) (hT.below n3)
  have HN := Lib.hid (And.intro n1 (And.intro n2 n3))
  have HC := Lib.hid hcV
  have HES := Lib.hid (And.intro hes hpos)
  have HX := Lib.hid (And.intro hp (And.intro hr hx))
  have HIV := Lib.hid (And.intro hIv hsv)
  clear hes hpos hp hr hx hcK hcV hI0 hIv hk hsv hT KN n0 n1 n2 n3 hs11 etk1 etk2 etk3 etv1 etv2 etv3
  go_enter Tryz.func12, Tryz.ntmps12
  go_wp2_with fail
  refine KNN.mono ?_
  rintro y w1 ⟨rfl, hb1⟩
  have hbw := HN.out.2.2.trans (hb1.mono HN.out.2.2.size)
  have qp := (hbw.block p hpl).trans HX.out.1
  have qr := (hbw.block r hrl).trans HX.out.2.1
  have qx := (hbw.block x hxl).trans HX.out.2.2
  have q1 := (hb1.block (w.heap.size + 1) (by have := HN.out.2.1; omega)).trans HN.out.1
  have Q1 := Lib.hid q1
  have HB1 := Lib.hid hbw
  have p2 : w1.cell? ⟨p, 2, none⟩ = some (.map (some r)) := Rt.cell_of qp 2
  have hlk := Tm.look w1 r clock es L nm HES.out.1 qr
  rw [HES.out.2] at hlk
  simp only [Option.map_some, Option.isSome_some] at hlk
  have d0 : w1.cell? ⟨x, 11, none⟩ = some (.int .i64 hf.k) := (Rt.cell_of qx 11).trans (HC.out 0 (by decide))
  have d1 : w1.cell? ⟨x, 12, none⟩ = some (.int .i64 hf.n) := (Rt.cell_of qx 12).trans (HC.out 1 (by decide))
  have d2 : w1.cell? ⟨x, 13, none⟩ = some (.bool hf.s1) := (Rt.cell_of qx 13).trans (HC.out 2 (by decide))
  have d3 : w1.cell? ⟨x, 14, none⟩ = some (.slice va3 vn3 vc3) := (Rt.cell_of qx 14).trans (HC.out 3 (by decide))
  have d4 : w1.cell? ⟨x, 15, none⟩ = some (.slice va4 vn4 vc4) := (Rt.cell_of qx 15).trans (HC.out 4 (by decide))
  have d5 : w1.cell? ⟨x, 16, none⟩ = some (.bool hf.s2) := (Rt.cell_of qx 16).trans (HC.out 5 (by decide))
  have d6 : w1.cell? ⟨x, 17, none⟩ = some (.slice va6 vn6 vc6) := (Rt.cell_of qx 17).trans (HC.out 6 (by decide))
  have d7 : w1.cell? ⟨x, 18, none⟩ = some (.slice va7 vn7 vc7) := (Rt.cell_of qx 18).trans (HC.out 7 (by decide))
  have d8 : w1.cell? ⟨x, 19, none⟩ = some (.string hf.x) := (Rt.cell_of qx 19).trans (HC.out 8 (by decide))
  have d9 : w1.cell? ⟨x, 20, none⟩ = some (.slice va9 vn9 vc9) := (Rt.cell_of qx 20).trans (HC.out 9 (by decide))
  have d10 : w1.cell? ⟨x, 21, none⟩ = some (.slice va10 vn10 vc10) := (Rt.cell_of qx 21).trans (HC.out 10 (by decide))
  have KC := Tr.Copy_any val _ _ w1 (Tr.In.below HIV.out.1 hbw (Nat.le_refl _)) HIV.out.2
  clear qp qr qx q1 hb1 hbw KNN
  go_wp2_with fail
  refine KC.mono ?_
  rintro y w2 ⟨CA, rfl, hIA, hb2⟩
  obtain ⟨hA, lA, xa3, xa4, xa6, xa7, xa9, xa10, xn3, xn4, xn6, xn7, xn9, xn10, xc3, xc4, xc6, xc7, xc9, xc10, eCA, et1, et2, et3⟩ := Tr.In.form2 hIA
  clear et1 et2 et3
  have e9 : CA = #[.int .i64 hA.k, .int .i64 hA.n, .bool hA.s1, .slice xa3 xn3 xc3, .slice xa4 xn4 xc4, .bool hA.s2, .slice xa6 xn6 xc6, .slice xa7 xn7 xc7, .string hA.x, .slice xa9 xn9 xc9, .slice xa10 xn10 xc10] := eCA
  clear eCA
  subst e9
  have q2 := (hb2.block (w.heap.size + 1) (Array.getElem?_eq_some_iff.1 Q1.out).1).trans Q1.out
  have hbw2 := HB1.out.trans (hb2.mono HB1.out.size)
  have HIA := Lib.hid hIA
  have HLT := Lib.hid (Array.getElem?_eq_some_iff.1 Q1.out).1
  clear hb2 KC d0 d1 d2 d3 d4 d5 d6 d7 d8 d9 d10 hlk p2 hIA
  obtain ⟨W1, W2, W3, W4, W5, W6, W7, W8, W9, W10, W11, ⟨f0, z0, g0, s0⟩, ⟨f1, z1, g1, s1⟩, ⟨f2, z2, g2, s2⟩, ⟨f3, z3, g3, s3⟩, ⟨f4, z4, g4, s4⟩, ⟨f5, z5, g5, s5⟩, ⟨f6, z6, g6, s6⟩, ⟨f7, z7, g7, s7⟩, ⟨f8, z8, g8, s8⟩, ⟨f9, z9, g9, s9⟩, ⟨f10, z10, g10, s10⟩, q4, hszz, hoth, hbb⟩ := Dt.put11 q2 (.int .i64 hA.k) (.int .i64 hA.n) (.bool hA.s1) (.slice xa3 xn3 xc3) (.slice xa4 xn4 xc4) (.bool hA.s2) (.slice xa6 xn6 xc6) (.slice xa7 xn7 xc7) (.string hA.x) (.slice xa9 xn9 xc9) (.slice xa10 xn10 xc10)
  have HE := Lib.hid (hbb w.heap.size w hbw2 (Nat.le_succ _))
  obtain ⟨r0, r1, r2, r3, r4, r5, r6, r7, r8, r9, r10⟩ := Dt.cells11 q4
  have HIW : Hid (Tr.In W11 (fun _ => True) val (.agg #[.int .i64 hA.k, .int .i64 hA.n, .bool hA.s1, .slice xa3 xn3 xc3, .slice xa4 xn4 xc4, .bool hA.s2, .slice xa6 xn6 xc6, .slice xa7 xn7 xc7, .string hA.x, .slice xa9 xn9 xc9, .slice xa10 xn10 xc10])) := Lib.hid (Tr.In.mono (fun _ _ => trivial) _ _ (Tr.In.kept (S := fun q => w1.heap.size ≤ q) ⟨by rw [hszz]; exact Nat.le_refl _, fun q hq hl => hoth q (fun e => by have : w1.heap.size ≤ q := hq; have := HLT.out; omega)⟩ _ _ HIA.out))
  clear hbb hszz q4 q2 hoth hbw2
  go_wp2_with fail
  refine bodyPost_ret (v := .tuple #[.agg #[.int .i64 hA.k, .int .i64 hA.n, .bool hA.s1, .slice xa3 xn3 xc3, .slice xa4 xn4 xc4, .bool hA.s2, .slice xa6 xn6 xc6, .slice xa7 xn7 xc7, .string hA.x, .slice xa9 xn9 xc9, .slice xa10 xn10 xc10], .int .i64 0]) (by simp [results, Tryz.results12, go_sem, r0, r1, r2, r3, r4, r5, r6, r7, r8, r9, r10]) rfl ⟨_, rfl, HIW.out, HE.out⟩
/-- Get of a key that the table holds. -/
theorem Tm.Get_found {D : Nat → Prop} {K : Int} {p r last B j x : Nat} {w : World} {L : List Tm.Row} (hST : Tm.St D K p r last B w L) {key : Tr} {nm : ByteArray} {vk : Value} (hk : Tr.In w (fun _ => True) key vk) (hT : Wt.Tabs w) (KN : Tm.Names K p (.int .i64 last) (.map (some r)) key [] nm 0)
    {row : Tm.Row} (hpos : Tm.pos (L.map (·.e)) nm = some (j, x)) (hj : L[j]? = some row) (hx : row.e.x = x) :
    Calls Tryz.prog 12 #[.pointer (some ⟨p, 0, none⟩), vk] w fun e w' => ∃ v', e = .returned (.tuple #[v', .int .i64 0]) ∧ Tr.In w' (fun _ => True) row.val v' ∧ Below w.heap.size w w' := by
  obtain ⟨es, clock, hr, hes, _⟩ := hST.mp
  have hmem := List.mem_of_getElem? hj
  obtain ⟨CK, CV, h1, h2, h3⟩ := hST.ents row hmem
  have z1 := h2.size11
  have z2 := h3.size11
  subst hx
  refine Tm.get_found K p r row.e.x clock j es _ _ key row.key row.val nm vk w hST.tab hr hes hpos ⟨_, CK, CV, h1, fun i hi => ?_, fun i hi => ?_, Tr.In.mono (fun _ _ => trivial) _ _ h2, Tr.In.mono (fun _ _ => trivial) _ _ h3⟩ hk (hST.snd row hmem).2 hT KN
  · rw [Array.getElem?_append_left (by rw [Array.size_append]; omega), Array.getElem?_append_left (by omega)]
  · rw [Array.getElem?_append_left (by rw [Array.size_append]; omega), Array.getElem?_append_right (by omega), z1]
    congr 1
    omega
end Go.Proofs.YtdjllmogejkimaaGreatDoor
