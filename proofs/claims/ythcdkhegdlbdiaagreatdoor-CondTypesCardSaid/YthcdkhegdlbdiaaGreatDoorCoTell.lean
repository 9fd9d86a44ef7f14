/-
  cond.Tell of what cond.Error has made, and the fixed fact of layer 16's laws.
-/
import Derived.Test.YthcdkhegdlbdiaaGreatDoorCoError
import Derived.Test.YthcdkhegdlbdiaaGreatDoorWrPlain
namespace Go.Proofs.YthcdkhegdlbdiaaGreatDoor
open Go.RowKit
set_option linter.unusedVariables false

def Co.S1 : ByteArray := ⟨#[99, 97, 114]⟩
def Co.S2 : ByteArray := ⟨#[110, 111]⟩
def Co.t4 (i : Nat) : Nat := match i with | 0 => 6 | 1 => 8 | 2 => 1 | _ => 7
def Co.f4 (f1 f2 f3 : Value) (i : Nat) : Value := match i with | 0 => .slice none 0 0 | 1 => f1 | 2 => f2 | _ => f3
theorem Co.At.up {w : World} {B B2 a n : Nat} {t : Nat → Nat} {f : Nat → Value} (h : Co.At w B a n t f) (hB : B ≤ B2) : Co.At w B2 a n t f := by
  refine ⟨Nat.lt_of_lt_of_le h.1 hB, fun i hi => ⟨(h.2 i hi).1, (h.2 i hi).2.1, (h.2 i hi).2.2.1, ?_⟩⟩
  rcases (h.2 i hi).2.2.2 with h | ⟨h1, b, k, s, ad, cap, hlt, r⟩
  · exact .inl h
  · exact .inr ⟨h1, b, k, s, ad, cap, by omega, r⟩
/-- What cond.Error has made, as Tell reads it. -/
theorem Co.Four.open {w : World} {B : Nat} {v : Value} (h : Co.Four w B v Co.S1 Co.S2) : ∃ a cap f1 f2 f3, v = .slice (some ⟨a, 0, none⟩) 4 cap ∧ Co.At w w.heap.size a 4 Co.t4 (Co.f4 f1 f2 f3) ∧
    (∃ b ad cap, f1 = .slice (some ⟨b, 0, none⟩) 1 1 ∧ w.heap[b]? = some (.cells (Dt.cells 6 Co.S1 (.slice ad 0 cap)) 49 (0, 0))) ∧
    (∃ b ad cap, f2 = .slice (some ⟨b, 0, none⟩) 1 1 ∧ w.heap[b]? = some (.cells (Dt.cells 5 Co.S2 (.slice ad 0 cap)) 49 (0, 0))) ∧
    (∃ b ad cap, f3 = .slice (some ⟨b, 0, none⟩) 1 1 ∧ w.heap[b]? = some (.cells (Dt.cells 1 ⟨#[]⟩ (.slice ad 0 cap)) 49 (0, 0))) := by
  have V1 : Dt.valid Co.S1 := fun w => Dt.valid_short [99, 97, 114] (by decide) (by decide) w
  have V2 : Dt.valid Co.S2 := fun w => Dt.valid_short [110, 111] (by decide) (by decide) w
  have V3 : Dt.valid ⟨#[]⟩ := fun w => Dt.valid_short [] (by decide) (by simp) w
  obtain ⟨f1, f2, f3, hown, h1, h2, h3⟩ := h
  rcases hown.2 with ⟨_, h0⟩ | ⟨g, cap, cur, rfl, hB, hg, hr⟩
  · omega
  · have e := fun j u (hj : ([.int .i64 6, .slice none 0 0, .int .i64 8, f1, .int .i64 1, f2, .int .i64 7, f3] : List Value)[j]? = some u) => hown.cells (g := g) rfl j u hj
    simp only [Dt.addr_add, Nat.zero_add] at e
    refine ⟨g, cap, f1, f2, f3, rfl, ⟨(Array.getElem?_eq_some_iff.1 hg).1, ?_⟩, h1, h2, h3⟩
    obtain ⟨b1, ad1, cap1, e1, q1⟩ := h1
    obtain ⟨b2, ad2, cap2, e2, q2⟩ := h2
    obtain ⟨b3, ad3, cap3, e3, q3⟩ := h3
    intro i hi
    match i, hi with
    | 0, _ => exact ⟨by decide, e 0 _ rfl, e 1 _ rfl, .inl ⟨rfl, by decide⟩⟩
    | 1, _ => exact ⟨by decide, e 2 _ rfl, e 3 _ rfl, .inr ⟨by decide, b1, 6, Co.S1, ad1, cap1, (Array.getElem?_eq_some_iff.1 q1).1, e1, q1, .inr (.inr (.inr rfl)), V1⟩⟩
    | 2, _ => exact ⟨by decide, e 4 _ rfl, e 5 _ rfl, .inr ⟨by decide, b2, 5, Co.S2, ad2, cap2, (Array.getElem?_eq_some_iff.1 q2).1, e2, q2, .inr (.inr (.inl rfl)), V2⟩⟩
    | 3, _ => exact ⟨by decide, e 6 _ rfl, e 7 _ rfl, .inr ⟨by decide, b3, 1, ⟨#[]⟩, ad3, cap3, (Array.getElem?_eq_some_iff.1 q3).1, e3, q3, .inl ⟨rfl, rfl⟩, V3⟩⟩

set_option maxHeartbeats 4000000 in
set_option maxRecDepth 1000000 in
theorem Co.Tell_at (v : Value) (w : World) (B : Nat) (h : Co.Four w B v Co.S1 Co.S2) :
    Calls Tryz.prog 15 #[v] w fun e w' => e = .returned (.tuple #[.string ⟨#[97, 115, 115, 101, 114, 116, 105, 111, 110, 32, 105, 110, 32, 99, 97, 114, 58, 32, 110, 111]⟩, .int .i64 0]) ∧ Below w.heap.size w w' := by
  have V1 : Dt.valid Co.S1 := fun w => Dt.valid_short [99, 97, 114] (by decide) (by decide) w
  have V2 : Dt.valid Co.S2 := fun w => Dt.valid_short [110, 111] (by decide) (by decide) w
  obtain ⟨a, cap, f1, f2, f3, rfl, hat, ⟨b1, ad1, cap1, rfl, q1⟩, ⟨b2, ad2, cap2, rfl, q2⟩, ⟨b3, ad3, cap3, rfl, q3⟩⟩ := h.open
  have l1 := (Array.getElem?_eq_some_iff.1 q1).1
  have l2 := (Array.getElem?_eq_some_iff.1 q2).1
  have l3 := (Array.getElem?_eq_some_iff.1 q3).1
  generalize hF : Co.f4 _ _ _ = F at hat
  have F1 : F 0 = .slice none 0 0 := by rw [← hF]; rfl
  have F2 : F 1 = .slice (some ⟨b1, 0, none⟩) 1 1 := by rw [← hF]; rfl
  have F3 : F 2 = .slice (some ⟨b2, 0, none⟩) 1 1 := by rw [← hF]; rfl
  have F4 : F 3 = .slice (some ⟨b3, 0, none⟩) 1 1 := by rw [← hF]; rfl
  have u0 : ∀ j, j < 0 → Co.under (Co.t4 j) 3 = false := fun j h => by omega
  have u1 : ∀ j, j < 1 → Co.under (Co.t4 j) 8 = false := fun j h => by
    match j, h with
    | 0, _ => decide
  have u2 : ∀ j, j < 2 → Co.under (Co.t4 j) 1 = false := fun j h => by
    match j, h with
    | 0, _ => decide
    | 1, _ => decide
  have u3 : ∀ j, j < 3 → Co.under (Co.t4 j) 7 = false := fun j h => by
    match j, h with
    | 0, _ => decide
    | 1, _ => decide
    | 2, _ => decide
  have K0 := Lib.hid (fun (w' : World) (hb : Below w.heap.size w w') => Co.Check_ok a 4 cap (by decide) Co.t4 F w' ((hat.below hb).up hb.size))
  have K1 := fun (w' : World) (hb : Below w.heap.size w w') => Co.first_at a 4 cap (by decide) Co.t4 F 3 0 (by decide) u0 (by decide) w' ((hat.below hb).up hb.size)
  have K2 := fun (w' : World) (hb : Below w.heap.size w w') => Co.first_at a 4 cap (by decide) Co.t4 F 8 1 (by decide) u1 (by decide) w' ((hat.below hb).up hb.size)
  have K3 := fun (w' : World) (hb : Below w.heap.size w w') => Co.first_at a 4 cap (by decide) Co.t4 F 1 2 (by decide) u2 (by decide) w' ((hat.below hb).up hb.size)
  have K4 := fun (w' : World) (hb : Below w.heap.size w w') => Co.first_at a 4 cap (by decide) Co.t4 F 7 3 (by decide) u3 (by decide) w' ((hat.below hb).up hb.size)
  rw [F1] at K1
  rw [F2] at K2
  rw [F3] at K3
  rw [F4] at K4
  have K1 := Lib.hid K1
  have K2 := Lib.hid K2
  have K3 := Lib.hid K3
  have K4 := Lib.hid K4
  have KN := Lib.hid (fun w => Co.name_any 6 w)
  have KD1 := Lib.hid (fun ad cap w => Wr.Display_plain 6 (.inr rfl) [99, 97, 114] (by decide) (by decide) (.slice ad 0 cap) ⟨_, _, rfl⟩ V1 w)
  have KD2 := Lib.hid (fun ad cap w => Wr.Display_plain 5 (.inl rfl) [110, 111] (by decide) (by decide) (.slice ad 0 cap) ⟨_, _, rfl⟩ V2 w)
  have KI := Lib.hid (fun ad cap w => Ls.Items_nil (.slice ad 0 cap) ⟨_, _, rfl⟩ w)
  unfold Dt.leaf at KD1 KD2 KI
  unfold Dt.cells Co.S1 at q1
  unfold Dt.cells Co.S2 at q2
  unfold Dt.cells at q3 KD1 KD2 KI
  have Q1 := Lib.hid q1
  have Q2 := Lib.hid q2
  have Q3 := Lib.hid q3
  have e6 : (if Co.thr 6 then Co.nm (6 : Int).toNat else ⟨#[]⟩) = ⟨#[97, 115, 115, 101, 114, 116, 105, 111, 110]⟩ := by decide
  have e60 : (if Co.thr 6 then (0 : Int) else 7) = 0 := by decide
  rw [e6, e60] at KN
  have t0 : Co.t4 0 = 6 := rfl
  have t1 : Co.t4 1 = 8 := rfl
  have t2 : Co.t4 2 = 1 := rfl
  have t3 : Co.t4 3 = 7 := rfl
  rw [t0] at K1
  rw [t1] at K2
  rw [t2] at K3
  rw [t3] at K4
  clear e6 e60 t0 t1 t2 t3 u0 u1 u2 u3 F1 F2 F3 F4 hF hat q1 q2 q3 V1 V2 h
  have hbr : Below w.heap.size w w := Below.refl _ _
  go_enter Tryz.func15, Tryz.ntmps15
  go_wp2_with fail
  refine (K0.out _ hbr).mono ?_
  rintro x w1 ⟨rfl, hb1⟩
  have HB1 := Lib.hid hb1
  clear hb1 hbr K0
  go_wp2_with fail
  refine (K1.out _ HB1.out).mono ?_
  rintro x w2 ⟨rfl, hb2⟩
  have HB2 := Lib.hid (HB1.out.trans (hb2.mono HB1.out.size))
  have HA2 : Hid (∀ o, Below w.heap.size w (w2.alloc o)) := Lib.hid (fun o => HB2.out.alloc HB2.out.size o)
  clear hb2 K1
  go_wp2_with fail
  refine (KN.out _).mono ?_
  rintro x w3 ⟨rfl, hb3⟩
  have HB3 := Lib.hid ((HA2.out _).trans (hb3.mono (HA2.out _).size))
  clear hb3 KN HA2
  go_wp2_with fail
  refine (K2.out _ HB3.out).mono ?_
  rintro x w4 ⟨rfl, hb4⟩
  have HB4 := Lib.hid (HB3.out.trans (hb4.mono HB3.out.size))
  have HA4 : Hid (∀ o, Below w.heap.size w (w4.alloc o)) := Lib.hid (fun o => HB4.out.alloc HB4.out.size o)
  have q4 := (HB4.out.block b1 l1).trans Q1.out
  have l14 : b1 < w4.heap.size := (Array.getElem?_eq_some_iff.1 q4).1
  obtain ⟨a0, a1, a2, a3, a4, a5, a6, a7, a8, a9, a10⟩ := Dt.cells11 q4
  clear hb4 K2 q4
  go_wp2_with fail
  refine (KD1.out _ _ _).mono ?_
  rintro x w5 ⟨rfl, hb5⟩
  have HB5 := Lib.hid ((HA4.out _).trans (hb5.mono (HA4.out _).size))
  clear hb5 KD1 HA4 a0 a1 a2 a3 a4 a5 a6 a7 a8 a9 a10 l14
  go_wp2_with fail
  refine (K3.out _ HB5.out).mono ?_
  rintro x w6 ⟨rfl, hb6⟩
  have HB6 := Lib.hid (HB5.out.trans (hb6.mono HB5.out.size))
  have HA6 : Hid (∀ o, Below w.heap.size w (w6.alloc o)) := Lib.hid (fun o => HB6.out.alloc HB6.out.size o)
  have q6 := (HB6.out.block b2 l2).trans Q2.out
  have l26 : b2 < w6.heap.size := (Array.getElem?_eq_some_iff.1 q6).1
  obtain ⟨a0, a1, a2, a3, a4, a5, a6, a7, a8, a9, a10⟩ := Dt.cells11 q6
  clear hb6 K3 q6
  go_wp2_with fail
  refine (KD2.out _ _ _).mono ?_
  rintro x w7 ⟨rfl, hb7⟩
  have HB7 := Lib.hid ((HA6.out _).trans (hb7.mono (HA6.out _).size))
  clear hb7 KD2 HA6 a0 a1 a2 a3 a4 a5 a6 a7 a8 a9 a10 l26
  go_wp2_with fail
  refine (K4.out _ HB7.out).mono ?_
  rintro x w8 ⟨rfl, hb8⟩
  have HB8 := Lib.hid (HB7.out.trans (hb8.mono HB7.out.size))
  have HA8 : Hid (∀ o, Below w.heap.size w (w8.alloc o)) := Lib.hid (fun o => HB8.out.alloc HB8.out.size o)
  have q8 := (HB8.out.block b3 l3).trans Q3.out
  have l38 : b3 < w8.heap.size := (Array.getElem?_eq_some_iff.1 q8).1
  obtain ⟨a0, a1, a2, a3, a4, a5, a6, a7, a8, a9, a10⟩ := Dt.cells11 q8
  clear hb8 K4 q8
  go_wp2_with fail
  refine (KI.out _ _ _).mono ?_
  rintro x w9 ⟨rfl, hb9⟩
  have HB9 := Lib.hid ((HA8.out _).trans (hb9.mono (HA8.out _).size))
  clear hb9 KI HA8 a0 a1 a2 a3 a4 a5 a6 a7 a8 a9 a10 l38
  go_wp2_with fail
  go_loopw [5, 93] (fun s i wr => s = .string ⟨#[97, 115, 115, 101, 114, 116, 105, 111, 110, 32, 105, 110, 32, 99, 97, 114, 58, 32, 110, 111]⟩ ∧ i = .int .i64 0 ∧ wr = w9) (fun _ _ _ => 0)
  case atStart => exact ⟨congrArg Value.string (by decide), rfl, rfl⟩
  case round =>
    obtain ⟨rfl, rfl, rfl⟩ := hrel
    go_wp2_with fail
    go_ret2
    exact ⟨rfl, HB9.out⟩

set_option maxHeartbeats 4000000 in
set_option maxRecDepth 1000000 in
theorem Co.awake_any (w : World) : Calls Tryz.prog 6 #[] w fun e w' => e = .returned (.bool true) ∧ Below w.heap.size w w' := by
  have V1 : Dt.valid Co.S1 := fun w => Dt.valid_short [99, 97, 114] (by decide) (by decide) w
  have V2 : Dt.valid Co.S2 := fun w => Dt.valid_short [110, 111] (by decide) (by decide) w
  have KE := Lib.hid (fun w => Co.Error_at Co.S1 Co.S2 V1 V2 w)
  have KT := Lib.hid (fun v w h => Co.Tell_at v w w.heap.size h)
  have KT := Lib.hid (fun v w B h => Co.Tell_at v w B h)
  clear V1 V2
  unfold Dt.leaf Dt.cells at KE
  rw [show Co.S1 = ⟨#[99, 97, 114]⟩ from rfl, show Co.S2 = ⟨#[110, 111]⟩ from rfl] at KE
  go_enter Tryz.func6, Tryz.ntmps6
  go_wp2_with fail
  refine (KE.out _).mono ?_
  rintro x w1 ⟨v, rfl, hf, hb1⟩
  have HB1 := Lib.hid hb1
  have HF := Lib.hid hf
  clear hb1 hf KE
  go_wp2_with fail
  refine (KT.out v w1 w.heap.size HF.out).mono ?_
  rintro x w2 ⟨rfl, hb2⟩
  have HB2 := Lib.hid (HB1.out.trans (hb2.mono HB1.out.size))
  clear hb2
  go_wp2
  go_ret
  exact ⟨rfl, HB2.out⟩
end Go.Proofs.YthcdkhegdlbdiaaGreatDoor
