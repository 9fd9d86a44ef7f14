/-
  The reader's symbol.
-/
import Derived.Test.YtaepjlghdjcdnaaDoorCa
namespace Go.Proofs.YtaepjlghdjcdnaaDoor
open Go.RowKit
set_option linter.unusedVariables false
set_option linter.unusedSimpArgs false

theorem Dr.syms_eq (first : Bool) (l : List UInt8) (h : ¬ (l = [] ∧ first = false)) : Dr.syms first l = match Dr.sym1 first l with | none => none | some x => (Dr.syms false x.2).map fun y => x.1 ++ y := by
  rw [Dr.syms, if_neg h]
  split <;> (rename_i e; rw [e])
theorem Dr.syms_nil : Dr.syms false [] = some [] := by rw [Dr.syms, if_pos ⟨rfl, rfl⟩]
/-- A symbol's bytes up to here, and what is left. -/
def Dr.Sy (R : Option (List UInt8)) (bs : List UInt8) (first : Bool) (l' : List UInt8) : Prop := R = (Dr.syms first l').map fun y => bs ++ y
theorem Dr.Sy.start (t : List UInt8) : (t.take 2 = [45, 62] → Dr.Sy (Dr.symbol t) [45, 62] false (t.drop 2)) ∧ (¬ t.take 2 = [45, 62] → Dr.Sy (Dr.symbol t) [] true t) := by
  refine ⟨fun h => ?_, fun h => ?_⟩
  · unfold Dr.Sy Dr.symbol
    rw [if_pos h]
  · unfold Dr.Sy Dr.symbol
    rw [if_neg h]
    cases Dr.syms true t <;> simp
theorem Dr.Sy.step {R : Option (List UInt8)} {bs l' b r : List UInt8} {first : Bool} (h : Dr.Sy R bs first l') (hn : Dr.sym1 first l' = some (b, r)) : Dr.Sy R (bs ++ b) false r := by
  unfold Dr.Sy at *
  have hne : ¬ (l' = [] ∧ first = false) := by
    rintro ⟨rfl, _⟩
    simp [Dr.sym1, Dr.next] at hn
  rw [h, Dr.syms_eq first l' hne, hn]
  show Option.map _ (Option.map _ (Dr.syms false r)) = Option.map _ (Dr.syms false r)
  rw [Option.map_map]
  congr 1
  funext x
  simp
theorem Dr.Sy.stop {R : Option (List UInt8)} {bs : List UInt8} (h : Dr.Sy R bs false []) : R = some bs := by
  unfold Dr.Sy at h
  rw [h, Dr.syms_nil]
  simp
theorem Dr.Sy.dead {R : Option (List UInt8)} {bs l' : List UInt8} {first : Bool} (h : Dr.Sy R bs first l') (hne : ¬ (l' = [] ∧ first = false)) (hn : Dr.sym1 first l' = none) : R = none := by
  unfold Dr.Sy at h
  rw [h, Dr.syms_eq first l' hne, hn]
  rfl
/-- What the reader's symbol comes to. -/
def Dr.PostS (w : World) (R : Option (List UInt8)) (e : Ending) (w' : World) : Prop :=
  match R with
  | none => e = Dr.dead ∧ Below w.heap.size w w'
  | some x => e = .returned (.string ⟨x.toArray⟩) ∧ Below w.heap.size w w'
theorem Dr.Kept.toBelow {w w1 w' : World} (h0 : Below w.heap.size w w1) (h : Dr.Kept w.heap.size w1 w') : Below w.heap.size w w' :=
  ⟨h.os.trans h0.os, h.tape.trans h0.tape, h.output.trans h0.output, Nat.le_trans h0.size h.size, fun q hq => (h.block q (Nat.lt_of_lt_of_le hq h0.size) (by omega)).trans (h0.block q hq)⟩
/-- The loop of the reader's symbol. -/
def Dr.SyR (b : Nat) (S : ByteArray) (w1 : World) (R : Option (List UInt8)) (v : Value) (W : World) : Prop :=
  ∃ (first : Bool) (l' bs : List UInt8), v = .bool first ∧ Dr.At b S l' false W ∧ Dr.Kept b w1 W ∧ Dr.Bu (b + 1) (b + 1) bs W ∧ Dr.Sy R bs first l' ∧ bs.length + 4 * l'.length ≤ 4 * S.size
/-- A reader that has just been made. -/
theorem Dr.At.fresh (S : ByteArray) (w : World) : Dr.At w.heap.size S S.data.toList false (w.alloc (.cells #[.string S, .int .i64 0, .bool false] 44)) := by
  have e : S.data.toList.length = S.size := by simp
  refine ⟨?_, by rw [e, Nat.sub_self]; rfl, by rw [e]; exact Nat.le_refl _⟩
  rw [e, Nat.sub_self]
  exact heap_alloc_new w _
set_option maxHeartbeats 16000000 in
set_option maxRecDepth 1000000 in
theorem Dr.symbol_any (p : Value) (S : ByteArray) (w : World) (hs : S.size ≤ 1048576) (hT : Dr.Tabs w) :
    Calls Tryd.prog 45 #[p, .string S] w fun e w' => Dr.PostS w (Dr.symbol S.data.toList) e w' := by
  obtain ⟨R, hR⟩ : ∃ z, Dr.symbol S.data.toList = z := ⟨_, rfl⟩
  have hSt := Dr.Sy.start S.data.toList
  rw [hR] at hSt ⊢
  have hlen : S.data.toList.length = S.size := by simp
  obtain ⟨b, hb⟩ : ∃ z, w.heap.size = z := ⟨_, rfl⟩
  have hbw1 : Below w.heap.size w (w.alloc (.cells #[.string S, .int .i64 0, .bool false] 44)) := (Below.refl _ _).alloc (Nat.le_refl _) _
  have hA1 := Dr.At.fresh S w
  have hT1 : Dr.Tabs (w.alloc (.cells #[.string S, .int .i64 0, .bool false] 44)) := Utf8Tabs_below hT hbw1
  obtain ⟨w1, hw1⟩ : ∃ z, w.alloc (.cells #[.string S, .int .i64 0, .bool false] 44) = z := ⟨_, rfl⟩
  rw [hw1, hb] at hA1 hbw1
  rw [hw1] at hT1
  have hz1 : w1.heap.size = b + 1 := by rw [← hw1]; simp [hb]
  have HNE := Lib.hid (And.intro hT1 (hA1.tabs_ne hT1))
  have HEND := Lib.hid (fun (W : World) (hK : Dr.Kept b w1 W) => show (R = none → Dr.PostS w R Dr.dead W) ∧ ∀ x, R = some x → Dr.PostS w R (.returned (.string ⟨x.toArray⟩)) W from by
    have hbel : Below w.heap.size w W := Dr.Kept.toBelow (w1 := w1) (by rw [hb]; exact hbw1) (by rw [hb]; exact hK)
    exact ⟨fun e => by rw [e]; exact ⟨rfl, hbel⟩, fun x e => by rw [e]; exact ⟨rfl, hbel⟩⟩)
  have hal : Below w1.heap.size w1 (w1.alloc (.cells #[.pointer none, .slice none 0 0] 68)) := (Below.refl _ _).alloc (Nat.le_refl _) _
  have hA2 := hA1.below hal
  have hK2 := Dr.Kept.of_below (b := b) hal
  have hB2 := Dr.Bu.fresh w1
  obtain ⟨w2, hw2⟩ : ∃ z, w1.alloc (.cells #[.pointer none, .slice none 0 0] 68) = z := ⟨_, rfl⟩
  rw [hw2] at hA2 hK2 hB2
  rw [hz1] at hB2
  have KH0 := fun w' => Tryd.strings_HasPrefix S ⟨#[45, 62]⟩ w'
  simp only [Dr.hasP] at KH0
  have KH := Lib.hid KH0
  clear KH0
  have hsz : S.size ≤ 9223372036854775807 := by omega
  have hbB : b < b + 1 := Nat.lt_succ_self b
  by_cases hpre : S.data.toList.take 2 = [45, 62]
  · have hl2 := Dr.take_two hpre
    have KH1 : ∀ w', Calls Tryd.prog 19 #[.string S, .string ⟨#[45, 62]⟩] w' fun e w'' => e = .returned (.bool true) ∧ w'' = w' := fun w' => by
      refine (KH.out w').mono ?_
      rintro e w'' ⟨rfl, rfl⟩
      exact ⟨congrArg (fun x => Ending.returned (Value.bool x)) (decide_eq_true hpre), rfl⟩
    have KH2 := Lib.hid KH1
    clear KH1
    have KW0 : Calls Tryd.prog 62 #[.pointer (some ⟨b + 1, 0, none⟩), .string ⟨#[45, 62]⟩] w2 _ := hB2.str [45, 62] (by simp)
    have KW := Lib.hid KW0
    clear KW0
    have HK1 := Lib.hid (fun (w3 : World) (hB3 : Dr.Bu (b + 1) (b + 1) ([] ++ [45, 62]) w3) (hb3 : Below (b + 1) w2 w3) => show ∃ W, w3.setCell ⟨b, 1, none⟩ (.int .i64 2) = W ∧ w3.frozen? ⟨b, 1, none⟩ = false ∧ (∃ u, w3.cell? ⟨b, 1, none⟩ = some u) ∧ Dr.SyR b S w1 R (.bool false) W from by
      have hA3 := hA2.belowB hb3 hbB
      obtain ⟨W, hW, hfz, hAt, hKW, hz⟩ := Dr.setAt hA3 (p := 0) (by rw [hlen]; omega) hl2 2 rfl
      exact ⟨W, hW, hfz, ⟨_, hA3.cells.2.1⟩, false, _, [45, 62], rfl, hAt, (hK2.belowB (by rw [hz1]; exact hb3)).trans hKW, hB3.kept hKW hbB, hSt.1 hpre, by rw [List.length_drop, hlen]; simp; omega⟩)
    clear hSt hpre hA1 hA2 hK2 hB2 hal hT1 hbw1 hlen hR KH hl2
    go_enter Tryd.func45, Tryd.ntmps45
    go_wp2_with (first | (go_at_call 19; refine (KH2.out _).mono ?_; rintro x w' ⟨rfl, hw'⟩; subst hw'))
    refine KW.out.mono ?_
    rintro x w3 ⟨n, rfl, hB3, hb3⟩
    obtain ⟨W, hW, hfz, ⟨u, hc1⟩, HK01⟩ := HK1.out w3 hB3 hb3
    have HK0 := Lib.hid HK01
    clear hB3 hb3 HK1 KW KH2 HK01
    go_wp2_with fail
    clear hW hfz hc1
    go_loopw [7] (fun v wr => Dr.SyR b S w1 R v wr) (fun _ wr => Dr.left b S wr)
    case atStart => exact HK0.out
    case round =>
      unfold Dr.SyR at hrel
      obtain ⟨first, l', bs, rfl, hA, hK, hBu, hSy, hbl⟩ := hrel
      clear HK0
      have hTr : Dr.Tabs wr := Dr.tabs_kept HNE.out.1 HNE.out.2.1 HNE.out.2.2 hK
      have hAle := hA.le
      have hb41 : bs.length ≤ 4194304 := by omega
      obtain ⟨c0, c1, c2⟩ := hA.cells
      obtain ⟨q, hq⟩ : ∃ z, S.size - l'.length = z := ⟨_, rfl⟩
      rw [hq] at c1
      have hq0 : 0 ≤ (q : Int) := by omega
      have HG := Lib.hid (fun (bts r3 : List UInt8) (hstep : Dr.sym1 first l' = some (bts, r3)) (hb4 : bts.length ≤ 4) (W : World) (hAt : Dr.At b S r3 false W) (hK2 : Dr.Kept b w1 W) (hB2 : Dr.Bu (b + 1) (b + 1) (bs ++ bts) W) =>
        show Dr.SyR b S w1 R (.bool false) W ∧ Dr.left b S W < Dr.left b S wr from by
          have hlt := Dr.sym1_lt hstep
          exact ⟨⟨false, r3, bs ++ bts, rfl, hAt, hK2, hB2, hSy.step hstep, by rw [List.length_append]; omega⟩, by rw [hAt.left, hA.left]; exact hlt⟩)
      have HX := Lib.hid (fun (hne : ¬ (l' = [] ∧ first = false)) (hno : Dr.sym1 first l' = none) (W : World) (hK2 : Dr.Kept b w1 W) => show Dr.PostS w R Dr.dead W from (HEND.out W hK2).1 (hSy.dead hne hno))
      have HZ := Lib.hid (fun (hl0 : l' = []) (hf0 : first = false) (W : World) (hK2 : Dr.Kept b w1 W) => show Dr.PostS w R (.returned (.string ⟨bs.toArray⟩)) W from (HEND.out W hK2).2 bs (by subst hl0 hf0; exact hSy.stop))
      have HBL := Lib.hid (fun (wa W : World) (hK1 : Dr.Kept b w1 wa) (hb : Below (b + 1) wa W) => show Dr.Kept b w1 W from hK1.belowB (by rw [hz1]; exact hb))
      by_cases hend : l' = [] ∧ first = false
      · obtain ⟨hl0, hf0⟩ := hend
        have hqe : q = S.size := by rw [← hq, hl0]; rfl
        have KW := Lib.hid hBu.string
        have HE0 := Lib.hid (fun (W : World) (hb : Below (b + 1) wr W) => HZ.out hl0 hf0 W (HBL.out wr W hK hb))
        subst hf0 hqe
        clear hA hK hBu hSy hbl hTr hAle hb41 HG HX HZ HBL hq
        go_wp2_with fail
        refine KW.out.mono ?_
        rintro x w3 ⟨rfl, hb3⟩
        have HE := Lib.hid (HE0.out w3 hb3)
        clear HE0 hb3 KW
        go_wp2_with fail
        go_ret
        exact HE.out
      have hgo : (first = true ∧ decide (q < S.size) = false) ∨ (first = true ∧ decide (q < S.size) = true) ∨ (first = false ∧ decide (q < S.size) = true) := by
        cases hf : first with
        | true => cases decide (q < S.size) <;> simp
        | false =>
          refine .inr (.inr ⟨rfl, decide_eq_true ?_⟩)
          have : l' ≠ [] := fun e => hend ⟨e, hf⟩
          have := List.length_pos_iff.2 this
          omega
      have HX1 := Lib.hid (fun hno W hK2 => HX.out hend hno W hK2)
      have hnoA : Dr.next l' = none → Dr.sym1 first l' = none := fun hn => by unfold Dr.sym1; rw [hn]
      have hsyA : ∀ c r, Dr.next l' = some (c, r) → Dr.sym1 first l' = if c = 92 then
              (match Dr.next r with
              | none => none
              | some (c2, r2) => if c2 = 120 then (match Dr.esc r2 with | none => none | some (d, r3) => some (Lib.encodeRune d, r3)) else none)
            else if ((first && !Wt.firstB c) || !Wt.restB c) = true then none else some (Lib.encodeRune c, r) := fun c r hn => by unfold Dr.sym1; rw [hn]; rfl
      have HNO := Lib.hid hnoA
      have HSYA := Lib.hid hsyA
      have KF := fun hn => Dr.next_none b S l' false wr hA hn hTr
      have KN := fun c r hn => Dr.next_ok b S l' false c r wr hA hsz hn hTr
      have HW1 := Lib.hid (fun (r : List UInt8) (w3 : World) (hA1 : Dr.At b S r false w3) (hK1 : Dr.Kept b wr w3) => show Dr.Kept b w1 w3 ∧ Dr.Bu (b + 1) (b + 1) bs w3 ∧ Dr.Tabs w3 from ⟨hK.trans hK1, hBu.kept hK1 hbB, Dr.tabs_kept HNE.out.1 HNE.out.2.1 HNE.out.2.2 (hK.trans hK1)⟩)
      have HK := Lib.hid hK
      clear hA hK hBu hSy hbl hTr hAle HZ hq hend hs HX hnoA hsyA
      rcases hgo with ⟨rfl, hg⟩ | ⟨rfl, hg⟩ | ⟨rfl, hg⟩
      all_goals
        cases hn : Dr.next l' with
        | none =>
          have KF := KF hn
          have HE0 := Lib.hid (fun (w3 : World) (hb1 : Below wr.heap.size wr w3) => HX1.out (HNO.out hn) w3 (HK.out.trans (Dr.Kept.of_below hb1)))
          clear hn HNO HSYA HG HX1 HBL HW1 KN
          go_wp2_with fail
          refine KF.mono ?_
          rintro x w3 ⟨rfl, hb1⟩
          have HE := Lib.hid (HE0.out w3 hb1)
          clear HE0 hb1
          unfold Dr.dead at *
          go_wp2_with fail
          exact ⟨rfl, HE.out⟩
        | some x =>
          obtain ⟨c, r⟩ := x
          have KN := KN c r hn
          have hok := Dr.next_ok32 hn
          have hsy := HSYA.out c r hn
          clear hn KF HNO HSYA
          by_cases h92 : c = 92
          · rw [if_pos h92] at hsy
            subst h92
            cases hn2 : Dr.next r with
            | none =>
              rw [hn2] at hsy
              have HSY := Lib.hid (show Dr.sym1 _ l' = none from hsy)
              have HE0 := Lib.hid (fun (W : World) (hK2 : Dr.Kept b w1 W) => HX1.out HSY.out W hK2)
              clear hsy HG HX1 HSY HBL
              go_wp2_with fail
              refine KN.mono ?_
              rintro x w3 ⟨rfl, hA1, hK1⟩
              obtain ⟨hK2, hB2, hT2⟩ := HW1.out r w3 hA1 hK1
              have KP := Lib.hid (Dr.next_none b S r false w3 hA1 hn2 hT2)
              have HE1 := Lib.hid (fun (w4 : World) (hb4 : Below w3.heap.size w3 w4) => HE0.out w4 (hK2.trans (Dr.Kept.of_below hb4)))
              clear hA1 hK1 hK2 hB2 hT2 HE0 HW1 hn2
              go_wp2_with fail
              refine KP.out.mono ?_
              rintro x w4 ⟨rfl, hb4⟩
              have HE := Lib.hid (HE1.out w4 hb4)
              clear HE1 hb4 KP
              unfold Dr.dead at *
              go_wp2_with fail
              exact ⟨rfl, HE.out⟩
            | some x2 =>
              obtain ⟨c2, r2⟩ := x2
              rw [hn2] at hsy
              have hsy1 : Dr.sym1 _ l' = if c2 = 120 then (match Dr.esc r2 with | none => none | some (d, r3) => some (Lib.encodeRune d, r3)) else none := hsy
              clear hsy
              have KN2 := Lib.hid (fun (w3 : World) (hA1 : Dr.At b S r false w3) (hT2 : Dr.Tabs w3) => Dr.next_ok b S r false c2 r2 w3 hA1 hsz hn2 hT2)
              by_cases h120 : c2 = 120
              · rw [if_pos h120] at hsy1
                subst h120
                cases hE : Dr.esc r2 with
                | none =>
                  rw [hE] at hsy1
                  have HSY := Lib.hid (show Dr.sym1 _ l' = none from hsy1)
                  have KE := Lib.hid (fun (w4 : World) (hA2 : Dr.At b S r2 false w4) (hT3 : Dr.Tabs w4) => show Calls Tryd.prog 37 #[.pointer (some ⟨b, 0, none⟩)] w4 (fun e w' => Dr.PostE b S false w4 none e w') from hE ▸ Dr.escape_any b S false r2 w4 hA2 hsz hT3)
                  have HE0 := Lib.hid (fun (W : World) (hK2 : Dr.Kept b w1 W) => HX1.out HSY.out W hK2)
                  clear hsy1 HG HX1 HSY HBL hE hn2
                  go_wp2_with fail
                  refine KN.mono ?_
                  rintro x w3 ⟨rfl, hA1, hK1⟩
                  obtain ⟨hK2, hB2, hT2⟩ := HW1.out r w3 hA1 hK1
                  have KP := Lib.hid (KN2.out w3 hA1 hT2)
                  have HE1 := Lib.hid (fun (w4 : World) (hA2 : Dr.At b S r2 false w4) (hK4 : Dr.Kept b w3 w4) => And.intro (KE.out w4 hA2 (Dr.tabs_kept HNE.out.1 HNE.out.2.1 HNE.out.2.2 (hK2.trans hK4))) (fun (w5 : World) (hK5 : Dr.Kept b w4 w5) => HE0.out w5 ((hK2.trans hK4).trans hK5)))
                  clear hA1 hK1 hK2 hB2 hT2 HE0 HW1 KE KN2
                  go_wp2_with fail
                  refine KP.out.mono ?_
                  rintro x w4 ⟨rfl, hA2, hK4⟩
                  obtain ⟨KE1, HE2⟩ := HE1.out w4 hA2 hK4
                  have KE2 := Lib.hid KE1
                  have HE3 := Lib.hid HE2
                  clear HE1 hA2 hK4 KP KE1 HE2
                  go_wp2_with fail
                  refine KE2.out.mono ?_
                  rintro x w5 ⟨rfl, hK5⟩
                  have HE := Lib.hid (HE3.out w5 hK5)
                  clear HE3 hK5 KE2
                  unfold Dr.dead at *
                  go_wp2_with fail
                  exact ⟨rfl, HE.out⟩
                | some x3 =>
                  obtain ⟨d, r3⟩ := x3
                  rw [hE] at hsy1
                  have HSY := Lib.hid (show Dr.sym1 _ l' = some (Lib.encodeRune d, r3) from hsy1)
                  have hokd := Dr.esc_ok hE
                  have KE := Lib.hid (fun (w4 : World) (hA2 : Dr.At b S r2 false w4) (hT3 : Dr.Tabs w4) => show Calls Tryd.prog 37 #[.pointer (some ⟨b, 0, none⟩)] w4 (fun e w' => Dr.PostE b S false w4 (some (d, r3)) e w') from hE ▸ Dr.escape_any b S false r2 w4 hA2 hsz hT3)
                  have HE0 := Lib.hid (fun (w3 W : World) (hA1 : Dr.At b S r3 false w3) (hK2 : Dr.Kept b w1 w3) (hb : Below (b + 1) w3 W) (hBW : Dr.Bu (b + 1) (b + 1) (bs ++ Lib.encodeRune d) W) => HG.out _ _ HSY.out (Ru.encode_length d).2 W (hA1.belowB hb hbB) (HBL.out w3 W hK2 hb) hBW)
                  clear hsy1 HG HX1 HSY HBL hE hn2
                  go_wp2_with fail
                  refine KN.mono ?_
                  rintro x w3 ⟨rfl, hA1, hK1⟩
                  obtain ⟨hK2, hB2, hT2⟩ := HW1.out r w3 hA1 hK1
                  have KP := Lib.hid (KN2.out w3 hA1 hT2)
                  have HE1 := Lib.hid (fun (w4 : World) (hA2 : Dr.At b S r2 false w4) (hK4 : Dr.Kept b w3 w4) => And.intro (KE.out w4 hA2 (Dr.tabs_kept HNE.out.1 HNE.out.2.1 HNE.out.2.2 (hK2.trans hK4))) (fun (w5 : World) (hA5 : Dr.At b S r3 false w5) (hK5 : Dr.Kept b w4 w5) => And.intro ((hB2.kept hK4 hbB).kept hK5 hbB) (fun W => HE0.out w5 W hA5 ((hK2.trans hK4).trans hK5))))
                  clear hA1 hK1 hK2 hB2 hT2 HE0 HW1 KE KN2
                  go_wp2_with fail
                  refine KP.out.mono ?_
                  rintro x w4 ⟨rfl, hA2, hK4⟩
                  obtain ⟨KE1, HE2⟩ := HE1.out w4 hA2 hK4
                  have KE2 := Lib.hid KE1
                  have HE3 := Lib.hid HE2
                  clear HE1 hA2 hK4 KP KE1 HE2
                  go_wp2_with fail
                  refine KE2.out.mono ?_
                  rintro x w5 ⟨rfl, hA5, hK5⟩
                  obtain ⟨hB5, HE4⟩ := HE3.out w5 hA5 hK5
                  have HE5 := Lib.hid HE4
                  have KW := Lib.hid (hB5.rune d hokd hb41)
                  clear HE3 hA5 hK5 KE2 hB5 HE4
                  go_wp2_with fail
                  refine KW.out.mono ?_
                  rintro x w6 ⟨n, rfl, hB6, hb6⟩
                  have HE := Lib.hid (HE5.out w6 hb6 hB6)
                  clear HE5 hB6 hb6 KW
                  go_wp2_with fail
                  exact HE.out
              · rw [if_neg h120] at hsy1
                have e120 : (c2 != 120) = true := bne_iff_ne.2 h120
                have HSY := Lib.hid hsy1
                have HE0 := Lib.hid (fun (W : World) (hK2 : Dr.Kept b w1 W) => HX1.out HSY.out W hK2)
                clear hsy1 HG HX1 HSY HBL hn2 h120
                go_wp2_with fail
                refine KN.mono ?_
                rintro x w3 ⟨rfl, hA1, hK1⟩
                obtain ⟨hK2, hB2, hT2⟩ := HW1.out r w3 hA1 hK1
                have KP := Lib.hid (KN2.out w3 hA1 hT2)
                have HE1 := Lib.hid (fun (w4 : World) (hK4 : Dr.Kept b w3 w4) => HE0.out w4 (hK2.trans hK4))
                clear hA1 hK1 hK2 hB2 hT2 HE0 HW1 KN2
                go_wp2_with fail
                refine KP.out.mono ?_
                rintro x w4 ⟨rfl, hA2, hK4⟩
                have HE := Lib.hid (HE1.out w4 hK4)
                clear HE1 hA2 hK4 KP
                go_wp2_with fail
                refine (Dr.stop_any _ _).mono ?_
                rintro x w6 ⟨rfl, hw6⟩
                subst hw6
                unfold Dr.dead at *
                go_wp2_with fail
                exact ⟨rfl, HE.out⟩
          have e92 : (c == 92) = false := beq_eq_false_iff_ne.2 h92
          rw [if_neg h92] at hsy
          have KR := fun w' => Wt.Rest_any c hok w'
          have KQ := fun w' => Wt.First_any c hok w'
          cases hr : Wt.restB c
          all_goals
            cases hf : Wt.firstB c
            all_goals
              rw [hr] at KR
              rw [hf] at KQ
              have HSY := Lib.hid hsy
              rw [hr, hf] at HSY
              have KR1 := Lib.hid KR
              have KQ1 := Lib.hid KQ
              clear KR KQ
              simp only [Bool.true_and, Bool.false_and, Bool.not_true, Bool.not_false, Bool.or_true, Bool.or_false, Bool.true_or, Bool.false_or, if_true, if_false, Bool.false_eq_true] at HSY
              clear hsy hr hf
              first
                | (have HE0 := Lib.hid (fun (W : World) (hK2 : Dr.Kept b w1 W) => HX1.out HSY.out W hK2)
                   clear HG HX1 HSY HBL
                   go_wp2_with fail
                   refine KN.mono ?_
                   rintro x w3 ⟨rfl, hA1, hK1⟩
                   obtain ⟨hK2, hB2, hT2⟩ := HW1.out r w3 hA1 hK1
                   have HK2 := Lib.hid hK2
                   clear hA1 hK1 hB2 hT2 HW1 hK2
                   go_wp2_with fail
                   first
                     | (refine (KQ1.out _).mono ?_
                        rintro x w4 ⟨rfl, hb4⟩
                        have HK3 := Lib.hid (HK2.out.trans (Dr.Kept.of_below hb4))
                        clear hb4 HK2
                        go_wp2_with fail
                        first
                          | (refine (KR1.out _).mono ?_
                             rintro x w5 ⟨rfl, hb5⟩
                             have HE := Lib.hid (HE0.out w5 (HK3.out.trans (Dr.Kept.of_below hb5)))
                             clear hb5 HE0
                             go_wp2_with fail
                             refine (Dr.stop_any _ _).mono ?_
                             rintro x w6 ⟨rfl, hw6⟩
                             subst hw6
                             unfold Dr.dead at *
                             go_wp2_with fail
                             exact ⟨rfl, HE.out⟩)
                          | (have HE := Lib.hid (HE0.out w4 HK3.out)
                             clear HE0
                             refine (Dr.stop_any _ _).mono ?_
                             rintro x w6 ⟨rfl, hw6⟩
                             subst hw6
                             unfold Dr.dead at *
                             go_wp2_with fail
                             exact ⟨rfl, HE.out⟩))
                     | (refine (KR1.out _).mono ?_
                        rintro x w5 ⟨rfl, hb5⟩
                        have HE := Lib.hid (HE0.out w5 (HK2.out.trans (Dr.Kept.of_below hb5)))
                        clear hb5 HE0
                        go_wp2_with fail
                        refine (Dr.stop_any _ _).mono ?_
                        rintro x w6 ⟨rfl, hw6⟩
                        subst hw6
                        unfold Dr.dead at *
                        go_wp2_with fail
                        exact ⟨rfl, HE.out⟩))
                | (have HE0 := Lib.hid (fun (w3 W : World) (hA1 : Dr.At b S r false w3) (hK2 : Dr.Kept b w1 w3) (hb : Below (b + 1) w3 W) (hBW : Dr.Bu (b + 1) (b + 1) (bs ++ Lib.encodeRune c) W) => HG.out _ _ HSY.out (Ru.encode_length c).2 W (hA1.belowB hb hbB) (HBL.out w3 W hK2 hb) hBW)
                   clear HG HX1 HSY HBL
                   go_wp2_with fail
                   refine KN.mono ?_
                   rintro x w3 ⟨rfl, hA1, hK1⟩
                   obtain ⟨hK2, hB2, hT2⟩ := HW1.out r w3 hA1 hK1
                   have HK2 := Lib.hid (show Dr.At b S r false w3 ∧ Dr.Kept b w1 w3 ∧ Dr.Bu (b + 1) (b + 1) bs w3 from ⟨hA1, hK2, hB2⟩)
                   clear hA1 hK1 hB2 hT2 HW1 hK2
                   go_wp2_with fail
                   first
                     | (refine (KQ1.out _).mono ?_
                        rintro x w4 ⟨rfl, hb4⟩
                        have HK3 := Lib.hid (show Dr.At b S r false w4 ∧ Dr.Kept b w1 w4 ∧ Dr.Bu (b + 1) (b + 1) bs w4 from ⟨HK2.out.1.below hb4, HK2.out.2.1.trans (Dr.Kept.of_below hb4), HK2.out.2.2.kept (Dr.Kept.of_below (b := b) hb4) hbB⟩)
                        clear hb4 HK2
                        go_wp2_with fail)
                     | (have HK3 := HK2; clear HK2)
                   refine (KR1.out _).mono ?_
                   rintro x w5 ⟨rfl, hb5⟩
                   obtain ⟨hA5, hK5, hB5⟩ := HK3.out
                   have KW := Lib.hid ((hB5.kept (Dr.Kept.of_below (b := b) hb5) hbB).rune c hok hb41)
                   have HE1 := Lib.hid (fun W => HE0.out w5 W (hA5.below hb5) (hK5.trans (Dr.Kept.of_below hb5)))
                   clear hb5 HK3 HE0 hA5 hK5 hB5 KR1 KQ1
                   go_wp2_with fail
                   refine KW.out.mono ?_
                   rintro x w6 ⟨n, rfl, hB6, hb6⟩
                   have HE := Lib.hid (HE1.out w6 hb6 hB6)
                   clear HE1 hB6 hb6 KW
                   go_wp2_with fail
                   exact HE.out)
  · have HK0 := Lib.hid (show Dr.SyR b S w1 R (.bool true) w2 from
      ⟨true, _, [], rfl, hA2, hK2, hB2, hSt.2 hpre, by simp⟩)
    have KH1 : ∀ w', Calls Tryd.prog 19 #[.string S, .string ⟨#[45, 62]⟩] w' fun e w'' => e = .returned (.bool false) ∧ w'' = w' := fun w' => by
      refine (KH.out w').mono ?_
      rintro e w'' ⟨rfl, rfl⟩
      exact ⟨congrArg (fun x => Ending.returned (Value.bool x)) (decide_eq_false hpre), rfl⟩
    have KH2 := Lib.hid KH1
    clear KH1
    clear hSt hpre hA1 hA2 hK2 hB2 hal hT1 hbw1 hlen hR KH
    go_enter Tryd.func45, Tryd.ntmps45
    go_wp2_with (first | (go_at_call 19; refine (KH2.out _).mono ?_; rintro x w' ⟨rfl, hw'⟩; subst hw'))
    clear KH2
    go_loopw [7] (fun v wr => Dr.SyR b S w1 R v wr) (fun _ wr => Dr.left b S wr)
    case atStart => exact HK0.out
    case round =>
      unfold Dr.SyR at hrel
      obtain ⟨first, l', bs, rfl, hA, hK, hBu, hSy, hbl⟩ := hrel
      clear HK0
      have hTr : Dr.Tabs wr := Dr.tabs_kept HNE.out.1 HNE.out.2.1 HNE.out.2.2 hK
      have hAle := hA.le
      have hb41 : bs.length ≤ 4194304 := by omega
      obtain ⟨c0, c1, c2⟩ := hA.cells
      obtain ⟨q, hq⟩ : ∃ z, S.size - l'.length = z := ⟨_, rfl⟩
      rw [hq] at c1
      have hq0 : 0 ≤ (q : Int) := by omega
      have HG := Lib.hid (fun (bts r3 : List UInt8) (hstep : Dr.sym1 first l' = some (bts, r3)) (hb4 : bts.length ≤ 4) (W : World) (hAt : Dr.At b S r3 false W) (hK2 : Dr.Kept b w1 W) (hB2 : Dr.Bu (b + 1) (b + 1) (bs ++ bts) W) =>
        show Dr.SyR b S w1 R (.bool false) W ∧ Dr.left b S W < Dr.left b S wr from by
          have hlt := Dr.sym1_lt hstep
          exact ⟨⟨false, r3, bs ++ bts, rfl, hAt, hK2, hB2, hSy.step hstep, by rw [List.length_append]; omega⟩, by rw [hAt.left, hA.left]; exact hlt⟩)
      have HX := Lib.hid (fun (hne : ¬ (l' = [] ∧ first = false)) (hno : Dr.sym1 first l' = none) (W : World) (hK2 : Dr.Kept b w1 W) => show Dr.PostS w R Dr.dead W from (HEND.out W hK2).1 (hSy.dead hne hno))
      have HZ := Lib.hid (fun (hl0 : l' = []) (hf0 : first = false) (W : World) (hK2 : Dr.Kept b w1 W) => show Dr.PostS w R (.returned (.string ⟨bs.toArray⟩)) W from (HEND.out W hK2).2 bs (by subst hl0 hf0; exact hSy.stop))
      have HBL := Lib.hid (fun (wa W : World) (hK1 : Dr.Kept b w1 wa) (hb : Below (b + 1) wa W) => show Dr.Kept b w1 W from hK1.belowB (by rw [hz1]; exact hb))
      by_cases hend : l' = [] ∧ first = false
      · obtain ⟨hl0, hf0⟩ := hend
        have hqe : q = S.size := by rw [← hq, hl0]; rfl
        have KW := Lib.hid hBu.string
        have HE0 := Lib.hid (fun (W : World) (hb : Below (b + 1) wr W) => HZ.out hl0 hf0 W (HBL.out wr W hK hb))
        subst hf0 hqe
        clear hA hK hBu hSy hbl hTr hAle hb41 HG HX HZ HBL hq
        go_wp2_with fail
        refine KW.out.mono ?_
        rintro x w3 ⟨rfl, hb3⟩
        have HE := Lib.hid (HE0.out w3 hb3)
        clear HE0 hb3 KW
        go_wp2_with fail
        go_ret
        exact HE.out
      have hgo : (first = true ∧ decide (q < S.size) = false) ∨ (first = true ∧ decide (q < S.size) = true) ∨ (first = false ∧ decide (q < S.size) = true) := by
        cases hf : first with
        | true => cases decide (q < S.size) <;> simp
        | false =>
          refine .inr (.inr ⟨rfl, decide_eq_true ?_⟩)
          have : l' ≠ [] := fun e => hend ⟨e, hf⟩
          have := List.length_pos_iff.2 this
          omega
      have HX1 := Lib.hid (fun hno W hK2 => HX.out hend hno W hK2)
      have hnoA : Dr.next l' = none → Dr.sym1 first l' = none := fun hn => by unfold Dr.sym1; rw [hn]
      have hsyA : ∀ c r, Dr.next l' = some (c, r) → Dr.sym1 first l' = if c = 92 then
              (match Dr.next r with
              | none => none
              | some (c2, r2) => if c2 = 120 then (match Dr.esc r2 with | none => none | some (d, r3) => some (Lib.encodeRune d, r3)) else none)
            else if ((first && !Wt.firstB c) || !Wt.restB c) = true then none else some (Lib.encodeRune c, r) := fun c r hn => by unfold Dr.sym1; rw [hn]; rfl
      have HNO := Lib.hid hnoA
      have HSYA := Lib.hid hsyA
      have KF := fun hn => Dr.next_none b S l' false wr hA hn hTr
      have KN := fun c r hn => Dr.next_ok b S l' false c r wr hA hsz hn hTr
      have HW1 := Lib.hid (fun (r : List UInt8) (w3 : World) (hA1 : Dr.At b S r false w3) (hK1 : Dr.Kept b wr w3) => show Dr.Kept b w1 w3 ∧ Dr.Bu (b + 1) (b + 1) bs w3 ∧ Dr.Tabs w3 from ⟨hK.trans hK1, hBu.kept hK1 hbB, Dr.tabs_kept HNE.out.1 HNE.out.2.1 HNE.out.2.2 (hK.trans hK1)⟩)
      have HK := Lib.hid hK
      clear hA hK hBu hSy hbl hTr hAle HZ hq hend hs HX hnoA hsyA
      rcases hgo with ⟨rfl, hg⟩ | ⟨rfl, hg⟩ | ⟨rfl, hg⟩
      all_goals
        cases hn : Dr.next l' with
        | none =>
          have KF := KF hn
          have HE0 := Lib.hid (fun (w3 : World) (hb1 : Below wr.heap.size wr w3) => HX1.out (HNO.out hn) w3 (HK.out.trans (Dr.Kept.of_below hb1)))
          clear hn HNO HSYA HG HX1 HBL HW1 KN
          go_wp2_with fail
          refine KF.mono ?_
          rintro x w3 ⟨rfl, hb1⟩
          have HE := Lib.hid (HE0.out w3 hb1)
          clear HE0 hb1
          unfold Dr.dead at *
          go_wp2_with fail
          exact ⟨rfl, HE.out⟩
        | some x =>
          obtain ⟨c, r⟩ := x
          have KN := KN c r hn
          have hok := Dr.next_ok32 hn
          have hsy := HSYA.out c r hn
          clear hn KF HNO HSYA
          by_cases h92 : c = 92
          · rw [if_pos h92] at hsy
            subst h92
            cases hn2 : Dr.next r with
            | none =>
              rw [hn2] at hsy
              have HSY := Lib.hid (show Dr.sym1 _ l' = none from hsy)
              have HE0 := Lib.hid (fun (W : World) (hK2 : Dr.Kept b w1 W) => HX1.out HSY.out W hK2)
              clear hsy HG HX1 HSY HBL
              go_wp2_with fail
              refine KN.mono ?_
              rintro x w3 ⟨rfl, hA1, hK1⟩
              obtain ⟨hK2, hB2, hT2⟩ := HW1.out r w3 hA1 hK1
              have KP := Lib.hid (Dr.next_none b S r false w3 hA1 hn2 hT2)
              have HE1 := Lib.hid (fun (w4 : World) (hb4 : Below w3.heap.size w3 w4) => HE0.out w4 (hK2.trans (Dr.Kept.of_below hb4)))
              clear hA1 hK1 hK2 hB2 hT2 HE0 HW1 hn2
              go_wp2_with fail
              refine KP.out.mono ?_
              rintro x w4 ⟨rfl, hb4⟩
              have HE := Lib.hid (HE1.out w4 hb4)
              clear HE1 hb4 KP
              unfold Dr.dead at *
              go_wp2_with fail
              exact ⟨rfl, HE.out⟩
            | some x2 =>
              obtain ⟨c2, r2⟩ := x2
              rw [hn2] at hsy
              have hsy1 : Dr.sym1 _ l' = if c2 = 120 then (match Dr.esc r2 with | none => none | some (d, r3) => some (Lib.encodeRune d, r3)) else none := hsy
              clear hsy
              have KN2 := Lib.hid (fun (w3 : World) (hA1 : Dr.At b S r false w3) (hT2 : Dr.Tabs w3) => Dr.next_ok b S r false c2 r2 w3 hA1 hsz hn2 hT2)
              by_cases h120 : c2 = 120
              · rw [if_pos h120] at hsy1
                subst h120
                cases hE : Dr.esc r2 with
                | none =>
                  rw [hE] at hsy1
                  have HSY := Lib.hid (show Dr.sym1 _ l' = none from hsy1)
                  have KE := Lib.hid (fun (w4 : World) (hA2 : Dr.At b S r2 false w4) (hT3 : Dr.Tabs w4) => show Calls Tryd.prog 37 #[.pointer (some ⟨b, 0, none⟩)] w4 (fun e w' => Dr.PostE b S false w4 none e w') from hE ▸ Dr.escape_any b S false r2 w4 hA2 hsz hT3)
                  have HE0 := Lib.hid (fun (W : World) (hK2 : Dr.Kept b w1 W) => HX1.out HSY.out W hK2)
                  clear hsy1 HG HX1 HSY HBL hE hn2
                  go_wp2_with fail
                  refine KN.mono ?_
                  rintro x w3 ⟨rfl, hA1, hK1⟩
                  obtain ⟨hK2, hB2, hT2⟩ := HW1.out r w3 hA1 hK1
                  have KP := Lib.hid (KN2.out w3 hA1 hT2)
                  have HE1 := Lib.hid (fun (w4 : World) (hA2 : Dr.At b S r2 false w4) (hK4 : Dr.Kept b w3 w4) => And.intro (KE.out w4 hA2 (Dr.tabs_kept HNE.out.1 HNE.out.2.1 HNE.out.2.2 (hK2.trans hK4))) (fun (w5 : World) (hK5 : Dr.Kept b w4 w5) => HE0.out w5 ((hK2.trans hK4).trans hK5)))
                  clear hA1 hK1 hK2 hB2 hT2 HE0 HW1 KE KN2
                  go_wp2_with fail
                  refine KP.out.mono ?_
                  rintro x w4 ⟨rfl, hA2, hK4⟩
                  obtain ⟨KE1, HE2⟩ := HE1.out w4 hA2 hK4
                  have KE2 := Lib.hid KE1
                  have HE3 := Lib.hid HE2
                  clear HE1 hA2 hK4 KP KE1 HE2
                  go_wp2_with fail
                  refine KE2.out.mono ?_
                  rintro x w5 ⟨rfl, hK5⟩
                  have HE := Lib.hid (HE3.out w5 hK5)
                  clear HE3 hK5 KE2
                  unfold Dr.dead at *
                  go_wp2_with fail
                  exact ⟨rfl, HE.out⟩
                | some x3 =>
                  obtain ⟨d, r3⟩ := x3
                  rw [hE] at hsy1
                  have HSY := Lib.hid (show Dr.sym1 _ l' = some (Lib.encodeRune d, r3) from hsy1)
                  have hokd := Dr.esc_ok hE
                  have KE := Lib.hid (fun (w4 : World) (hA2 : Dr.At b S r2 false w4) (hT3 : Dr.Tabs w4) => show Calls Tryd.prog 37 #[.pointer (some ⟨b, 0, none⟩)] w4 (fun e w' => Dr.PostE b S false w4 (some (d, r3)) e w') from hE ▸ Dr.escape_any b S false r2 w4 hA2 hsz hT3)
                  have HE0 := Lib.hid (fun (w3 W : World) (hA1 : Dr.At b S r3 false w3) (hK2 : Dr.Kept b w1 w3) (hb : Below (b + 1) w3 W) (hBW : Dr.Bu (b + 1) (b + 1) (bs ++ Lib.encodeRune d) W) => HG.out _ _ HSY.out (Ru.encode_length d).2 W (hA1.belowB hb hbB) (HBL.out w3 W hK2 hb) hBW)
                  clear hsy1 HG HX1 HSY HBL hE hn2
                  go_wp2_with fail
                  refine KN.mono ?_
                  rintro x w3 ⟨rfl, hA1, hK1⟩
                  obtain ⟨hK2, hB2, hT2⟩ := HW1.out r w3 hA1 hK1
                  have KP := Lib.hid (KN2.out w3 hA1 hT2)
                  have HE1 := Lib.hid (fun (w4 : World) (hA2 : Dr.At b S r2 false w4) (hK4 : Dr.Kept b w3 w4) => And.intro (KE.out w4 hA2 (Dr.tabs_kept HNE.out.1 HNE.out.2.1 HNE.out.2.2 (hK2.trans hK4))) (fun (w5 : World) (hA5 : Dr.At b S r3 false w5) (hK5 : Dr.Kept b w4 w5) => And.intro ((hB2.kept hK4 hbB).kept hK5 hbB) (fun W => HE0.out w5 W hA5 ((hK2.trans hK4).trans hK5))))
                  clear hA1 hK1 hK2 hB2 hT2 HE0 HW1 KE KN2
                  go_wp2_with fail
                  refine KP.out.mono ?_
                  rintro x w4 ⟨rfl, hA2, hK4⟩
                  obtain ⟨KE1, HE2⟩ := HE1.out w4 hA2 hK4
                  have KE2 := Lib.hid KE1
                  have HE3 := Lib.hid HE2
                  clear HE1 hA2 hK4 KP KE1 HE2
                  go_wp2_with fail
                  refine KE2.out.mono ?_
                  rintro x w5 ⟨rfl, hA5, hK5⟩
                  obtain ⟨hB5, HE4⟩ := HE3.out w5 hA5 hK5
                  have HE5 := Lib.hid HE4
                  have KW := Lib.hid (hB5.rune d hokd hb41)
                  clear HE3 hA5 hK5 KE2 hB5 HE4
                  go_wp2_with fail
                  refine KW.out.mono ?_
                  rintro x w6 ⟨n, rfl, hB6, hb6⟩
                  have HE := Lib.hid (HE5.out w6 hb6 hB6)
                  clear HE5 hB6 hb6 KW
                  go_wp2_with fail
                  exact HE.out
              · rw [if_neg h120] at hsy1
                have e120 : (c2 != 120) = true := bne_iff_ne.2 h120
                have HSY := Lib.hid hsy1
                have HE0 := Lib.hid (fun (W : World) (hK2 : Dr.Kept b w1 W) => HX1.out HSY.out W hK2)
                clear hsy1 HG HX1 HSY HBL hn2 h120
                go_wp2_with fail
                refine KN.mono ?_
                rintro x w3 ⟨rfl, hA1, hK1⟩
                obtain ⟨hK2, hB2, hT2⟩ := HW1.out r w3 hA1 hK1
                have KP := Lib.hid (KN2.out w3 hA1 hT2)
                have HE1 := Lib.hid (fun (w4 : World) (hK4 : Dr.Kept b w3 w4) => HE0.out w4 (hK2.trans hK4))
                clear hA1 hK1 hK2 hB2 hT2 HE0 HW1 KN2
                go_wp2_with fail
                refine KP.out.mono ?_
                rintro x w4 ⟨rfl, hA2, hK4⟩
                have HE := Lib.hid (HE1.out w4 hK4)
                clear HE1 hA2 hK4 KP
                go_wp2_with fail
                refine (Dr.stop_any _ _).mono ?_
                rintro x w6 ⟨rfl, hw6⟩
                subst hw6
                unfold Dr.dead at *
                go_wp2_with fail
                exact ⟨rfl, HE.out⟩
          have e92 : (c == 92) = false := beq_eq_false_iff_ne.2 h92
          rw [if_neg h92] at hsy
          have KR := fun w' => Wt.Rest_any c hok w'
          have KQ := fun w' => Wt.First_any c hok w'
          cases hr : Wt.restB c
          all_goals
            cases hf : Wt.firstB c
            all_goals
              rw [hr] at KR
              rw [hf] at KQ
              have HSY := Lib.hid hsy
              rw [hr, hf] at HSY
              have KR1 := Lib.hid KR
              have KQ1 := Lib.hid KQ
              clear KR KQ
              simp only [Bool.true_and, Bool.false_and, Bool.not_true, Bool.not_false, Bool.or_true, Bool.or_false, Bool.true_or, Bool.false_or, if_true, if_false, Bool.false_eq_true] at HSY
              clear hsy hr hf
              first
                | (have HE0 := Lib.hid (fun (W : World) (hK2 : Dr.Kept b w1 W) => HX1.out HSY.out W hK2)
                   clear HG HX1 HSY HBL
                   go_wp2_with fail
                   refine KN.mono ?_
                   rintro x w3 ⟨rfl, hA1, hK1⟩
                   obtain ⟨hK2, hB2, hT2⟩ := HW1.out r w3 hA1 hK1
                   have HK2 := Lib.hid hK2
                   clear hA1 hK1 hB2 hT2 HW1 hK2
                   go_wp2_with fail
                   first
                     | (refine (KQ1.out _).mono ?_
                        rintro x w4 ⟨rfl, hb4⟩
                        have HK3 := Lib.hid (HK2.out.trans (Dr.Kept.of_below hb4))
                        clear hb4 HK2
                        go_wp2_with fail
                        first
                          | (refine (KR1.out _).mono ?_
                             rintro x w5 ⟨rfl, hb5⟩
                             have HE := Lib.hid (HE0.out w5 (HK3.out.trans (Dr.Kept.of_below hb5)))
                             clear hb5 HE0
                             go_wp2_with fail
                             refine (Dr.stop_any _ _).mono ?_
                             rintro x w6 ⟨rfl, hw6⟩
                             subst hw6
                             unfold Dr.dead at *
                             go_wp2_with fail
                             exact ⟨rfl, HE.out⟩)
                          | (have HE := Lib.hid (HE0.out w4 HK3.out)
                             clear HE0
                             refine (Dr.stop_any _ _).mono ?_
                             rintro x w6 ⟨rfl, hw6⟩
                             subst hw6
                             unfold Dr.dead at *
                             go_wp2_with fail
                             exact ⟨rfl, HE.out⟩))
                     | (refine (KR1.out _).mono ?_
                        rintro x w5 ⟨rfl, hb5⟩
                        have HE := Lib.hid (HE0.out w5 (HK2.out.trans (Dr.Kept.of_below hb5)))
                        clear hb5 HE0
                        go_wp2_with fail
                        refine (Dr.stop_any _ _).mono ?_
                        rintro x w6 ⟨rfl, hw6⟩
                        subst hw6
                        unfold Dr.dead at *
                        go_wp2_with fail
                        exact ⟨rfl, HE.out⟩))
                | (have HE0 := Lib.hid (fun (w3 W : World) (hA1 : Dr.At b S r false w3) (hK2 : Dr.Kept b w1 w3) (hb : Below (b + 1) w3 W) (hBW : Dr.Bu (b + 1) (b + 1) (bs ++ Lib.encodeRune c) W) => HG.out _ _ HSY.out (Ru.encode_length c).2 W (hA1.belowB hb hbB) (HBL.out w3 W hK2 hb) hBW)
                   clear HG HX1 HSY HBL
                   go_wp2_with fail
                   refine KN.mono ?_
                   rintro x w3 ⟨rfl, hA1, hK1⟩
                   obtain ⟨hK2, hB2, hT2⟩ := HW1.out r w3 hA1 hK1
                   have HK2 := Lib.hid (show Dr.At b S r false w3 ∧ Dr.Kept b w1 w3 ∧ Dr.Bu (b + 1) (b + 1) bs w3 from ⟨hA1, hK2, hB2⟩)
                   clear hA1 hK1 hB2 hT2 HW1 hK2
                   go_wp2_with fail
                   first
                     | (refine (KQ1.out _).mono ?_
                        rintro x w4 ⟨rfl, hb4⟩
                        have HK3 := Lib.hid (show Dr.At b S r false w4 ∧ Dr.Kept b w1 w4 ∧ Dr.Bu (b + 1) (b + 1) bs w4 from ⟨HK2.out.1.below hb4, HK2.out.2.1.trans (Dr.Kept.of_below hb4), HK2.out.2.2.kept (Dr.Kept.of_below (b := b) hb4) hbB⟩)
                        clear hb4 HK2
                        go_wp2_with fail)
                     | (have HK3 := HK2; clear HK2)
                   refine (KR1.out _).mono ?_
                   rintro x w5 ⟨rfl, hb5⟩
                   obtain ⟨hA5, hK5, hB5⟩ := HK3.out
                   have KW := Lib.hid ((hB5.kept (Dr.Kept.of_below (b := b) hb5) hbB).rune c hok hb41)
                   have HE1 := Lib.hid (fun W => HE0.out w5 W (hA5.below hb5) (hK5.trans (Dr.Kept.of_below hb5)))
                   clear hb5 HK3 HE0 hA5 hK5 hB5 KR1 KQ1
                   go_wp2_with fail
                   refine KW.out.mono ?_
                   rintro x w6 ⟨n, rfl, hB6, hb6⟩
                   have HE := Lib.hid (HE1.out w6 hb6 hB6)
                   clear HE1 hB6 hb6 KW
                   go_wp2_with fail
                   exact HE.out)
end Go.Proofs.YtaepjlghdjcdnaaDoor
