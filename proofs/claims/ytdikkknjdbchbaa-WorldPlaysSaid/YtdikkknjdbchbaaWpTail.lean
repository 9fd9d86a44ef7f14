/-
  WorldPlays behind the switch: the tests; the worlds taken over.
-/
import Derived.Test.YtdikkknjdbchbaaWpCode
import Derived.Test.YtdikkknjdbchbaaWoRefSame
import Derived.Deep.RegionHeld3
import Derived.Deep.DeepCutAuto
namespace Go.Proofs.Ytdikkknjdbchbaa
open Go.RowKit
set_option linter.unusedVariables false
set_option linter.unusedSimpArgs false

theorem Wp.cells3 {w w' : World} {T : Nat} {u0 u1 u2 : Value} (h : w'.heap[T]? = w.heap[T]?) (hc : w.cell? ⟨T, 0, none⟩ = some u0 ∧ w.cell? ⟨T, 1, none⟩ = some u1 ∧ w.cell? ⟨T, 2, none⟩ = some u2) :
    w'.cell? ⟨T, 0, none⟩ = some u0 ∧ w'.cell? ⟨T, 1, none⟩ = some u1 ∧ w'.cell? ⟨T, 2, none⟩ = some u2 :=
  ⟨(World.cell?_of_block (a := ⟨T, 0, none⟩) h).trans hc.1, (World.cell?_of_block (a := ⟨T, 1, none⟩) h).trans hc.2.1, (World.cell?_of_block (a := ⟨T, 2, none⟩) h).trans hc.2.2⟩

set_option maxHeartbeats 8000000 in
set_option maxRecDepth 1000000 in
theorem Wp.tail {w1 wc : World} {TA TB T8 T9 T10 T11 : Nat} {Wk X : Wo.W} {kd n E : Int} {nm d P : ByteArray} {da : Option Addr} {dc : Nat} {p q : Value} {Q1 : Exit → Act → World → Prop} {c0 c1 c2 c3 c4 c7 c16 c17 c18 c19 c20 c21 c22 c23 c24 c25 c26 c27 c28 c29 c30 c31 c32 c33 c34 c35 c36 c37 c38 c39 c40 c41 c42 c43 c44 c45 c46 c47 c48 c49 c50 c51 c52 c53 c54 c55 c56 c57 c58 c59 c60 c61 c62 c63 c64 c65 c66 c67 c68 c69 c70 c71 c72 c73 c74 c75 c76 c77 c78 c79 c80 c81 c82 c83 c84 c85 c86 c87 c88 c89 c90 c91 c92 c93 c94 c95 c96 c97 c98 c99 c100 c101 c102 c103 c104 c105 c106 c107 c108 c109 c110 c111 c112 c113 c114 c115 c116 c117 c118 c119 c120 c121 c122 c123 c124 c125 c126 c127 c128 c129 c130 c131 c132 c133 c134 c135 c136 c137 c138 c139 c140 c141 c142 c143 c144 c145 c146 c147 c148 c149 c150 c151 c152 c153 c154 c155 c156 c157 c158 c159 c160 c161 c162 c163 c164 c165 c166 c167 c168 c169 c170 c171 c172 c173 c174 c175 c176 c177 c178 c179 c180 c181 c182 c183 c184 c185 c186 c187 : Value}
    (HLX : Hid (Wp.Apart w1 TA TB T8 T9 T10 T11)) (HFIT : Hid (Wo.Fit Wk)) (hfx : Wo.Fit X) (hps : P.size ≤ 9223372036854775806)
    (hm : Wp.Mid w1 wc TA TB T8 T9 T10 T11 Wk X X #[.int .i64 kd, .int .i64 n, .string nm, .slice da d.size dc] (.slice da d.size dc) d p P) (hq : By.In wc q P)
    (hQ : Hid (∀ {W' : Wo.W} {u146 u147 u148 u149 u150 u151 u152 u153 u154 u155 u156 u157 u158 u159 u160 u161 u162 u163 u164 u165 u166 u167 u168 u169 u170 u171 u172 u173 u174 u175 u176 u177 u178 u179 u180 u181 u182 u183 u184 u185 u186 u187 : Value} {wx : World}, Wo.Fit W' → Wp.Box wx TA W' → Wp.Box wx TB W' → Below w1.heap.size w1 wx → Q1 .normal ⟨#[c0, c1, c2, c3, c4, .pointer (some ⟨TA, 0, none⟩), .pointer (some ⟨TB, 0, none⟩), c7, .pointer (some ⟨T8, 0, none⟩), .pointer (some ⟨T9, 0, none⟩), .pointer (some ⟨T10, 0, none⟩), .pointer (some ⟨T11, 0, none⟩), p, q, .int .i64 E, .int .i64 E, c16, c17, c18, c19, c20, c21, c22, c23, c24, c25, c26, c27, c28, c29, c30, c31, c32, c33, c34, c35, c36, c37, c38, c39, c40, c41, c42, c43, c44, c45, c46, c47, c48, c49, c50, c51, c52, c53, c54, c55, c56, c57, c58, c59, c60, c61, c62, c63, c64, c65, c66, c67, c68, c69, c70, c71, c72, c73, c74, c75, c76, c77, c78, c79, c80, c81, c82, c83, c84, c85, c86, c87, c88, c89, c90, c91, c92, c93, c94, c95, c96, c97, c98, c99, c100, c101, c102, c103, c104, c105, c106, c107, c108, c109, c110, c111, c112, c113, c114, c115, c116, c117, c118, c119, c120, c121, c122, c123, c124, c125, c126, c127, c128, c129, c130, c131, c132, c133, c134, c135, c136, c137, c138, c139, c140, c141, c142, c143, c144, c145, u146, u147, u148, u149, u150, u151, u152, u153, u154, u155, u156, u157, u158, u159, u160, u161, u162, u163, u164, u165, u166, u167, u168, u169, u170, u171, u172, u173, u174, u175, u176, u177, u178, u179, u180, u181, u182, u183, u184, u185, u186, u187], []⟩ wx)) :
    Code.wp Try.prog Wp.tl Q1 ⟨#[c0, c1, c2, c3, c4, .pointer (some ⟨TA, 0, none⟩), .pointer (some ⟨TB, 0, none⟩), c7, .pointer (some ⟨T8, 0, none⟩), .pointer (some ⟨T9, 0, none⟩), .pointer (some ⟨T10, 0, none⟩), .pointer (some ⟨T11, 0, none⟩), p, q, .int .i64 E, .int .i64 E, c16, c17, c18, c19, c20, c21, c22, c23, c24, c25, c26, c27, c28, c29, c30, c31, c32, c33, c34, c35, c36, c37, c38, c39, c40, c41, c42, c43, c44, c45, c46, c47, c48, c49, c50, c51, c52, c53, c54, c55, c56, c57, c58, c59, c60, c61, c62, c63, c64, c65, c66, c67, c68, c69, c70, c71, c72, c73, c74, c75, c76, c77, c78, c79, c80, c81, c82, c83, c84, c85, c86, c87, c88, c89, c90, c91, c92, c93, c94, c95, c96, c97, c98, c99, c100, c101, c102, c103, c104, c105, c106, c107, c108, c109, c110, c111, c112, c113, c114, c115, c116, c117, c118, c119, c120, c121, c122, c123, c124, c125, c126, c127, c128, c129, c130, c131, c132, c133, c134, c135, c136, c137, c138, c139, c140, c141, c142, c143, c144, c145, c146, c147, c148, c149, c150, c151, c152, c153, c154, c155, c156, c157, c158, c159, c160, c161, c162, c163, c164, c165, c166, c167, c168, c169, c170, c171, c172, c173, c174, c175, c176, c177, c178, c179, c180, c181, c182, c183, c184, c185, c186, c187], []⟩ wc := by
  have HN : Hid (TA ≠ TB ∧ w1.heap.size ≤ TA ∧ w1.heap.size ≤ TB) := Lib.hid ⟨HLX.out.1, HLX.out.2.1, HLX.out.2.2.1⟩
  conv => arg 2; whnf
  obtain ⟨pa, pc, rfl⟩ := hm.p.slice
  obtain ⟨qa, qc, rfl⟩ := hq.slice
  obtain ⟨a0, n0, e0, a1, n1, e1, a2, n2, e2, _, HOA⟩ := hm.a.open
  obtain ⟨t0, k0, r0, t1, k1, r1, t2, k2, r2, _, HOB⟩ := hm.b.open
  obtain ⟨b0, m0, g0, b1, m1, g1, b2, m2, g2, _, HOC⟩ := hm.c.open
  obtain ⟨y0, j0, f0, y1, j1, f1, y2, j2, f2, _, HOX⟩ := hm.x.open
  obtain ⟨z0, i0, l0, z1, i1, l1, z2, i2, l2, _, HOY⟩ := hm.y.open
  have HMM := Lib.hid hm
  have HQQ := Lib.hid hq
  have HFX := Lib.hid hfx
  have HPS := Lib.hid hps
  clear hm hq hfx hps
  obtain ⟨wz, hwz⟩ : ∃ z, z = wc := ⟨_, rfl⟩
  subst hwz
  have hK : ∀ w' : World, Below wz.heap.size wz w' → (w'.cell? ⟨T10, 0, none⟩ = some (.slice y0 j0 f0) ∧ w'.cell? ⟨T10, 1, none⟩ = some (.slice y1 j1 f1) ∧ w'.cell? ⟨T10, 2, none⟩ = some (.slice y2 j2 f2)) ∧ (w'.cell? ⟨T11, 0, none⟩ = some (.slice z0 i0 l0) ∧ w'.cell? ⟨T11, 1, none⟩ = some (.slice z1 i1 l1) ∧ w'.cell? ⟨T11, 2, none⟩ = some (.slice z2 i2 l2)) ∧ (w'.cell? ⟨TA, 0, none⟩ = some (.slice a0 n0 e0) ∧ w'.cell? ⟨TA, 1, none⟩ = some (.slice a1 n1 e1) ∧ w'.cell? ⟨TA, 2, none⟩ = some (.slice a2 n2 e2)) ∧ (w'.cell? ⟨T9, 0, none⟩ = some (.slice b0 m0 g0) ∧ w'.cell? ⟨T9, 1, none⟩ = some (.slice b1 m1 g1) ∧ w'.cell? ⟨T9, 2, none⟩ = some (.slice b2 m2 g2)) ∧ (w'.cell? ⟨TB, 0, none⟩ = some (.slice t0 k0 r0) ∧ w'.cell? ⟨TB, 1, none⟩ = some (.slice t1 k1 r1) ∧ w'.cell? ⟨TB, 2, none⟩ = some (.slice t2 k2 r2)) := fun w' hb => ⟨(HOX.out.2 w' hb).1, (HOY.out.2 w' hb).1, (HOA.out.2 w' hb).1, (HOC.out.2 w' hb).1, (HOB.out.2 w' hb).1⟩
  have HK := Lib.hid hK
  have hacc : Below wz.heap.size wz wz.drew := Wo.belowD (Below.refl _ _)
  have hkeep := HK.out _ hacc
  have K1 := Lib.hid (fun w' (hb : Below wz.heap.size wz w') => Wo.SameR_any X _ _ w' (HOX.out.2 w' hb).2 (HOY.out.2 w' hb).2 HFX.out)
  have K2 := Lib.hid (fun w' (hb : Below wz.heap.size wz w') => By.same_any P _ _ w' HPS.out (HMM.out.p.below hb (Nat.le_refl _)) (HQQ.out.below hb (Nat.le_refl _)))
  have K3 := Lib.hid (fun w' (hb : Below wz.heap.size wz w') => Wo.SameR_any Wk _ _ w' (HOA.out.2 w' hb).2 (HOC.out.2 w' hb).2 HFIT.out)
  have K4 := Lib.hid (fun w' (hb : Below wz.heap.size wz w') => Wo.Sound_any Wk _ w' (HOA.out.2 w' hb).2)
  have K5 := Lib.hid (fun w' (hb : Below wz.heap.size wz w') => Wo.SoundR_any Wk _ w' (HOB.out.2 w' hb).2)
  clear hK
  go_wp2_with fail
  go_region_held3 (fun w' => (w'.cell? ⟨T10, 0, none⟩ = some (.slice y0 j0 f0) ∧ w'.cell? ⟨T10, 1, none⟩ = some (.slice y1 j1 f1) ∧ w'.cell? ⟨T10, 2, none⟩ = some (.slice y2 j2 f2)) ∧ (w'.cell? ⟨T11, 0, none⟩ = some (.slice z0 i0 l0) ∧ w'.cell? ⟨T11, 1, none⟩ = some (.slice z1 i1 l1) ∧ w'.cell? ⟨T11, 2, none⟩ = some (.slice z2 i2 l2)) ∧ (w'.cell? ⟨TA, 0, none⟩ = some (.slice a0 n0 e0) ∧ w'.cell? ⟨TA, 1, none⟩ = some (.slice a1 n1 e1) ∧ w'.cell? ⟨TA, 2, none⟩ = some (.slice a2 n2 e2)) ∧ (w'.cell? ⟨T9, 0, none⟩ = some (.slice b0 m0 g0) ∧ w'.cell? ⟨T9, 1, none⟩ = some (.slice b1 m1 g1) ∧ w'.cell? ⟨T9, 2, none⟩ = some (.slice b2 m2 g2)) ∧ (w'.cell? ⟨TB, 0, none⟩ = some (.slice t0 k0 r0) ∧ w'.cell? ⟨TB, 1, none⟩ = some (.slice t1 k1 r1) ∧ w'.cell? ⟨TB, 2, none⟩ = some (.slice t2 k2 r2)))
    (exact hkeep)
    (first
      | (go_at_call_of 21 (Value.agg #[.slice y0 j0 f0, .slice y1 j1 f1, .slice y2 j2 f2])
         refine (K1.out _ hacc).mono ?_
         rintro x w7 ⟨rfl, hb7⟩
         have hacc := Wo.belowT hacc hb7
         have hkeep := HK.out _ hacc)
      | (go_at_call_of 21 (Value.agg #[.slice a0 n0 e0, .slice a1 n1 e1, .slice a2 n2 e2])
         refine (K3.out _ hacc).mono ?_
         rintro x w7 ⟨rfl, hb7⟩
         have hacc := Wo.belowT hacc hb7
         have hkeep := HK.out _ hacc)
      | (go_at_call 10
         refine (K2.out _ hacc).mono ?_
         rintro x w7 ⟨rfl, hb7⟩
         have hacc := Wo.belowT hacc hb7
         have hkeep := HK.out _ hacc)
      | (go_at_call 11
         refine (K4.out _ hacc).mono ?_
         rintro x w7 ⟨rfl, hb7⟩
         have hacc := Wo.belowT hacc hb7
         have hkeep := HK.out _ hacc)
      | (go_at_call 22
         refine (K5.out _ hacc).mono ?_
         rintro x w7 ⟨rfl, hb7⟩
         have hacc := Wo.belowT hacc hb7
         have hkeep := HK.out _ hacc))
  have HM7 := Lib.hid (HMM.out.below hacc)
  have HIX := Lib.hid (HOX.out.2 _ hacc)
  have HIY := Lib.hid (HOY.out.2 _ hacc)
  have q80 := HM7.out.cells.1
  clear hkeep hacc HK K1 K2 K3 K4 K5 HMM HQQ HPS HOA HOB HOC HOX HOY
  by_cases hE : E = 0
  case neg =>
    have hE0 : (E == 0) = false := by simpa using hE
    clear hE
    go_wp2_with fail
    exact hQ.out HFIT.out HM7.out.a HM7.out.b HM7.out.bel
  case pos =>
  subst hE
  by_cases hk1 : (1 : Int) ≤ kd
  case neg =>
    have hk1d : decide (kd ≥ 1) = false := decide_eq_false (by omega)
    go_wp2_with fail
    exact hQ.out HFIT.out HM7.out.a HM7.out.b HM7.out.bel
  case pos =>
  by_cases hk5 : kd ≤ 5
  case neg =>
    have hk1d : decide (kd ≥ 1) = true := decide_eq_true (by omega)
    have hk5d : decide (kd ≤ 5) = false := decide_eq_false (by omega)
    go_wp2_with fail
    exact hQ.out HFIT.out HM7.out.a HM7.out.b HM7.out.bel
  case pos =>
  have hk1d : decide (kd ≥ 1) = true := decide_eq_true (by omega)
  have hk5d : decide (kd ≤ 5) = true := decide_eq_true (by omega)
  have hacc : Below w7.heap.size w7 w7.drew := Wo.belowD (Below.refl _ _)
  have hmd := HM7.out.below hacc
  obtain ⟨_, _, _, a0', n0', e0', a1', n1', e1', a2', n2', e2', A1, A2, A3, hva, ⟨p0, p1, p2⟩, ⟨p3, p4, p5⟩, ⟨p6, p7, p8⟩, HXA⟩ := hmd.a.put (HIX.out.2.below hacc (Nat.le_refl _))
  simp only [Value.agg.injEq, Array.mk.injEq, List.cons.injEq, Value.slice.injEq, and_true] at hva
  obtain ⟨⟨rfl, rfl, rfl⟩, ⟨rfl, rfl, rfl⟩, rfl, rfl, rfl⟩ := hva
  obtain ⟨_, _, _, b0', m0', g0', b1', m1', g1', b2', m2', g2', B1, B2, B3, hvb, ⟨s0, s1, s2⟩, ⟨s3, s4, s5⟩, ⟨s6, s7, s8⟩, HXB⟩ := (HXA.out.2.2.1 TB _ (Ne.symm HN.out.1) hmd.b).put (HXA.out.2.2.2.2.2.1 _ _ (HIY.out.2.below hacc (Nat.le_refl _)))
  simp only [Value.agg.injEq, Array.mk.injEq, List.cons.injEq, Value.slice.injEq, and_true] at hvb
  obtain ⟨⟨rfl, rfl, rfl⟩, ⟨rfl, rfl, rfl⟩, rfl, rfl, rfl⟩ := hvb
  have l1 := HLX.out.2.2.2.1
  have l2 := HLX.out.2.2.2.2.1
  have l3 := HLX.out.2.2.2.2.2
  have hkeep := And.intro HIX.out.1 HIY.out.1
  have hkA := And.intro (Wp.cells3 (HXA.out.2.2.2.1 T10 (by omega)) HIX.out.1) (Wp.cells3 (HXA.out.2.2.2.1 T11 (by omega)) HIY.out.1)
  have hkB := And.intro (Wp.cells3 (HXB.out.2.2.2.1 T10 (by omega)) hkA.1) (Wp.cells3 (HXB.out.2.2.2.1 T11 (by omega)) hkA.2)
  have HEND := Lib.hid (And.intro (HXB.out.2.2.1 TA _ HN.out.1 HXA.out.1) (And.intro HXB.out.1 (HXB.out.2.2.2.2.2.2 _ _ (HXA.out.2.2.2.2.2.2 _ _ hmd.bel HN.out.2.1) HN.out.2.2)))
  clear HXA HXB hmd hacc l1 l2 l3
  go_wp2_with fail
  go_region_held3 (fun w' => (w'.cell? ⟨T10, 0, none⟩ = some (.slice y0 j0 f0) ∧ w'.cell? ⟨T10, 1, none⟩ = some (.slice y1 j1 f1) ∧ w'.cell? ⟨T10, 2, none⟩ = some (.slice y2 j2 f2)) ∧ (w'.cell? ⟨T11, 0, none⟩ = some (.slice z0 i0 l0) ∧ w'.cell? ⟨T11, 1, none⟩ = some (.slice z1 i1 l1) ∧ w'.cell? ⟨T11, 2, none⟩ = some (.slice z2 i2 l2)))
    (first | exact hkeep | exact hkA | exact hkB)
    (fail)
  clear hkeep hkA hkB p0 p1 p2 p3 p4 p5 p6 p7 p8 s0 s1 s2 s3 s4 s5 s6 s7 s8
  go_wp2_with fail
  exact hQ.out HFX.out HEND.out.1 HEND.out.2.1 HEND.out.2.2
end Go.Proofs.Ytdikkknjdbchbaa
