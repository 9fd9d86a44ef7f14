/-
  WorldPlays's switch: one step, by both.
-/
import Derived.Test.YtdikkknjdbchbaaWpCode
import Derived.Deep.DeepCutAuto
namespace Go.Proofs.Ytdikkknjdbchbaa
open Go.RowKit
set_option linter.unusedVariables false
set_option linter.unusedSimpArgs false

set_option maxHeartbeats 8000000 in
set_option maxRecDepth 1000000 in
theorem Wp.switch {w1 wc : World} {TA TB T8 T9 T10 T11 : Nat} {Wk : Wo.W} {kd n : Int} {nm d : ByteArray} {da : Option Addr} {dc : Nat} {K : Act → World → Prop} {Q1 : Exit → Act → World → Prop} {c0 c1 c2 c3 c4 c7 c9 c16 c17 c18 c19 c20 c21 c22 c23 c24 c25 c26 c27 c28 c29 c30 c31 c32 c33 c34 c35 c36 c37 c38 c39 c40 c41 c42 c43 c44 c45 c46 c47 c48 c49 c50 c51 c52 c53 c54 c55 c56 c57 c58 c59 c60 c61 c62 c63 c64 c65 c66 c67 c68 c69 c70 c71 c72 c73 c74 c75 c76 c77 c78 c79 c80 c81 c82 c83 c84 c85 c86 c87 c88 c89 c90 c91 c92 c93 c94 c95 c96 c97 c98 c99 c100 c101 c102 c103 c104 c105 c106 c107 c108 c109 c110 c111 c112 c113 c114 c115 c116 c117 c118 c119 c120 c121 c122 c123 c124 c125 c126 c127 c128 c129 c130 c131 c132 c133 c134 c135 c136 c137 c138 c139 c140 c141 c142 c143 c144 c145 c146 c147 c148 c149 c150 c151 c152 c153 c154 c155 c156 c157 c158 c159 c160 c161 c162 c163 c164 c165 c166 c167 c168 c169 c170 c171 c172 c173 c174 c175 c176 c177 c178 c179 c180 c181 c182 c183 c184 c185 c186 c187 : Value}
    (HLX : Hid (Wp.Apart w1 TA TB T8 T9 T10 T11))
    (HM : Hid (Wp.Mid w1 wc TA TB T8 T9 T10 T11 Wk Wo.w0 Wo.w0 #[.int .i64 kd, .int .i64 n, .string nm, .slice da d.size dc] (.slice da d.size dc) d (.slice none 0 0) ⟨#[]⟩))
    (HOKK : Hid ((Lit.int .i64 n).wf = true ∧ d.size ≤ 140737488355328))
    (hK : Hid (∀ {p q e f u34 u35 u36 u37 u38 u39 u40 u41 u42 u43 u44 u45 u46 u47 u48 u49 u50 u51 u52 u53 u54 u55 u56 u57 u58 u59 u60 u61 u62 u63 u64 u65 u66 u67 u68 u69 u70 u71 u72 u73 u74 u75 u76 u77 u78 u79 u80 u81 u82 u83 u84 u85 u86 u87 u88 u89 u90 u91 u92 u93 u94 u95 u96 u97 u98 u99 u100 u101 u102 u103 u104 u105 u106 u107 u108 u109 u110 u111 u112 u113 u114 u115 u116 u117 u118 u119 u120 u121 u122 u123 u124 u125 u126 u127 u128 u129 u130 u131 u132 u133 u134 u135 u136 u137 u138 u139 u140 u141 u142 u143 u144 u145 : Value} {wx : World}, (∃ (X : Wo.W) (P : ByteArray) (E : Int), e = .int .i64 E ∧ f = .int .i64 E ∧ Wo.Fit X ∧ P.size ≤ 9223372036854775806 ∧ Wp.Mid w1 wx TA TB T8 T9 T10 T11 Wk X X #[.int .i64 kd, .int .i64 n, .string nm, .slice da d.size dc] (.slice da d.size dc) d p P ∧ By.In wx q P) → K ⟨#[c0, c1, c2, c3, c4, .pointer (some ⟨TA, 0, none⟩), .pointer (some ⟨TB, 0, none⟩), c7, .pointer (some ⟨T8, 0, none⟩), c9, .pointer (some ⟨T10, 0, none⟩), .pointer (some ⟨T11, 0, none⟩), p, q, e, f, c16, c17, c18, c19, c20, c21, c22, c23, c24, c25, c26, c27, c28, c29, c30, c31, c32, c33, u34, u35, u36, u37, u38, u39, u40, u41, u42, u43, u44, u45, u46, u47, u48, u49, u50, u51, u52, u53, u54, u55, u56, u57, u58, u59, u60, u61, u62, u63, u64, u65, u66, u67, u68, u69, u70, u71, u72, u73, u74, u75, u76, u77, u78, u79, u80, u81, u82, u83, u84, u85, u86, u87, u88, u89, u90, u91, u92, u93, u94, u95, u96, u97, u98, u99, u100, u101, u102, u103, u104, u105, u106, u107, u108, u109, u110, u111, u112, u113, u114, u115, u116, u117, u118, u119, u120, u121, u122, u123, u124, u125, u126, u127, u128, u129, u130, u131, u132, u133, u134, u135, u136, u137, u138, u139, u140, u141, u142, u143, u144, u145, c146, c147, c148, c149, c150, c151, c152, c153, c154, c155, c156, c157, c158, c159, c160, c161, c162, c163, c164, c165, c166, c167, c168, c169, c170, c171, c172, c173, c174, c175, c176, c177, c178, c179, c180, c181, c182, c183, c184, c185, c186, c187], []⟩ wx)) :
    Code.wp Try.prog Wp.sw (Exit.then K Q1) ⟨#[c0, c1, c2, c3, c4, .pointer (some ⟨TA, 0, none⟩), .pointer (some ⟨TB, 0, none⟩), c7, .pointer (some ⟨T8, 0, none⟩), c9, .pointer (some ⟨T10, 0, none⟩), .pointer (some ⟨T11, 0, none⟩), .slice none 0 0, .slice none 0 0, .int .i64 0, .int .i64 0, c16, c17, c18, c19, c20, c21, c22, c23, c24, c25, c26, c27, c28, c29, c30, c31, c32, c33, c34, c35, c36, c37, c38, c39, c40, c41, c42, c43, c44, c45, c46, c47, c48, c49, c50, c51, c52, c53, c54, c55, c56, c57, c58, c59, c60, c61, c62, c63, c64, c65, c66, c67, c68, c69, c70, c71, c72, c73, c74, c75, c76, c77, c78, c79, c80, c81, c82, c83, c84, c85, c86, c87, c88, c89, c90, c91, c92, c93, c94, c95, c96, c97, c98, c99, c100, c101, c102, c103, c104, c105, c106, c107, c108, c109, c110, c111, c112, c113, c114, c115, c116, c117, c118, c119, c120, c121, c122, c123, c124, c125, c126, c127, c128, c129, c130, c131, c132, c133, c134, c135, c136, c137, c138, c139, c140, c141, c142, c143, c144, c145, c146, c147, c148, c149, c150, c151, c152, c153, c154, c155, c156, c157, c158, c159, c160, c161, c162, c163, c164, c165, c166, c167, c168, c169, c170, c171, c172, c173, c174, c175, c176, c177, c178, c179, c180, c181, c182, c183, c184, c185, c186, c187], []⟩ wc := by
  conv => arg 2; whnf
  obtain ⟨q80, q81, q82, q83⟩ := HM.out.cells
  obtain ⟨a0, n0, e0, a1, n1, e1, a2, n2, e2, ⟨x0, x1, x2⟩, HOA⟩ := HM.out.a.open
  by_cases h1 : kd = 1
  · subst h1
    go_wp2_with fail
    refine (Wo.Put_any Wk _ nm d _ wc HOA.out.1 HM.out.d HOKK.out.2).mono ?_
    rintro y w12 ⟨vp, rfl, hinp, hb12⟩
    obtain ⟨z0, z1, z2, b0, m0, g0, b1, m1, g1, b2, m2, g2, X1, X2, X3, rfl, ⟨f0, l0, s0⟩, ⟨f1, l1, s1⟩, ⟨f2, l2, s2⟩, HX⟩ := Wp.Mid.put10 (HM.out.below hb12) HLX.out hinp
    have HM2 := Lib.hid HX.out.1
    clear q80 q81 q82 q83 x0 x1 x2 hinp hb12 
    obtain ⟨q80, q81, q82, q83⟩ := HM2.out.cells
    obtain ⟨t0, k0, r0, t1, k1, r1, t2, k2, r2, ⟨x0, x1, x2⟩, HOB⟩ := HM2.out.b.open
    go_wp2_with fail
    refine (Wo.PutR_any Wk _ nm d _ X3 HOB.out.1 HM2.out.d HOKK.out.2).mono ?_
    rintro y w13 ⟨vq, rfl, hinq, hb13⟩
    clear f0 l0 s0 f1 l1 s1 f2 l2 s2 q80 q81 q82 q83 x0 x1 x2
    obtain ⟨y0, y1, y2, j0, i0, o0, j1, i1, o1, j2, i2, o2, Y1, Y2, Y3, rfl, ⟨f0, l0, s0⟩, ⟨f1, l1, s1⟩, ⟨f2, l2, s2⟩, HY⟩ := Wp.Mid.put11 (HM2.out.below hb13) HLX.out hinq
    have HFX : Hid (Wo.Fit (Wo.putS Wk nm d).1) := Lib.hid (Wo.fit_put _ _ _)
    skip
    clear hinq hb13 
    go_wp2_with fail
    exact hK.out ⟨_, _, _, rfl, rfl, HFX.out, by decide, HY.out.1, .inl ⟨rfl, rfl⟩⟩
  · have g1 : (kd == 1) = false := by simpa using h1
    clear h1
    by_cases h2 : kd = 2
    · subst h2
      go_wp2_with fail
      refine (Wo.Write_any Wk _ nm n HOKK.out.1 d _ wc HOA.out.1 HM.out.d HOKK.out.2).mono ?_
      rintro y w12 ⟨vp, rfl, hinp, hb12⟩
      obtain ⟨z0, z1, z2, b0, m0, g0, b1, m1, g1, b2, m2, g2, X1, X2, X3, rfl, ⟨f0, l0, s0⟩, ⟨f1, l1, s1⟩, ⟨f2, l2, s2⟩, HX⟩ := Wp.Mid.put10 (HM.out.below hb12) HLX.out hinp
      have HM2 := Lib.hid HX.out.1
      clear q80 q81 q82 q83 x0 x1 x2 hinp hb12 
      obtain ⟨q80, q81, q82, q83⟩ := HM2.out.cells
      obtain ⟨t0, k0, r0, t1, k1, r1, t2, k2, r2, ⟨x0, x1, x2⟩, HOB⟩ := HM2.out.b.open
      go_wp2_with fail
      refine (Wo.WriteR_any Wk _ nm n HOKK.out.1 d _ X3 HOB.out.1 HM2.out.d HOKK.out.2).mono ?_
      rintro y w13 ⟨vq, rfl, hinq, hb13⟩
      clear f0 l0 s0 f1 l1 s1 f2 l2 s2 q80 q81 q82 q83 x0 x1 x2
      obtain ⟨y0, y1, y2, j0, i0, o0, j1, i1, o1, j2, i2, o2, Y1, Y2, Y3, rfl, ⟨f0, l0, s0⟩, ⟨f1, l1, s1⟩, ⟨f2, l2, s2⟩, HY⟩ := Wp.Mid.put11 (HM2.out.below hb13) HLX.out hinq
      have HFX : Hid (Wo.Fit (Wo.writeS Wk nm n d).1) := Lib.hid (Wo.fit_write _ _ _ _)
      skip
      clear hinq hb13 
      go_wp2_with fail
      exact hK.out ⟨_, _, _, rfl, rfl, HFX.out, by decide, HY.out.1, .inl ⟨rfl, rfl⟩⟩
    · have g2 : (kd == 2) = false := by simpa using h2
      clear h2
      by_cases h3 : kd = 3
      · subst h3
        go_wp2_with fail
        refine (Wo.Delete_any Wk _ nm wc HOA.out.1).mono ?_
        rintro y w12 ⟨vp, rfl, hinp, hb12⟩
        obtain ⟨z0, z1, z2, b0, m0, g0, b1, m1, g1, b2, m2, g2, X1, X2, X3, rfl, ⟨f0, l0, s0⟩, ⟨f1, l1, s1⟩, ⟨f2, l2, s2⟩, HX⟩ := Wp.Mid.put10 (HM.out.below hb12) HLX.out hinp
        have HM2 := Lib.hid HX.out.1
        clear q80 q81 q82 q83 x0 x1 x2 hinp hb12 
        obtain ⟨q80, q81, q82, q83⟩ := HM2.out.cells
        obtain ⟨t0, k0, r0, t1, k1, r1, t2, k2, r2, ⟨x0, x1, x2⟩, HOB⟩ := HM2.out.b.open
        go_wp2_with fail
        refine (Wo.DeleteR_any Wk _ nm X3 HOB.out.1).mono ?_
        rintro y w13 ⟨vq, rfl, hinq, hb13⟩
        clear f0 l0 s0 f1 l1 s1 f2 l2 s2 q80 q81 q82 q83 x0 x1 x2
        obtain ⟨y0, y1, y2, j0, i0, o0, j1, i1, o1, j2, i2, o2, Y1, Y2, Y3, rfl, ⟨f0, l0, s0⟩, ⟨f1, l1, s1⟩, ⟨f2, l2, s2⟩, HY⟩ := Wp.Mid.put11 (HM2.out.below hb13) HLX.out hinq
        have HFX : Hid (Wo.Fit (Wo.delS Wk nm).1) := Lib.hid (Wo.fit_del _ _)
        skip
        clear hinq hb13 
        go_wp2_with fail
        exact hK.out ⟨_, _, _, rfl, rfl, HFX.out, by decide, HY.out.1, .inl ⟨rfl, rfl⟩⟩
      · have g3 : (kd == 3) = false := by simpa using h3
        clear h3
        by_cases h4 : kd = 4
        · subst h4
          go_wp2_with fail
          refine (Wo.Take_any Wk _ n wc HOA.out.1 HOKK.out.1).mono ?_
          rintro y w12 ⟨pv, vp, rfl, hpv, hinp, hb12⟩
          obtain ⟨z0, z1, z2, b0, m0, g0, b1, m1, g1, b2, m2, g2, X1, X2, X3, rfl, ⟨f0, l0, s0⟩, ⟨f1, l1, s1⟩, ⟨f2, l2, s2⟩, HX⟩ := Wp.Mid.put10 ((HM.out.below hb12).setp hpv) HLX.out hinp
          have HM2 := Lib.hid HX.out.1
          clear q80 q81 q82 q83 x0 x1 x2 hinp hb12 hpv
          obtain ⟨q80, q81, q82, q83⟩ := HM2.out.cells
          obtain ⟨t0, k0, r0, t1, k1, r1, t2, k2, r2, ⟨x0, x1, x2⟩, HOB⟩ := HM2.out.b.open
          go_wp2_with fail
          refine (Wo.TakeR_any Wk _ n X3 HOB.out.1 HOKK.out.1).mono ?_
          rintro y w13 ⟨qv, vq, rfl, hqv, hinq, hb13⟩
          clear f0 l0 s0 f1 l1 s1 f2 l2 s2 q80 q81 q82 q83 x0 x1 x2
          obtain ⟨y0, y1, y2, j0, i0, o0, j1, i1, o1, j2, i2, o2, Y1, Y2, Y3, rfl, ⟨f0, l0, s0⟩, ⟨f1, l1, s1⟩, ⟨f2, l2, s2⟩, HY⟩ := Wp.Mid.put11 (HM2.out.below hb13) HLX.out hinq
          have HFX : Hid (Wo.Fit (Wo.takeS Wk n).2.1) := Lib.hid ((Wo.fit_take _ _).1)
          have HQV := Lib.hid (HY.out.2 _ _ hqv)
          clear hinq hb13 hqv
          go_wp2_with fail
          exact hK.out ⟨_, _, _, rfl, rfl, HFX.out, Nat.le_trans (Wo.fit_take Wk n).2 (by decide), HY.out.1, HQV.out⟩
        · have g4 : (kd == 4) = false := by simpa using h4
          clear h4
          by_cases h5 : kd = 5
          · subst h5
            go_wp2_with fail
            refine (Wo.Say_any Wk _ d _ wc HOA.out.1 HM.out.d HOKK.out.2).mono ?_
            rintro y w12 ⟨vp, rfl, hinp, hb12⟩
            obtain ⟨z0, z1, z2, b0, m0, g0, b1, m1, g1, b2, m2, g2, X1, X2, X3, rfl, ⟨f0, l0, s0⟩, ⟨f1, l1, s1⟩, ⟨f2, l2, s2⟩, HX⟩ := Wp.Mid.put10 (HM.out.below hb12) HLX.out hinp
            have HM2 := Lib.hid HX.out.1
            clear q80 q81 q82 q83 x0 x1 x2 hinp hb12 
            obtain ⟨q80, q81, q82, q83⟩ := HM2.out.cells
            obtain ⟨t0, k0, r0, t1, k1, r1, t2, k2, r2, ⟨x0, x1, x2⟩, HOB⟩ := HM2.out.b.open
            go_wp2_with fail
            refine (Wo.SayR_any Wk _ d _ X3 HOB.out.1 HM2.out.d HOKK.out.2).mono ?_
            rintro y w13 ⟨vq, rfl, hinq, hb13⟩
            clear f0 l0 s0 f1 l1 s1 f2 l2 s2 q80 q81 q82 q83 x0 x1 x2
            obtain ⟨y0, y1, y2, j0, i0, o0, j1, i1, o1, j2, i2, o2, Y1, Y2, Y3, rfl, ⟨f0, l0, s0⟩, ⟨f1, l1, s1⟩, ⟨f2, l2, s2⟩, HY⟩ := Wp.Mid.put11 (HM2.out.below hb13) HLX.out hinq
            have HFX : Hid (Wo.Fit (Wo.sayS Wk d).1) := Lib.hid (Wo.fit_say _ _)
            skip
            clear hinq hb13 
            go_wp2_with fail
            exact hK.out ⟨_, _, _, rfl, rfl, HFX.out, by decide, HY.out.1, .inl ⟨rfl, rfl⟩⟩
          · have g5 : (kd == 5) = false := by simpa using h5
            clear h5
            by_cases h6 : kd = 6
            · subst h6
              go_wp2_with fail
              refine (Wo.Get_any Wk _ nm wc HOA.out.1).mono ?_
              rintro y w12 ⟨pv, rfl, hpv, hb12, _⟩
              have HM2 := Lib.hid ((HM.out.below hb12).setp hpv.1)
              clear q80 q81 q82 q83 x0 x1 x2 hb12 hpv
              obtain ⟨q80, q81, q82, q83⟩ := HM2.out.cells
              obtain ⟨t0, k0, r0, t1, k1, r1, t2, k2, r2, ⟨x0, x1, x2⟩, HOB⟩ := HM2.out.b.open
              go_wp2_with fail
              refine (Wo.GetR_any Wk _ nm w12 HOB.out.1).mono ?_
              rintro y w13 ⟨qv, rfl, hqv, hb13⟩
              have HM3 := Lib.hid (HM2.out.below hb13)
              have HQV := Lib.hid hqv.1
              clear q80 q81 q82 q83 x0 x1 x2 hb13 hqv
              go_wp2_with fail
              exact hK.out ⟨_, _, _, rfl, rfl, Wo.fit_w0, Nat.le_trans (Wo.get_size Wk nm) (by decide), HM3.out, HQV.out⟩
            · have g6 : (kd == 6) = false := by simpa using h6
              clear h6
              clear x0 x1 x2
              go_wp2_with fail
              exact hK.out ⟨_, _, 0, rfl, rfl, Wo.fit_w0, by decide, HM.out, .inl ⟨rfl, rfl⟩⟩
end Go.Proofs.Ytdikkknjdbchbaa
