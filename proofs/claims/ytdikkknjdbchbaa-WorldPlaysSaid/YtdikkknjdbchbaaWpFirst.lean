/-
  WorldPlays's region 3: two copies, two boxes, two stores, in whatever order.
-/
import Derived.Test.YtdikkknjdbchbaaWpCode
import Derived.Deep.RegionHeld3
namespace Go.Proofs.Ytdikkknjdbchbaa
open Go.RowKit
set_option linter.unusedVariables false
set_option linter.unusedSimpArgs false

section
variable {P : Program} {ops : Array Oper} {Q : Exit → Act → World → Prop} {md : Region.Mode} {S : World → Prop}
theorem Wp.drop_at {i : Nat} {o : Oper} {rest : List Oper} (hd : ops.toList.drop i = o :: rest) : ops[i]? = some o := by
  have h0 := congrArg (fun l => l[0]?) hd
  simpa using h0
theorem Wp.takeH {i : Nat} {oi : Oper} {v : Value} {rest : List Oper} {fuel : Nat} {listed : Array Bool} {a : Act} {w : World} (hd : ops.toList.drop i = oi :: rest)
    (hs : Region.noSelect ops = true) (hf : Region.free md ops listed i = true) (hr : (Region.ready md ops listed).contains i = true)
    (hQ : ∀ c a w, Q (.panic c) (a.put oi.dst v) w → Q (.panic c) a w) (hy : YieldsIf P ops S oi v a) (hS : S w)
    (h : wpAnyH P md ops Q S fuel (listed.setIfInBounds i true) (a.put oi.dst v) w) : wpAnyH P md ops Q S (fuel + 1) listed a w :=
  wpAnyH_take (Wp.drop_at hd) hs hf hr hQ hy hS h
theorem Wp.readyH_cons {fuel : Nat} {listed : Array Bool} {a : Act} {w : World} {i : Nat} {o : Oper} {rest : List Oper} {rs : List Nat} (hd : ops.toList.drop i = o :: rest)
    (h : ∀ K' : Act → World → Prop, Shut (∀ a w, S w → (S w → wpAnyH P md ops Q S fuel (listed.setIfInBounds i true) a w) → K' a w) → if Region.wanted o (yielded ops a.tmps) = true then Oper.wp P o a w K' Q else K' (a.put o.dst undef) w)
    (hs : AllReadyH P md ops Q S fuel listed a w rs) : AllReadyH P md ops Q S fuel listed a w (i :: rs) := AllReadyH.cons (Wp.drop_at hd) h hs
end

set_option maxHeartbeats 8000000 in
set_option maxRecDepth 1000000 in
theorem Wp.first {W : Wo.W} {ad0 ad1 ad2 : Option Addr} {cap0 cap1 cap2 : Nat} {w W2 w1 : World} {Q1 : Exit → Act → World → Prop} {c0 c1 c3 c4 c5 c6 c7 c8 c9 c10 c11 c12 c13 c14 c15 c16 c17 c18 c19 c20 c21 c22 c23 c24 c25 c26 c27 c28 c29 c30 c31 c32 c33 c34 c35 c36 c37 c38 c39 c40 c41 c42 c43 c44 c45 c46 c47 c48 c49 c50 c51 c52 c53 c54 c55 c56 c57 c58 c59 c60 c61 c62 c63 c64 c65 c66 c67 c68 c69 c70 c71 c72 c73 c74 c75 c76 c77 c78 c79 c80 c81 c82 c83 c84 c85 c86 c87 c88 c89 c90 c91 c92 c93 c94 c95 c96 c97 c98 c99 c100 c101 c102 c103 c104 c105 c106 c107 c108 c109 c110 c111 c112 c113 c114 c115 c116 c117 c118 c119 c120 c121 c122 c123 c124 c125 c126 c127 c128 c129 c130 c131 c132 c133 c134 c135 c136 c137 c138 c139 c140 c141 c142 c143 c144 c145 c146 c147 c148 c149 c150 c151 c152 c153 c154 c155 c156 c157 c158 c159 c160 c161 c162 c163 c164 c165 c166 c167 c168 c169 c170 c171 c172 c173 c174 c175 c176 c177 c178 c179 c180 c181 c182 c183 c184 c185 c186 c187 : Value} (HF : Hid (Wo.Fit W))
    (HIN : Hid (∀ w' : World, Below W2.heap.size W2 w' → Wo.In w' (.agg #[.slice ad0 W.1.length cap0, .slice ad1 W.2.1.size cap1, .slice ad2 W.2.2.size cap2]) W))
    (HQ : Hid (∀ w' : World, Below W2.heap.size W2 w' → w'.cell? ⟨w.heap.size, 0, none⟩ = some (.slice ad0 W.1.length cap0) ∧ w'.cell? ⟨w.heap.size, 1, none⟩ = some (.slice ad1 W.2.1.size cap1) ∧ w'.cell? ⟨w.heap.size, 2, none⟩ = some (.slice ad2 W.2.2.size cap2)))
    (HB1 : Hid (Below W2.heap.size W2 w1))
    (hQ : Hid (∀ {TA TB : Nat} {u18 u19 u20 u21 : Value} {wx : World}, TA ≠ TB → w1.heap.size ≤ TA → w1.heap.size ≤ TB → Wp.Box wx TA W → Wp.Box wx TB W → Below w1.heap.size w1 wx → Q1 .normal ⟨#[c0, c1, .pointer (some ⟨w.heap.size, 0, none⟩), c3, c4, .pointer (some ⟨TA, 0, none⟩), .pointer (some ⟨TB, 0, none⟩), c7, c8, c9, c10, c11, c12, c13, c14, c15, c16, c17, u18, u19, u20, u21, c22, c23, c24, c25, c26, c27, c28, c29, c30, c31, c32, c33, c34, c35, c36, c37, c38, c39, c40, c41, c42, c43, c44, c45, c46, c47, c48, c49, c50, c51, c52, c53, c54, c55, c56, c57, c58, c59, c60, c61, c62, c63, c64, c65, c66, c67, c68, c69, c70, c71, c72, c73, c74, c75, c76, c77, c78, c79, c80, c81, c82, c83, c84, c85, c86, c87, c88, c89, c90, c91, c92, c93, c94, c95, c96, c97, c98, c99, c100, c101, c102, c103, c104, c105, c106, c107, c108, c109, c110, c111, c112, c113, c114, c115, c116, c117, c118, c119, c120, c121, c122, c123, c124, c125, c126, c127, c128, c129, c130, c131, c132, c133, c134, c135, c136, c137, c138, c139, c140, c141, c142, c143, c144, c145, c146, c147, c148, c149, c150, c151, c152, c153, c154, c155, c156, c157, c158, c159, c160, c161, c162, c163, c164, c165, c166, c167, c168, c169, c170, c171, c172, c173, c174, c175, c176, c177, c178, c179, c180, c181, c182, c183, c184, c185, c186, c187], []⟩ wx)) :
    Code.wp Try.prog Wp.r3 Q1 ⟨#[c0, c1, .pointer (some ⟨w.heap.size, 0, none⟩), c3, c4, c5, c6, c7, c8, c9, c10, c11, c12, c13, c14, c15, c16, c17, c18, c19, c20, c21, c22, c23, c24, c25, c26, c27, c28, c29, c30, c31, c32, c33, c34, c35, c36, c37, c38, c39, c40, c41, c42, c43, c44, c45, c46, c47, c48, c49, c50, c51, c52, c53, c54, c55, c56, c57, c58, c59, c60, c61, c62, c63, c64, c65, c66, c67, c68, c69, c70, c71, c72, c73, c74, c75, c76, c77, c78, c79, c80, c81, c82, c83, c84, c85, c86, c87, c88, c89, c90, c91, c92, c93, c94, c95, c96, c97, c98, c99, c100, c101, c102, c103, c104, c105, c106, c107, c108, c109, c110, c111, c112, c113, c114, c115, c116, c117, c118, c119, c120, c121, c122, c123, c124, c125, c126, c127, c128, c129, c130, c131, c132, c133, c134, c135, c136, c137, c138, c139, c140, c141, c142, c143, c144, c145, c146, c147, c148, c149, c150, c151, c152, c153, c154, c155, c156, c157, c158, c159, c160, c161, c162, c163, c164, c165, c166, c167, c168, c169, c170, c171, c172, c173, c174, c175, c176, c177, c178, c179, c180, c181, c182, c183, c184, c185, c186, c187], []⟩ w1 := by
  have KC := fun w h => Wo.CopyR_any W (.agg #[.slice ad0 W.1.length cap0, .slice ad1 W.2.1.size cap1, .slice ad2 W.2.2.size cap2]) w h HF.out
  conv => arg 2; whnf
  refine wp_region_noPanic ?_
  refine wp_region_held_drew (S := fun w' => w'.cell? ⟨w.heap.size, 0, none⟩ = some (.slice ad0 W.1.length cap0) ∧ w'.cell? ⟨w.heap.size, 1, none⟩ = some (.slice ad1 W.2.1.size cap1) ∧ w'.cell? ⟨w.heap.size, 2, none⟩ = some (.slice ad2 W.2.2.size cap2)) (by kernel_rfl) (HQ.out _ (Wo.belowT HB1.out (Wo.belowD (Below.refl _ _)))) (fun hHeld => ?_)
  refine Wp.takeH (i := 0) (v := ?_) rfl (by kernel_rfl) (by kernel_rfl) (by kernel_rfl) (fun _ _ _ h => h) (Or.inl ⟨by rfl, ?_⟩) hHeld ?_
  rotate_left 1
  · intro w' hSw
    (try dsimp only at hSw)
    obtain ⟨s0, s1, s2⟩ := hSw
    go_simp
    all_goals with_reducible rfl
  try simp only [Act.put, List.setIfInBounds_toArray, List.set_cons_zero, List.set_cons_succ]
  refine Wp.takeH (i := 2) (v := ?_) rfl (by kernel_rfl) (by kernel_rfl) (by kernel_rfl) (fun _ _ _ h => h) (Or.inl ⟨by rfl, ?_⟩) hHeld ?_
  rotate_left 1
  · intro w' hSw
    (try dsimp only at hSw)
    obtain ⟨s0, s1, s2⟩ := hSw
    go_simp
    all_goals with_reducible rfl
  try simp only [Act.put, List.setIfInBounds_toArray, List.set_cons_zero, List.set_cons_succ]
  have HS := Lib.hid (Wo.belowD (Below.refl w1.heap.size w1))
  clear hHeld
  obtain ⟨wd, hwd⟩ : ∃ z, w1.drew = z := ⟨_, rfl⟩
  rw [hwd] at HS ⊢
  clear hwd
  refine wpAnyH_ready (rs := [1, 4, 5]) (by kernel_rfl) (by simp) ?_
  refine Wp.readyH_cons (i := 1) rfl (fun K hK => ?_) ?_
  · go_simp
    go_at_call 12
    refine (KC _ (HIN.out _ (Wo.belowT HB1.out HS.out))).mono ?_
    rintro x u1 ⟨v3, rfl, hm, hb⟩
    have HI3 := Lib.hid hm.in
    have HS := Lib.hid (Wo.belowT HS.out hb)
    clear hm hb
    go_wp2_with fail
    refine hK.out _ _ (HQ.out _ (Wo.belowT HB1.out HS.out)) (fun hHeld => ?_)
    try simp only [Act.put, List.setIfInBounds_toArray, List.set_cons_zero, List.set_cons_succ]
    clear hK K hHeld
    refine wpAnyH_ready (rs := [3, 4, 5]) (by kernel_rfl) (by simp) ?_
    refine Wp.readyH_cons (i := 3) rfl (fun K hK => ?_) ?_
    · go_simp
      go_at_call 12
      refine (KC _ (HIN.out _ (Wo.belowT HB1.out HS.out))).mono ?_
      rintro x u13 ⟨v4, rfl, hm, hb⟩
      have HI4 := Lib.hid hm.in
      have HI3 := Lib.hid (HI3.out.below hb (Nat.le_refl _))
      have HS := Lib.hid (Wo.belowT HS.out hb)
      clear hm hb
      go_wp2_with fail
      refine hK.out _ _ (HQ.out _ (Wo.belowT HB1.out HS.out)) (fun hHeld => ?_)
      try simp only [Act.put, List.setIfInBounds_toArray, List.set_cons_zero, List.set_cons_succ]
      clear hK K hHeld
      refine wpAnyH_ready (rs := [4, 5]) (by kernel_rfl) (by simp) ?_
      refine Wp.readyH_cons (i := 4) rfl (fun K hK => ?_) ?_
      · go_simp
        obtain ⟨u134, hnew⟩ : ∃ z, u13.alloc (.cells #[.slice none 0 0, .slice none 0 0, .slice none 0 0] 26) = z := ⟨_, rfl⟩
        obtain ⟨TA, hT⟩ : ∃ z, u13.heap.size = z := ⟨_, rfl⟩
        have hb : Below u13.heap.size u13 u134 := hnew ▸ Wo.belowA (Below.refl _ _) _
        have HI3 := Lib.hid (HI3.out.below hb (Nat.le_refl _))
        have HI4 := Lib.hid (HI4.out.below hb (Nat.le_refl _))
        have hA1 : w1.heap.size ≤ TA := hT ▸ HS.out.size
        have HA : Hid (Wp.Box u134 TA Wo.w0) := Lib.hid (hnew ▸ hT ▸ Wp.Box.new (Wo.In.w0 _))
        have HS := Lib.hid (Wo.belowT HS.out hb)
        rw [hnew, hT]
        clear hb hT hnew
        refine hK.out _ _ (HQ.out _ (Wo.belowT HB1.out HS.out)) (fun hHeld => ?_)
        try simp only [Act.put, List.setIfInBounds_toArray, List.set_cons_zero, List.set_cons_succ]
        clear hK K hHeld
        refine wpAnyH_ready (rs := [5]) (by kernel_rfl) (by simp) ?_
        refine Wp.readyH_cons (i := 5) rfl (fun K hK => ?_) ?_
        · go_simp
          obtain ⟨u1345, hnew⟩ : ∃ z, u134.alloc (.cells #[.slice none 0 0, .slice none 0 0, .slice none 0 0] 26) = z := ⟨_, rfl⟩
          obtain ⟨TB, hT⟩ : ∃ z, u134.heap.size = z := ⟨_, rfl⟩
          have hb : Below u134.heap.size u134 u1345 := hnew ▸ Wo.belowA (Below.refl _ _) _
          have HI3 := Lib.hid (HI3.out.below hb (Nat.le_refl _))
          have HI4 := Lib.hid (HI4.out.below hb (Nat.le_refl _))
          have hB1 : w1.heap.size ≤ TB := hT ▸ HS.out.size
          have hAB : TA ≠ TB := by have := HA.out.lt; omega
          have HA := Lib.hid (HA.out.below hb)
          have HBB : Hid (Wp.Box u1345 TB Wo.w0) := Lib.hid (hnew ▸ hT ▸ Wp.Box.new (Wo.In.w0 _))
          have HS := Lib.hid (Wo.belowT HS.out hb)
          rw [hnew, hT]
          clear hb hT hnew
          refine hK.out _ _ (HQ.out _ (Wo.belowT HB1.out HS.out)) (fun hHeld => ?_)
          try simp only [Act.put, List.setIfInBounds_toArray, List.set_cons_zero, List.set_cons_succ]
          clear hK K hHeld
          obtain ⟨z0, z1, z2, a0, n0, c0, a1, n1, c1, a2, n2, c2, X1, X2, X3, rfl, ⟨f0, g0, e0⟩, ⟨f1, g1, e1⟩, ⟨f2, g2, e2⟩, HX⟩ := HA.out.put HI3.out
          have HS2 := Lib.hid (HX.out.2.2.2.2.2.2 _ _ HS.out hA1)
          refine wpAnyH_ready (rs := [6]) (by kernel_rfl) (by simp) ?_
          refine Wp.readyH_cons (i := 6) rfl (fun K hK => ?_) AllReadyH.nil
          go_simp
          refine hK.out _ _ (HQ.out _ (Wo.belowT HB1.out HS2.out)) (fun hHeld => ?_)
          try simp only [Act.put, List.setIfInBounds_toArray, List.set_cons_zero, List.set_cons_succ]
          clear hK K hHeld f0 g0 e0 f1 g1 e1 f2 g2 e2
          obtain ⟨y0, y1, y2, b0, m0, d0, b1, m1, d1, b2, m2, d2, Y1, Y2, Y3, rfl, ⟨f0, g0, e0⟩, ⟨f1, g1, e1⟩, ⟨f2, g2, e2⟩, HY⟩ := (HX.out.2.2.1 TB _ (Ne.symm hAB) HBB.out).put (HX.out.2.2.2.2.2.1 _ _ HI4.out)
          have HS3 := Lib.hid (HY.out.2.2.2.2.2.2 _ _ HS2.out hB1)
          refine wpAnyH_ready (rs := [7]) (by kernel_rfl) (by simp) ?_
          refine Wp.readyH_cons (i := 7) rfl (fun K hK => ?_) AllReadyH.nil
          go_simp
          refine hK.out _ _ (HQ.out _ (Wo.belowT HB1.out HS3.out)) (fun hHeld => ?_)
          try simp only [Act.put, List.setIfInBounds_toArray, List.set_cons_zero, List.set_cons_succ]
          clear hK K hHeld f0 g0 e0 f1 g1 e1 f2 g2 e2
          refine wpAnyH_done (by kernel_rfl) (NoPanic.normal ?_) _
          exact hQ.out hAB hA1 hB1 (HY.out.2.2.1 TA _ hAB HX.out.1) HY.out.1 HS3.out
        exact AllReadyH.nil
      refine Wp.readyH_cons (i := 5) rfl (fun K hK => ?_) ?_
      · go_simp
        obtain ⟨u135, hnew⟩ : ∃ z, u13.alloc (.cells #[.slice none 0 0, .slice none 0 0, .slice none 0 0] 26) = z := ⟨_, rfl⟩
        obtain ⟨TB, hT⟩ : ∃ z, u13.heap.size = z := ⟨_, rfl⟩
        have hb : Below u13.heap.size u13 u135 := hnew ▸ Wo.belowA (Below.refl _ _) _
        have HI3 := Lib.hid (HI3.out.below hb (Nat.le_refl _))
        have HI4 := Lib.hid (HI4.out.below hb (Nat.le_refl _))
        have hB1 : w1.heap.size ≤ TB := hT ▸ HS.out.size
        have HBB : Hid (Wp.Box u135 TB Wo.w0) := Lib.hid (hnew ▸ hT ▸ Wp.Box.new (Wo.In.w0 _))
        have HS := Lib.hid (Wo.belowT HS.out hb)
        rw [hnew, hT]
        clear hb hT hnew
        refine hK.out _ _ (HQ.out _ (Wo.belowT HB1.out HS.out)) (fun hHeld => ?_)
        try simp only [Act.put, List.setIfInBounds_toArray, List.set_cons_zero, List.set_cons_succ]
        clear hK K hHeld
        refine wpAnyH_ready (rs := [4]) (by kernel_rfl) (by simp) ?_
        refine Wp.readyH_cons (i := 4) rfl (fun K hK => ?_) ?_
        · go_simp
          obtain ⟨u1354, hnew⟩ : ∃ z, u135.alloc (.cells #[.slice none 0 0, .slice none 0 0, .slice none 0 0] 26) = z := ⟨_, rfl⟩
          obtain ⟨TA, hT⟩ : ∃ z, u135.heap.size = z := ⟨_, rfl⟩
          have hb : Below u135.heap.size u135 u1354 := hnew ▸ Wo.belowA (Below.refl _ _) _
          have HI3 := Lib.hid (HI3.out.below hb (Nat.le_refl _))
          have HI4 := Lib.hid (HI4.out.below hb (Nat.le_refl _))
          have hA1 : w1.heap.size ≤ TA := hT ▸ HS.out.size
          have hAB : TA ≠ TB := by have := HBB.out.lt; omega
          have HBB := Lib.hid (HBB.out.below hb)
          have HA : Hid (Wp.Box u1354 TA Wo.w0) := Lib.hid (hnew ▸ hT ▸ Wp.Box.new (Wo.In.w0 _))
          have HS := Lib.hid (Wo.belowT HS.out hb)
          rw [hnew, hT]
          clear hb hT hnew
          refine hK.out _ _ (HQ.out _ (Wo.belowT HB1.out HS.out)) (fun hHeld => ?_)
          try simp only [Act.put, List.setIfInBounds_toArray, List.set_cons_zero, List.set_cons_succ]
          clear hK K hHeld
          obtain ⟨z0, z1, z2, a0, n0, c0, a1, n1, c1, a2, n2, c2, X1, X2, X3, rfl, ⟨f0, g0, e0⟩, ⟨f1, g1, e1⟩, ⟨f2, g2, e2⟩, HX⟩ := HA.out.put HI3.out
          have HS2 := Lib.hid (HX.out.2.2.2.2.2.2 _ _ HS.out hA1)
          refine wpAnyH_ready (rs := [6]) (by kernel_rfl) (by simp) ?_
          refine Wp.readyH_cons (i := 6) rfl (fun K hK => ?_) AllReadyH.nil
          go_simp
          refine hK.out _ _ (HQ.out _ (Wo.belowT HB1.out HS2.out)) (fun hHeld => ?_)
          try simp only [Act.put, List.setIfInBounds_toArray, List.set_cons_zero, List.set_cons_succ]
          clear hK K hHeld f0 g0 e0 f1 g1 e1 f2 g2 e2
          obtain ⟨y0, y1, y2, b0, m0, d0, b1, m1, d1, b2, m2, d2, Y1, Y2, Y3, rfl, ⟨f0, g0, e0⟩, ⟨f1, g1, e1⟩, ⟨f2, g2, e2⟩, HY⟩ := (HX.out.2.2.1 TB _ (Ne.symm hAB) HBB.out).put (HX.out.2.2.2.2.2.1 _ _ HI4.out)
          have HS3 := Lib.hid (HY.out.2.2.2.2.2.2 _ _ HS2.out hB1)
          refine wpAnyH_ready (rs := [7]) (by kernel_rfl) (by simp) ?_
          refine Wp.readyH_cons (i := 7) rfl (fun K hK => ?_) AllReadyH.nil
          go_simp
          refine hK.out _ _ (HQ.out _ (Wo.belowT HB1.out HS3.out)) (fun hHeld => ?_)
          try simp only [Act.put, List.setIfInBounds_toArray, List.set_cons_zero, List.set_cons_succ]
          clear hK K hHeld f0 g0 e0 f1 g1 e1 f2 g2 e2
          refine wpAnyH_done (by kernel_rfl) (NoPanic.normal ?_) _
          exact hQ.out hAB hA1 hB1 (HY.out.2.2.1 TA _ hAB HX.out.1) HY.out.1 HS3.out
        exact AllReadyH.nil
      exact AllReadyH.nil
    refine Wp.readyH_cons (i := 4) rfl (fun K hK => ?_) ?_
    · go_simp
      obtain ⟨u14, hnew⟩ : ∃ z, u1.alloc (.cells #[.slice none 0 0, .slice none 0 0, .slice none 0 0] 26) = z := ⟨_, rfl⟩
      obtain ⟨TA, hT⟩ : ∃ z, u1.heap.size = z := ⟨_, rfl⟩
      have hb : Below u1.heap.size u1 u14 := hnew ▸ Wo.belowA (Below.refl _ _) _
      have HI3 := Lib.hid (HI3.out.below hb (Nat.le_refl _))
      have hA1 : w1.heap.size ≤ TA := hT ▸ HS.out.size
      have HA : Hid (Wp.Box u14 TA Wo.w0) := Lib.hid (hnew ▸ hT ▸ Wp.Box.new (Wo.In.w0 _))
      have HS := Lib.hid (Wo.belowT HS.out hb)
      rw [hnew, hT]
      clear hb hT hnew
      refine hK.out _ _ (HQ.out _ (Wo.belowT HB1.out HS.out)) (fun hHeld => ?_)
      try simp only [Act.put, List.setIfInBounds_toArray, List.set_cons_zero, List.set_cons_succ]
      clear hK K hHeld
      refine wpAnyH_ready (rs := [3, 5]) (by kernel_rfl) (by simp) ?_
      refine Wp.readyH_cons (i := 3) rfl (fun K hK => ?_) ?_
      · go_simp
        go_at_call 12
        refine (KC _ (HIN.out _ (Wo.belowT HB1.out HS.out))).mono ?_
        rintro x u143 ⟨v4, rfl, hm, hb⟩
        have HI4 := Lib.hid hm.in
        have HI3 := Lib.hid (HI3.out.below hb (Nat.le_refl _))
        have HA := Lib.hid (HA.out.below hb)
        have HS := Lib.hid (Wo.belowT HS.out hb)
        clear hm hb
        go_wp2_with fail
        refine hK.out _ _ (HQ.out _ (Wo.belowT HB1.out HS.out)) (fun hHeld => ?_)
        try simp only [Act.put, List.setIfInBounds_toArray, List.set_cons_zero, List.set_cons_succ]
        clear hK K hHeld
        refine wpAnyH_ready (rs := [5]) (by kernel_rfl) (by simp) ?_
        refine Wp.readyH_cons (i := 5) rfl (fun K hK => ?_) ?_
        · go_simp
          obtain ⟨u1435, hnew⟩ : ∃ z, u143.alloc (.cells #[.slice none 0 0, .slice none 0 0, .slice none 0 0] 26) = z := ⟨_, rfl⟩
          obtain ⟨TB, hT⟩ : ∃ z, u143.heap.size = z := ⟨_, rfl⟩
          have hb : Below u143.heap.size u143 u1435 := hnew ▸ Wo.belowA (Below.refl _ _) _
          have HI3 := Lib.hid (HI3.out.below hb (Nat.le_refl _))
          have HI4 := Lib.hid (HI4.out.below hb (Nat.le_refl _))
          have hB1 : w1.heap.size ≤ TB := hT ▸ HS.out.size
          have hAB : TA ≠ TB := by have := HA.out.lt; omega
          have HA := Lib.hid (HA.out.below hb)
          have HBB : Hid (Wp.Box u1435 TB Wo.w0) := Lib.hid (hnew ▸ hT ▸ Wp.Box.new (Wo.In.w0 _))
          have HS := Lib.hid (Wo.belowT HS.out hb)
          rw [hnew, hT]
          clear hb hT hnew
          refine hK.out _ _ (HQ.out _ (Wo.belowT HB1.out HS.out)) (fun hHeld => ?_)
          try simp only [Act.put, List.setIfInBounds_toArray, List.set_cons_zero, List.set_cons_succ]
          clear hK K hHeld
          obtain ⟨z0, z1, z2, a0, n0, c0, a1, n1, c1, a2, n2, c2, X1, X2, X3, rfl, ⟨f0, g0, e0⟩, ⟨f1, g1, e1⟩, ⟨f2, g2, e2⟩, HX⟩ := HA.out.put HI3.out
          have HS2 := Lib.hid (HX.out.2.2.2.2.2.2 _ _ HS.out hA1)
          refine wpAnyH_ready (rs := [6]) (by kernel_rfl) (by simp) ?_
          refine Wp.readyH_cons (i := 6) rfl (fun K hK => ?_) AllReadyH.nil
          go_simp
          refine hK.out _ _ (HQ.out _ (Wo.belowT HB1.out HS2.out)) (fun hHeld => ?_)
          try simp only [Act.put, List.setIfInBounds_toArray, List.set_cons_zero, List.set_cons_succ]
          clear hK K hHeld f0 g0 e0 f1 g1 e1 f2 g2 e2
          obtain ⟨y0, y1, y2, b0, m0, d0, b1, m1, d1, b2, m2, d2, Y1, Y2, Y3, rfl, ⟨f0, g0, e0⟩, ⟨f1, g1, e1⟩, ⟨f2, g2, e2⟩, HY⟩ := (HX.out.2.2.1 TB _ (Ne.symm hAB) HBB.out).put (HX.out.2.2.2.2.2.1 _ _ HI4.out)
          have HS3 := Lib.hid (HY.out.2.2.2.2.2.2 _ _ HS2.out hB1)
          refine wpAnyH_ready (rs := [7]) (by kernel_rfl) (by simp) ?_
          refine Wp.readyH_cons (i := 7) rfl (fun K hK => ?_) AllReadyH.nil
          go_simp
          refine hK.out _ _ (HQ.out _ (Wo.belowT HB1.out HS3.out)) (fun hHeld => ?_)
          try simp only [Act.put, List.setIfInBounds_toArray, List.set_cons_zero, List.set_cons_succ]
          clear hK K hHeld f0 g0 e0 f1 g1 e1 f2 g2 e2
          refine wpAnyH_done (by kernel_rfl) (NoPanic.normal ?_) _
          exact hQ.out hAB hA1 hB1 (HY.out.2.2.1 TA _ hAB HX.out.1) HY.out.1 HS3.out
        exact AllReadyH.nil
      refine Wp.readyH_cons (i := 5) rfl (fun K hK => ?_) ?_
      · go_simp
        obtain ⟨u145, hnew⟩ : ∃ z, u14.alloc (.cells #[.slice none 0 0, .slice none 0 0, .slice none 0 0] 26) = z := ⟨_, rfl⟩
        obtain ⟨TB, hT⟩ : ∃ z, u14.heap.size = z := ⟨_, rfl⟩
        have hb : Below u14.heap.size u14 u145 := hnew ▸ Wo.belowA (Below.refl _ _) _
        have HI3 := Lib.hid (HI3.out.below hb (Nat.le_refl _))
        have hB1 : w1.heap.size ≤ TB := hT ▸ HS.out.size
        have hAB : TA ≠ TB := by have := HA.out.lt; omega
        have HA := Lib.hid (HA.out.below hb)
        have HBB : Hid (Wp.Box u145 TB Wo.w0) := Lib.hid (hnew ▸ hT ▸ Wp.Box.new (Wo.In.w0 _))
        have HS := Lib.hid (Wo.belowT HS.out hb)
        rw [hnew, hT]
        clear hb hT hnew
        refine hK.out _ _ (HQ.out _ (Wo.belowT HB1.out HS.out)) (fun hHeld => ?_)
        try simp only [Act.put, List.setIfInBounds_toArray, List.set_cons_zero, List.set_cons_succ]
        clear hK K hHeld
        refine wpAnyH_ready (rs := [3]) (by kernel_rfl) (by simp) ?_
        refine Wp.readyH_cons (i := 3) rfl (fun K hK => ?_) ?_
        · go_simp
          go_at_call 12
          refine (KC _ (HIN.out _ (Wo.belowT HB1.out HS.out))).mono ?_
          rintro x u1453 ⟨v4, rfl, hm, hb⟩
          have HI4 := Lib.hid hm.in
          have HI3 := Lib.hid (HI3.out.below hb (Nat.le_refl _))
          have HA := Lib.hid (HA.out.below hb)
          have HBB := Lib.hid (HBB.out.below hb)
          have HS := Lib.hid (Wo.belowT HS.out hb)
          clear hm hb
          go_wp2_with fail
          refine hK.out _ _ (HQ.out _ (Wo.belowT HB1.out HS.out)) (fun hHeld => ?_)
          try simp only [Act.put, List.setIfInBounds_toArray, List.set_cons_zero, List.set_cons_succ]
          clear hK K hHeld
          obtain ⟨z0, z1, z2, a0, n0, c0, a1, n1, c1, a2, n2, c2, X1, X2, X3, rfl, ⟨f0, g0, e0⟩, ⟨f1, g1, e1⟩, ⟨f2, g2, e2⟩, HX⟩ := HA.out.put HI3.out
          have HS2 := Lib.hid (HX.out.2.2.2.2.2.2 _ _ HS.out hA1)
          refine wpAnyH_ready (rs := [6]) (by kernel_rfl) (by simp) ?_
          refine Wp.readyH_cons (i := 6) rfl (fun K hK => ?_) AllReadyH.nil
          go_simp
          refine hK.out _ _ (HQ.out _ (Wo.belowT HB1.out HS2.out)) (fun hHeld => ?_)
          try simp only [Act.put, List.setIfInBounds_toArray, List.set_cons_zero, List.set_cons_succ]
          clear hK K hHeld f0 g0 e0 f1 g1 e1 f2 g2 e2
          obtain ⟨y0, y1, y2, b0, m0, d0, b1, m1, d1, b2, m2, d2, Y1, Y2, Y3, rfl, ⟨f0, g0, e0⟩, ⟨f1, g1, e1⟩, ⟨f2, g2, e2⟩, HY⟩ := (HX.out.2.2.1 TB _ (Ne.symm hAB) HBB.out).put (HX.out.2.2.2.2.2.1 _ _ HI4.out)
          have HS3 := Lib.hid (HY.out.2.2.2.2.2.2 _ _ HS2.out hB1)
          refine wpAnyH_ready (rs := [7]) (by kernel_rfl) (by simp) ?_
          refine Wp.readyH_cons (i := 7) rfl (fun K hK => ?_) AllReadyH.nil
          go_simp
          refine hK.out _ _ (HQ.out _ (Wo.belowT HB1.out HS3.out)) (fun hHeld => ?_)
          try simp only [Act.put, List.setIfInBounds_toArray, List.set_cons_zero, List.set_cons_succ]
          clear hK K hHeld f0 g0 e0 f1 g1 e1 f2 g2 e2
          refine wpAnyH_done (by kernel_rfl) (NoPanic.normal ?_) _
          exact hQ.out hAB hA1 hB1 (HY.out.2.2.1 TA _ hAB HX.out.1) HY.out.1 HS3.out
        exact AllReadyH.nil
      exact AllReadyH.nil
    refine Wp.readyH_cons (i := 5) rfl (fun K hK => ?_) ?_
    · go_simp
      obtain ⟨u15, hnew⟩ : ∃ z, u1.alloc (.cells #[.slice none 0 0, .slice none 0 0, .slice none 0 0] 26) = z := ⟨_, rfl⟩
      obtain ⟨TB, hT⟩ : ∃ z, u1.heap.size = z := ⟨_, rfl⟩
      have hb : Below u1.heap.size u1 u15 := hnew ▸ Wo.belowA (Below.refl _ _) _
      have HI3 := Lib.hid (HI3.out.below hb (Nat.le_refl _))
      have hB1 : w1.heap.size ≤ TB := hT ▸ HS.out.size
      have HBB : Hid (Wp.Box u15 TB Wo.w0) := Lib.hid (hnew ▸ hT ▸ Wp.Box.new (Wo.In.w0 _))
      have HS := Lib.hid (Wo.belowT HS.out hb)
      rw [hnew, hT]
      clear hb hT hnew
      refine hK.out _ _ (HQ.out _ (Wo.belowT HB1.out HS.out)) (fun hHeld => ?_)
      try simp only [Act.put, List.setIfInBounds_toArray, List.set_cons_zero, List.set_cons_succ]
      clear hK K hHeld
      refine wpAnyH_ready (rs := [3, 4]) (by kernel_rfl) (by simp) ?_
      refine Wp.readyH_cons (i := 3) rfl (fun K hK => ?_) ?_
      · go_simp
        go_at_call 12
        refine (KC _ (HIN.out _ (Wo.belowT HB1.out HS.out))).mono ?_
        rintro x u153 ⟨v4, rfl, hm, hb⟩
        have HI4 := Lib.hid hm.in
        have HI3 := Lib.hid (HI3.out.below hb (Nat.le_refl _))
        have HBB := Lib.hid (HBB.out.below hb)
        have HS := Lib.hid (Wo.belowT HS.out hb)
        clear hm hb
        go_wp2_with fail
        refine hK.out _ _ (HQ.out _ (Wo.belowT HB1.out HS.out)) (fun hHeld => ?_)
        try simp only [Act.put, List.setIfInBounds_toArray, List.set_cons_zero, List.set_cons_succ]
        clear hK K hHeld
        refine wpAnyH_ready (rs := [4]) (by kernel_rfl) (by simp) ?_
        refine Wp.readyH_cons (i := 4) rfl (fun K hK => ?_) ?_
        · go_simp
          obtain ⟨u1534, hnew⟩ : ∃ z, u153.alloc (.cells #[.slice none 0 0, .slice none 0 0, .slice none 0 0] 26) = z := ⟨_, rfl⟩
          obtain ⟨TA, hT⟩ : ∃ z, u153.heap.size = z := ⟨_, rfl⟩
          have hb : Below u153.heap.size u153 u1534 := hnew ▸ Wo.belowA (Below.refl _ _) _
          have HI3 := Lib.hid (HI3.out.below hb (Nat.le_refl _))
          have HI4 := Lib.hid (HI4.out.below hb (Nat.le_refl _))
          have hA1 : w1.heap.size ≤ TA := hT ▸ HS.out.size
          have hAB : TA ≠ TB := by have := HBB.out.lt; omega
          have HBB := Lib.hid (HBB.out.below hb)
          have HA : Hid (Wp.Box u1534 TA Wo.w0) := Lib.hid (hnew ▸ hT ▸ Wp.Box.new (Wo.In.w0 _))
          have HS := Lib.hid (Wo.belowT HS.out hb)
          rw [hnew, hT]
          clear hb hT hnew
          refine hK.out _ _ (HQ.out _ (Wo.belowT HB1.out HS.out)) (fun hHeld => ?_)
          try simp only [Act.put, List.setIfInBounds_toArray, List.set_cons_zero, List.set_cons_succ]
          clear hK K hHeld
          obtain ⟨z0, z1, z2, a0, n0, c0, a1, n1, c1, a2, n2, c2, X1, X2, X3, rfl, ⟨f0, g0, e0⟩, ⟨f1, g1, e1⟩, ⟨f2, g2, e2⟩, HX⟩ := HA.out.put HI3.out
          have HS2 := Lib.hid (HX.out.2.2.2.2.2.2 _ _ HS.out hA1)
          refine wpAnyH_ready (rs := [6]) (by kernel_rfl) (by simp) ?_
          refine Wp.readyH_cons (i := 6) rfl (fun K hK => ?_) AllReadyH.nil
          go_simp
          refine hK.out _ _ (HQ.out _ (Wo.belowT HB1.out HS2.out)) (fun hHeld => ?_)
          try simp only [Act.put, List.setIfInBounds_toArray, List.set_cons_zero, List.set_cons_succ]
          clear hK K hHeld f0 g0 e0 f1 g1 e1 f2 g2 e2
          obtain ⟨y0, y1, y2, b0, m0, d0, b1, m1, d1, b2, m2, d2, Y1, Y2, Y3, rfl, ⟨f0, g0, e0⟩, ⟨f1, g1, e1⟩, ⟨f2, g2, e2⟩, HY⟩ := (HX.out.2.2.1 TB _ (Ne.symm hAB) HBB.out).put (HX.out.2.2.2.2.2.1 _ _ HI4.out)
          have HS3 := Lib.hid (HY.out.2.2.2.2.2.2 _ _ HS2.out hB1)
          refine wpAnyH_ready (rs := [7]) (by kernel_rfl) (by simp) ?_
          refine Wp.readyH_cons (i := 7) rfl (fun K hK => ?_) AllReadyH.nil
          go_simp
          refine hK.out _ _ (HQ.out _ (Wo.belowT HB1.out HS3.out)) (fun hHeld => ?_)
          try simp only [Act.put, List.setIfInBounds_toArray, List.set_cons_zero, List.set_cons_succ]
          clear hK K hHeld f0 g0 e0 f1 g1 e1 f2 g2 e2
          refine wpAnyH_done (by kernel_rfl) (NoPanic.normal ?_) _
          exact hQ.out hAB hA1 hB1 (HY.out.2.2.1 TA _ hAB HX.out.1) HY.out.1 HS3.out
        exact AllReadyH.nil
      refine Wp.readyH_cons (i := 4) rfl (fun K hK => ?_) ?_
      · go_simp
        obtain ⟨u154, hnew⟩ : ∃ z, u15.alloc (.cells #[.slice none 0 0, .slice none 0 0, .slice none 0 0] 26) = z := ⟨_, rfl⟩
        obtain ⟨TA, hT⟩ : ∃ z, u15.heap.size = z := ⟨_, rfl⟩
        have hb : Below u15.heap.size u15 u154 := hnew ▸ Wo.belowA (Below.refl _ _) _
        have HI3 := Lib.hid (HI3.out.below hb (Nat.le_refl _))
        have hA1 : w1.heap.size ≤ TA := hT ▸ HS.out.size
        have hAB : TA ≠ TB := by have := HBB.out.lt; omega
        have HBB := Lib.hid (HBB.out.below hb)
        have HA : Hid (Wp.Box u154 TA Wo.w0) := Lib.hid (hnew ▸ hT ▸ Wp.Box.new (Wo.In.w0 _))
        have HS := Lib.hid (Wo.belowT HS.out hb)
        rw [hnew, hT]
        clear hb hT hnew
        refine hK.out _ _ (HQ.out _ (Wo.belowT HB1.out HS.out)) (fun hHeld => ?_)
        try simp only [Act.put, List.setIfInBounds_toArray, List.set_cons_zero, List.set_cons_succ]
        clear hK K hHeld
        refine wpAnyH_ready (rs := [3]) (by kernel_rfl) (by simp) ?_
        refine Wp.readyH_cons (i := 3) rfl (fun K hK => ?_) ?_
        · go_simp
          go_at_call 12
          refine (KC _ (HIN.out _ (Wo.belowT HB1.out HS.out))).mono ?_
          rintro x u1543 ⟨v4, rfl, hm, hb⟩
          have HI4 := Lib.hid hm.in
          have HI3 := Lib.hid (HI3.out.below hb (Nat.le_refl _))
          have HA := Lib.hid (HA.out.below hb)
          have HBB := Lib.hid (HBB.out.below hb)
          have HS := Lib.hid (Wo.belowT HS.out hb)
          clear hm hb
          go_wp2_with fail
          refine hK.out _ _ (HQ.out _ (Wo.belowT HB1.out HS.out)) (fun hHeld => ?_)
          try simp only [Act.put, List.setIfInBounds_toArray, List.set_cons_zero, List.set_cons_succ]
          clear hK K hHeld
          obtain ⟨z0, z1, z2, a0, n0, c0, a1, n1, c1, a2, n2, c2, X1, X2, X3, rfl, ⟨f0, g0, e0⟩, ⟨f1, g1, e1⟩, ⟨f2, g2, e2⟩, HX⟩ := HA.out.put HI3.out
          have HS2 := Lib.hid (HX.out.2.2.2.2.2.2 _ _ HS.out hA1)
          refine wpAnyH_ready (rs := [6]) (by kernel_rfl) (by simp) ?_
          refine Wp.readyH_cons (i := 6) rfl (fun K hK => ?_) AllReadyH.nil
          go_simp
          refine hK.out _ _ (HQ.out _ (Wo.belowT HB1.out HS2.out)) (fun hHeld => ?_)
          try simp only [Act.put, List.setIfInBounds_toArray, List.set_cons_zero, List.set_cons_succ]
          clear hK K hHeld f0 g0 e0 f1 g1 e1 f2 g2 e2
          obtain ⟨y0, y1, y2, b0, m0, d0, b1, m1, d1, b2, m2, d2, Y1, Y2, Y3, rfl, ⟨f0, g0, e0⟩, ⟨f1, g1, e1⟩, ⟨f2, g2, e2⟩, HY⟩ := (HX.out.2.2.1 TB _ (Ne.symm hAB) HBB.out).put (HX.out.2.2.2.2.2.1 _ _ HI4.out)
          have HS3 := Lib.hid (HY.out.2.2.2.2.2.2 _ _ HS2.out hB1)
          refine wpAnyH_ready (rs := [7]) (by kernel_rfl) (by simp) ?_
          refine Wp.readyH_cons (i := 7) rfl (fun K hK => ?_) AllReadyH.nil
          go_simp
          refine hK.out _ _ (HQ.out _ (Wo.belowT HB1.out HS3.out)) (fun hHeld => ?_)
          try simp only [Act.put, List.setIfInBounds_toArray, List.set_cons_zero, List.set_cons_succ]
          clear hK K hHeld f0 g0 e0 f1 g1 e1 f2 g2 e2
          refine wpAnyH_done (by kernel_rfl) (NoPanic.normal ?_) _
          exact hQ.out hAB hA1 hB1 (HY.out.2.2.1 TA _ hAB HX.out.1) HY.out.1 HS3.out
        exact AllReadyH.nil
      exact AllReadyH.nil
    exact AllReadyH.nil
  refine Wp.readyH_cons (i := 4) rfl (fun K hK => ?_) ?_
  · go_simp
    obtain ⟨u4, hnew⟩ : ∃ z, wd.alloc (.cells #[.slice none 0 0, .slice none 0 0, .slice none 0 0] 26) = z := ⟨_, rfl⟩
    obtain ⟨TA, hT⟩ : ∃ z, wd.heap.size = z := ⟨_, rfl⟩
    have hb : Below wd.heap.size wd u4 := hnew ▸ Wo.belowA (Below.refl _ _) _
    have hA1 : w1.heap.size ≤ TA := hT ▸ HS.out.size
    have HA : Hid (Wp.Box u4 TA Wo.w0) := Lib.hid (hnew ▸ hT ▸ Wp.Box.new (Wo.In.w0 _))
    have HS := Lib.hid (Wo.belowT HS.out hb)
    rw [hnew, hT]
    clear hb hT hnew
    refine hK.out _ _ (HQ.out _ (Wo.belowT HB1.out HS.out)) (fun hHeld => ?_)
    try simp only [Act.put, List.setIfInBounds_toArray, List.set_cons_zero, List.set_cons_succ]
    clear hK K hHeld
    refine wpAnyH_ready (rs := [1, 5]) (by kernel_rfl) (by simp) ?_
    refine Wp.readyH_cons (i := 1) rfl (fun K hK => ?_) ?_
    · go_simp
      go_at_call 12
      refine (KC _ (HIN.out _ (Wo.belowT HB1.out HS.out))).mono ?_
      rintro x u41 ⟨v3, rfl, hm, hb⟩
      have HI3 := Lib.hid hm.in
      have HA := Lib.hid (HA.out.below hb)
      have HS := Lib.hid (Wo.belowT HS.out hb)
      clear hm hb
      go_wp2_with fail
      refine hK.out _ _ (HQ.out _ (Wo.belowT HB1.out HS.out)) (fun hHeld => ?_)
      try simp only [Act.put, List.setIfInBounds_toArray, List.set_cons_zero, List.set_cons_succ]
      clear hK K hHeld
      refine wpAnyH_ready (rs := [3, 5]) (by kernel_rfl) (by simp) ?_
      refine Wp.readyH_cons (i := 3) rfl (fun K hK => ?_) ?_
      · go_simp
        go_at_call 12
        refine (KC _ (HIN.out _ (Wo.belowT HB1.out HS.out))).mono ?_
        rintro x u413 ⟨v4, rfl, hm, hb⟩
        have HI4 := Lib.hid hm.in
        have HI3 := Lib.hid (HI3.out.below hb (Nat.le_refl _))
        have HA := Lib.hid (HA.out.below hb)
        have HS := Lib.hid (Wo.belowT HS.out hb)
        clear hm hb
        go_wp2_with fail
        refine hK.out _ _ (HQ.out _ (Wo.belowT HB1.out HS.out)) (fun hHeld => ?_)
        try simp only [Act.put, List.setIfInBounds_toArray, List.set_cons_zero, List.set_cons_succ]
        clear hK K hHeld
        refine wpAnyH_ready (rs := [5]) (by kernel_rfl) (by simp) ?_
        refine Wp.readyH_cons (i := 5) rfl (fun K hK => ?_) ?_
        · go_simp
          obtain ⟨u4135, hnew⟩ : ∃ z, u413.alloc (.cells #[.slice none 0 0, .slice none 0 0, .slice none 0 0] 26) = z := ⟨_, rfl⟩
          obtain ⟨TB, hT⟩ : ∃ z, u413.heap.size = z := ⟨_, rfl⟩
          have hb : Below u413.heap.size u413 u4135 := hnew ▸ Wo.belowA (Below.refl _ _) _
          have HI3 := Lib.hid (HI3.out.below hb (Nat.le_refl _))
          have HI4 := Lib.hid (HI4.out.below hb (Nat.le_refl _))
          have hB1 : w1.heap.size ≤ TB := hT ▸ HS.out.size
          have hAB : TA ≠ TB := by have := HA.out.lt; omega
          have HA := Lib.hid (HA.out.below hb)
          have HBB : Hid (Wp.Box u4135 TB Wo.w0) := Lib.hid (hnew ▸ hT ▸ Wp.Box.new (Wo.In.w0 _))
          have HS := Lib.hid (Wo.belowT HS.out hb)
          rw [hnew, hT]
          clear hb hT hnew
          refine hK.out _ _ (HQ.out _ (Wo.belowT HB1.out HS.out)) (fun hHeld => ?_)
          try simp only [Act.put, List.setIfInBounds_toArray, List.set_cons_zero, List.set_cons_succ]
          clear hK K hHeld
          obtain ⟨z0, z1, z2, a0, n0, c0, a1, n1, c1, a2, n2, c2, X1, X2, X3, rfl, ⟨f0, g0, e0⟩, ⟨f1, g1, e1⟩, ⟨f2, g2, e2⟩, HX⟩ := HA.out.put HI3.out
          have HS2 := Lib.hid (HX.out.2.2.2.2.2.2 _ _ HS.out hA1)
          refine wpAnyH_ready (rs := [6]) (by kernel_rfl) (by simp) ?_
          refine Wp.readyH_cons (i := 6) rfl (fun K hK => ?_) AllReadyH.nil
          go_simp
          refine hK.out _ _ (HQ.out _ (Wo.belowT HB1.out HS2.out)) (fun hHeld => ?_)
          try simp only [Act.put, List.setIfInBounds_toArray, List.set_cons_zero, List.set_cons_succ]
          clear hK K hHeld f0 g0 e0 f1 g1 e1 f2 g2 e2
          obtain ⟨y0, y1, y2, b0, m0, d0, b1, m1, d1, b2, m2, d2, Y1, Y2, Y3, rfl, ⟨f0, g0, e0⟩, ⟨f1, g1, e1⟩, ⟨f2, g2, e2⟩, HY⟩ := (HX.out.2.2.1 TB _ (Ne.symm hAB) HBB.out).put (HX.out.2.2.2.2.2.1 _ _ HI4.out)
          have HS3 := Lib.hid (HY.out.2.2.2.2.2.2 _ _ HS2.out hB1)
          refine wpAnyH_ready (rs := [7]) (by kernel_rfl) (by simp) ?_
          refine Wp.readyH_cons (i := 7) rfl (fun K hK => ?_) AllReadyH.nil
          go_simp
          refine hK.out _ _ (HQ.out _ (Wo.belowT HB1.out HS3.out)) (fun hHeld => ?_)
          try simp only [Act.put, List.setIfInBounds_toArray, List.set_cons_zero, List.set_cons_succ]
          clear hK K hHeld f0 g0 e0 f1 g1 e1 f2 g2 e2
          refine wpAnyH_done (by kernel_rfl) (NoPanic.normal ?_) _
          exact hQ.out hAB hA1 hB1 (HY.out.2.2.1 TA _ hAB HX.out.1) HY.out.1 HS3.out
        exact AllReadyH.nil
      refine Wp.readyH_cons (i := 5) rfl (fun K hK => ?_) ?_
      · go_simp
        obtain ⟨u415, hnew⟩ : ∃ z, u41.alloc (.cells #[.slice none 0 0, .slice none 0 0, .slice none 0 0] 26) = z := ⟨_, rfl⟩
        obtain ⟨TB, hT⟩ : ∃ z, u41.heap.size = z := ⟨_, rfl⟩
        have hb : Below u41.heap.size u41 u415 := hnew ▸ Wo.belowA (Below.refl _ _) _
        have HI3 := Lib.hid (HI3.out.below hb (Nat.le_refl _))
        have hB1 : w1.heap.size ≤ TB := hT ▸ HS.out.size
        have hAB : TA ≠ TB := by have := HA.out.lt; omega
        have HA := Lib.hid (HA.out.below hb)
        have HBB : Hid (Wp.Box u415 TB Wo.w0) := Lib.hid (hnew ▸ hT ▸ Wp.Box.new (Wo.In.w0 _))
        have HS := Lib.hid (Wo.belowT HS.out hb)
        rw [hnew, hT]
        clear hb hT hnew
        refine hK.out _ _ (HQ.out _ (Wo.belowT HB1.out HS.out)) (fun hHeld => ?_)
        try simp only [Act.put, List.setIfInBounds_toArray, List.set_cons_zero, List.set_cons_succ]
        clear hK K hHeld
        refine wpAnyH_ready (rs := [3]) (by kernel_rfl) (by simp) ?_
        refine Wp.readyH_cons (i := 3) rfl (fun K hK => ?_) ?_
        · go_simp
          go_at_call 12
          refine (KC _ (HIN.out _ (Wo.belowT HB1.out HS.out))).mono ?_
          rintro x u4153 ⟨v4, rfl, hm, hb⟩
          have HI4 := Lib.hid hm.in
          have HI3 := Lib.hid (HI3.out.below hb (Nat.le_refl _))
          have HA := Lib.hid (HA.out.below hb)
          have HBB := Lib.hid (HBB.out.below hb)
          have HS := Lib.hid (Wo.belowT HS.out hb)
          clear hm hb
          go_wp2_with fail
          refine hK.out _ _ (HQ.out _ (Wo.belowT HB1.out HS.out)) (fun hHeld => ?_)
          try simp only [Act.put, List.setIfInBounds_toArray, List.set_cons_zero, List.set_cons_succ]
          clear hK K hHeld
          obtain ⟨z0, z1, z2, a0, n0, c0, a1, n1, c1, a2, n2, c2, X1, X2, X3, rfl, ⟨f0, g0, e0⟩, ⟨f1, g1, e1⟩, ⟨f2, g2, e2⟩, HX⟩ := HA.out.put HI3.out
          have HS2 := Lib.hid (HX.out.2.2.2.2.2.2 _ _ HS.out hA1)
          refine wpAnyH_ready (rs := [6]) (by kernel_rfl) (by simp) ?_
          refine Wp.readyH_cons (i := 6) rfl (fun K hK => ?_) AllReadyH.nil
          go_simp
          refine hK.out _ _ (HQ.out _ (Wo.belowT HB1.out HS2.out)) (fun hHeld => ?_)
          try simp only [Act.put, List.setIfInBounds_toArray, List.set_cons_zero, List.set_cons_succ]
          clear hK K hHeld f0 g0 e0 f1 g1 e1 f2 g2 e2
          obtain ⟨y0, y1, y2, b0, m0, d0, b1, m1, d1, b2, m2, d2, Y1, Y2, Y3, rfl, ⟨f0, g0, e0⟩, ⟨f1, g1, e1⟩, ⟨f2, g2, e2⟩, HY⟩ := (HX.out.2.2.1 TB _ (Ne.symm hAB) HBB.out).put (HX.out.2.2.2.2.2.1 _ _ HI4.out)
          have HS3 := Lib.hid (HY.out.2.2.2.2.2.2 _ _ HS2.out hB1)
          refine wpAnyH_ready (rs := [7]) (by kernel_rfl) (by simp) ?_
          refine Wp.readyH_cons (i := 7) rfl (fun K hK => ?_) AllReadyH.nil
          go_simp
          refine hK.out _ _ (HQ.out _ (Wo.belowT HB1.out HS3.out)) (fun hHeld => ?_)
          try simp only [Act.put, List.setIfInBounds_toArray, List.set_cons_zero, List.set_cons_succ]
          clear hK K hHeld f0 g0 e0 f1 g1 e1 f2 g2 e2
          refine wpAnyH_done (by kernel_rfl) (NoPanic.normal ?_) _
          exact hQ.out hAB hA1 hB1 (HY.out.2.2.1 TA _ hAB HX.out.1) HY.out.1 HS3.out
        exact AllReadyH.nil
      exact AllReadyH.nil
    refine Wp.readyH_cons (i := 5) rfl (fun K hK => ?_) ?_
    · go_simp
      obtain ⟨u45, hnew⟩ : ∃ z, u4.alloc (.cells #[.slice none 0 0, .slice none 0 0, .slice none 0 0] 26) = z := ⟨_, rfl⟩
      obtain ⟨TB, hT⟩ : ∃ z, u4.heap.size = z := ⟨_, rfl⟩
      have hb : Below u4.heap.size u4 u45 := hnew ▸ Wo.belowA (Below.refl _ _) _
      have hB1 : w1.heap.size ≤ TB := hT ▸ HS.out.size
      have hAB : TA ≠ TB := by have := HA.out.lt; omega
      have HA := Lib.hid (HA.out.below hb)
      have HBB : Hid (Wp.Box u45 TB Wo.w0) := Lib.hid (hnew ▸ hT ▸ Wp.Box.new (Wo.In.w0 _))
      have HS := Lib.hid (Wo.belowT HS.out hb)
      rw [hnew, hT]
      clear hb hT hnew
      refine hK.out _ _ (HQ.out _ (Wo.belowT HB1.out HS.out)) (fun hHeld => ?_)
      try simp only [Act.put, List.setIfInBounds_toArray, List.set_cons_zero, List.set_cons_succ]
      clear hK K hHeld
      refine wpAnyH_ready (rs := [1]) (by kernel_rfl) (by simp) ?_
      refine Wp.readyH_cons (i := 1) rfl (fun K hK => ?_) ?_
      · go_simp
        go_at_call 12
        refine (KC _ (HIN.out _ (Wo.belowT HB1.out HS.out))).mono ?_
        rintro x u451 ⟨v3, rfl, hm, hb⟩
        have HI3 := Lib.hid hm.in
        have HA := Lib.hid (HA.out.below hb)
        have HBB := Lib.hid (HBB.out.below hb)
        have HS := Lib.hid (Wo.belowT HS.out hb)
        clear hm hb
        go_wp2_with fail
        refine hK.out _ _ (HQ.out _ (Wo.belowT HB1.out HS.out)) (fun hHeld => ?_)
        try simp only [Act.put, List.setIfInBounds_toArray, List.set_cons_zero, List.set_cons_succ]
        clear hK K hHeld
        refine wpAnyH_ready (rs := [3]) (by kernel_rfl) (by simp) ?_
        refine Wp.readyH_cons (i := 3) rfl (fun K hK => ?_) ?_
        · go_simp
          go_at_call 12
          refine (KC _ (HIN.out _ (Wo.belowT HB1.out HS.out))).mono ?_
          rintro x u4513 ⟨v4, rfl, hm, hb⟩
          have HI4 := Lib.hid hm.in
          have HI3 := Lib.hid (HI3.out.below hb (Nat.le_refl _))
          have HA := Lib.hid (HA.out.below hb)
          have HBB := Lib.hid (HBB.out.below hb)
          have HS := Lib.hid (Wo.belowT HS.out hb)
          clear hm hb
          go_wp2_with fail
          refine hK.out _ _ (HQ.out _ (Wo.belowT HB1.out HS.out)) (fun hHeld => ?_)
          try simp only [Act.put, List.setIfInBounds_toArray, List.set_cons_zero, List.set_cons_succ]
          clear hK K hHeld
          obtain ⟨z0, z1, z2, a0, n0, c0, a1, n1, c1, a2, n2, c2, X1, X2, X3, rfl, ⟨f0, g0, e0⟩, ⟨f1, g1, e1⟩, ⟨f2, g2, e2⟩, HX⟩ := HA.out.put HI3.out
          have HS2 := Lib.hid (HX.out.2.2.2.2.2.2 _ _ HS.out hA1)
          refine wpAnyH_ready (rs := [6]) (by kernel_rfl) (by simp) ?_
          refine Wp.readyH_cons (i := 6) rfl (fun K hK => ?_) AllReadyH.nil
          go_simp
          refine hK.out _ _ (HQ.out _ (Wo.belowT HB1.out HS2.out)) (fun hHeld => ?_)
          try simp only [Act.put, List.setIfInBounds_toArray, List.set_cons_zero, List.set_cons_succ]
          clear hK K hHeld f0 g0 e0 f1 g1 e1 f2 g2 e2
          obtain ⟨y0, y1, y2, b0, m0, d0, b1, m1, d1, b2, m2, d2, Y1, Y2, Y3, rfl, ⟨f0, g0, e0⟩, ⟨f1, g1, e1⟩, ⟨f2, g2, e2⟩, HY⟩ := (HX.out.2.2.1 TB _ (Ne.symm hAB) HBB.out).put (HX.out.2.2.2.2.2.1 _ _ HI4.out)
          have HS3 := Lib.hid (HY.out.2.2.2.2.2.2 _ _ HS2.out hB1)
          refine wpAnyH_ready (rs := [7]) (by kernel_rfl) (by simp) ?_
          refine Wp.readyH_cons (i := 7) rfl (fun K hK => ?_) AllReadyH.nil
          go_simp
          refine hK.out _ _ (HQ.out _ (Wo.belowT HB1.out HS3.out)) (fun hHeld => ?_)
          try simp only [Act.put, List.setIfInBounds_toArray, List.set_cons_zero, List.set_cons_succ]
          clear hK K hHeld f0 g0 e0 f1 g1 e1 f2 g2 e2
          refine wpAnyH_done (by kernel_rfl) (NoPanic.normal ?_) _
          exact hQ.out hAB hA1 hB1 (HY.out.2.2.1 TA _ hAB HX.out.1) HY.out.1 HS3.out
        exact AllReadyH.nil
      exact AllReadyH.nil
    exact AllReadyH.nil
  refine Wp.readyH_cons (i := 5) rfl (fun K hK => ?_) ?_
  · go_simp
    obtain ⟨u5, hnew⟩ : ∃ z, wd.alloc (.cells #[.slice none 0 0, .slice none 0 0, .slice none 0 0] 26) = z := ⟨_, rfl⟩
    obtain ⟨TB, hT⟩ : ∃ z, wd.heap.size = z := ⟨_, rfl⟩
    have hb : Below wd.heap.size wd u5 := hnew ▸ Wo.belowA (Below.refl _ _) _
    have hB1 : w1.heap.size ≤ TB := hT ▸ HS.out.size
    have HBB : Hid (Wp.Box u5 TB Wo.w0) := Lib.hid (hnew ▸ hT ▸ Wp.Box.new (Wo.In.w0 _))
    have HS := Lib.hid (Wo.belowT HS.out hb)
    rw [hnew, hT]
    clear hb hT hnew
    refine hK.out _ _ (HQ.out _ (Wo.belowT HB1.out HS.out)) (fun hHeld => ?_)
    try simp only [Act.put, List.setIfInBounds_toArray, List.set_cons_zero, List.set_cons_succ]
    clear hK K hHeld
    refine wpAnyH_ready (rs := [1, 4]) (by kernel_rfl) (by simp) ?_
    refine Wp.readyH_cons (i := 1) rfl (fun K hK => ?_) ?_
    · go_simp
      go_at_call 12
      refine (KC _ (HIN.out _ (Wo.belowT HB1.out HS.out))).mono ?_
      rintro x u51 ⟨v3, rfl, hm, hb⟩
      have HI3 := Lib.hid hm.in
      have HBB := Lib.hid (HBB.out.below hb)
      have HS := Lib.hid (Wo.belowT HS.out hb)
      clear hm hb
      go_wp2_with fail
      refine hK.out _ _ (HQ.out _ (Wo.belowT HB1.out HS.out)) (fun hHeld => ?_)
      try simp only [Act.put, List.setIfInBounds_toArray, List.set_cons_zero, List.set_cons_succ]
      clear hK K hHeld
      refine wpAnyH_ready (rs := [3, 4]) (by kernel_rfl) (by simp) ?_
      refine Wp.readyH_cons (i := 3) rfl (fun K hK => ?_) ?_
      · go_simp
        go_at_call 12
        refine (KC _ (HIN.out _ (Wo.belowT HB1.out HS.out))).mono ?_
        rintro x u513 ⟨v4, rfl, hm, hb⟩
        have HI4 := Lib.hid hm.in
        have HI3 := Lib.hid (HI3.out.below hb (Nat.le_refl _))
        have HBB := Lib.hid (HBB.out.below hb)
        have HS := Lib.hid (Wo.belowT HS.out hb)
        clear hm hb
        go_wp2_with fail
        refine hK.out _ _ (HQ.out _ (Wo.belowT HB1.out HS.out)) (fun hHeld => ?_)
        try simp only [Act.put, List.setIfInBounds_toArray, List.set_cons_zero, List.set_cons_succ]
        clear hK K hHeld
        refine wpAnyH_ready (rs := [4]) (by kernel_rfl) (by simp) ?_
        refine Wp.readyH_cons (i := 4) rfl (fun K hK => ?_) ?_
        · go_simp
          obtain ⟨u5134, hnew⟩ : ∃ z, u513.alloc (.cells #[.slice none 0 0, .slice none 0 0, .slice none 0 0] 26) = z := ⟨_, rfl⟩
          obtain ⟨TA, hT⟩ : ∃ z, u513.heap.size = z := ⟨_, rfl⟩
          have hb : Below u513.heap.size u513 u5134 := hnew ▸ Wo.belowA (Below.refl _ _) _
          have HI3 := Lib.hid (HI3.out.below hb (Nat.le_refl _))
          have HI4 := Lib.hid (HI4.out.below hb (Nat.le_refl _))
          have hA1 : w1.heap.size ≤ TA := hT ▸ HS.out.size
          have hAB : TA ≠ TB := by have := HBB.out.lt; omega
          have HBB := Lib.hid (HBB.out.below hb)
          have HA : Hid (Wp.Box u5134 TA Wo.w0) := Lib.hid (hnew ▸ hT ▸ Wp.Box.new (Wo.In.w0 _))
          have HS := Lib.hid (Wo.belowT HS.out hb)
          rw [hnew, hT]
          clear hb hT hnew
          refine hK.out _ _ (HQ.out _ (Wo.belowT HB1.out HS.out)) (fun hHeld => ?_)
          try simp only [Act.put, List.setIfInBounds_toArray, List.set_cons_zero, List.set_cons_succ]
          clear hK K hHeld
          obtain ⟨z0, z1, z2, a0, n0, c0, a1, n1, c1, a2, n2, c2, X1, X2, X3, rfl, ⟨f0, g0, e0⟩, ⟨f1, g1, e1⟩, ⟨f2, g2, e2⟩, HX⟩ := HA.out.put HI3.out
          have HS2 := Lib.hid (HX.out.2.2.2.2.2.2 _ _ HS.out hA1)
          refine wpAnyH_ready (rs := [6]) (by kernel_rfl) (by simp) ?_
          refine Wp.readyH_cons (i := 6) rfl (fun K hK => ?_) AllReadyH.nil
          go_simp
          refine hK.out _ _ (HQ.out _ (Wo.belowT HB1.out HS2.out)) (fun hHeld => ?_)
          try simp only [Act.put, List.setIfInBounds_toArray, List.set_cons_zero, List.set_cons_succ]
          clear hK K hHeld f0 g0 e0 f1 g1 e1 f2 g2 e2
          obtain ⟨y0, y1, y2, b0, m0, d0, b1, m1, d1, b2, m2, d2, Y1, Y2, Y3, rfl, ⟨f0, g0, e0⟩, ⟨f1, g1, e1⟩, ⟨f2, g2, e2⟩, HY⟩ := (HX.out.2.2.1 TB _ (Ne.symm hAB) HBB.out).put (HX.out.2.2.2.2.2.1 _ _ HI4.out)
          have HS3 := Lib.hid (HY.out.2.2.2.2.2.2 _ _ HS2.out hB1)
          refine wpAnyH_ready (rs := [7]) (by kernel_rfl) (by simp) ?_
          refine Wp.readyH_cons (i := 7) rfl (fun K hK => ?_) AllReadyH.nil
          go_simp
          refine hK.out _ _ (HQ.out _ (Wo.belowT HB1.out HS3.out)) (fun hHeld => ?_)
          try simp only [Act.put, List.setIfInBounds_toArray, List.set_cons_zero, List.set_cons_succ]
          clear hK K hHeld f0 g0 e0 f1 g1 e1 f2 g2 e2
          refine wpAnyH_done (by kernel_rfl) (NoPanic.normal ?_) _
          exact hQ.out hAB hA1 hB1 (HY.out.2.2.1 TA _ hAB HX.out.1) HY.out.1 HS3.out
        exact AllReadyH.nil
      refine Wp.readyH_cons (i := 4) rfl (fun K hK => ?_) ?_
      · go_simp
        obtain ⟨u514, hnew⟩ : ∃ z, u51.alloc (.cells #[.slice none 0 0, .slice none 0 0, .slice none 0 0] 26) = z := ⟨_, rfl⟩
        obtain ⟨TA, hT⟩ : ∃ z, u51.heap.size = z := ⟨_, rfl⟩
        have hb : Below u51.heap.size u51 u514 := hnew ▸ Wo.belowA (Below.refl _ _) _
        have HI3 := Lib.hid (HI3.out.below hb (Nat.le_refl _))
        have hA1 : w1.heap.size ≤ TA := hT ▸ HS.out.size
        have hAB : TA ≠ TB := by have := HBB.out.lt; omega
        have HBB := Lib.hid (HBB.out.below hb)
        have HA : Hid (Wp.Box u514 TA Wo.w0) := Lib.hid (hnew ▸ hT ▸ Wp.Box.new (Wo.In.w0 _))
        have HS := Lib.hid (Wo.belowT HS.out hb)
        rw [hnew, hT]
        clear hb hT hnew
        refine hK.out _ _ (HQ.out _ (Wo.belowT HB1.out HS.out)) (fun hHeld => ?_)
        try simp only [Act.put, List.setIfInBounds_toArray, List.set_cons_zero, List.set_cons_succ]
        clear hK K hHeld
        refine wpAnyH_ready (rs := [3]) (by kernel_rfl) (by simp) ?_
        refine Wp.readyH_cons (i := 3) rfl (fun K hK => ?_) ?_
        · go_simp
          go_at_call 12
          refine (KC _ (HIN.out _ (Wo.belowT HB1.out HS.out))).mono ?_
          rintro x u5143 ⟨v4, rfl, hm, hb⟩
          have HI4 := Lib.hid hm.in
          have HI3 := Lib.hid (HI3.out.below hb (Nat.le_refl _))
          have HA := Lib.hid (HA.out.below hb)
          have HBB := Lib.hid (HBB.out.below hb)
          have HS := Lib.hid (Wo.belowT HS.out hb)
          clear hm hb
          go_wp2_with fail
          refine hK.out _ _ (HQ.out _ (Wo.belowT HB1.out HS.out)) (fun hHeld => ?_)
          try simp only [Act.put, List.setIfInBounds_toArray, List.set_cons_zero, List.set_cons_succ]
          clear hK K hHeld
          obtain ⟨z0, z1, z2, a0, n0, c0, a1, n1, c1, a2, n2, c2, X1, X2, X3, rfl, ⟨f0, g0, e0⟩, ⟨f1, g1, e1⟩, ⟨f2, g2, e2⟩, HX⟩ := HA.out.put HI3.out
          have HS2 := Lib.hid (HX.out.2.2.2.2.2.2 _ _ HS.out hA1)
          refine wpAnyH_ready (rs := [6]) (by kernel_rfl) (by simp) ?_
          refine Wp.readyH_cons (i := 6) rfl (fun K hK => ?_) AllReadyH.nil
          go_simp
          refine hK.out _ _ (HQ.out _ (Wo.belowT HB1.out HS2.out)) (fun hHeld => ?_)
          try simp only [Act.put, List.setIfInBounds_toArray, List.set_cons_zero, List.set_cons_succ]
          clear hK K hHeld f0 g0 e0 f1 g1 e1 f2 g2 e2
          obtain ⟨y0, y1, y2, b0, m0, d0, b1, m1, d1, b2, m2, d2, Y1, Y2, Y3, rfl, ⟨f0, g0, e0⟩, ⟨f1, g1, e1⟩, ⟨f2, g2, e2⟩, HY⟩ := (HX.out.2.2.1 TB _ (Ne.symm hAB) HBB.out).put (HX.out.2.2.2.2.2.1 _ _ HI4.out)
          have HS3 := Lib.hid (HY.out.2.2.2.2.2.2 _ _ HS2.out hB1)
          refine wpAnyH_ready (rs := [7]) (by kernel_rfl) (by simp) ?_
          refine Wp.readyH_cons (i := 7) rfl (fun K hK => ?_) AllReadyH.nil
          go_simp
          refine hK.out _ _ (HQ.out _ (Wo.belowT HB1.out HS3.out)) (fun hHeld => ?_)
          try simp only [Act.put, List.setIfInBounds_toArray, List.set_cons_zero, List.set_cons_succ]
          clear hK K hHeld f0 g0 e0 f1 g1 e1 f2 g2 e2
          refine wpAnyH_done (by kernel_rfl) (NoPanic.normal ?_) _
          exact hQ.out hAB hA1 hB1 (HY.out.2.2.1 TA _ hAB HX.out.1) HY.out.1 HS3.out
        exact AllReadyH.nil
      exact AllReadyH.nil
    refine Wp.readyH_cons (i := 4) rfl (fun K hK => ?_) ?_
    · go_simp
      obtain ⟨u54, hnew⟩ : ∃ z, u5.alloc (.cells #[.slice none 0 0, .slice none 0 0, .slice none 0 0] 26) = z := ⟨_, rfl⟩
      obtain ⟨TA, hT⟩ : ∃ z, u5.heap.size = z := ⟨_, rfl⟩
      have hb : Below u5.heap.size u5 u54 := hnew ▸ Wo.belowA (Below.refl _ _) _
      have hA1 : w1.heap.size ≤ TA := hT ▸ HS.out.size
      have hAB : TA ≠ TB := by have := HBB.out.lt; omega
      have HBB := Lib.hid (HBB.out.below hb)
      have HA : Hid (Wp.Box u54 TA Wo.w0) := Lib.hid (hnew ▸ hT ▸ Wp.Box.new (Wo.In.w0 _))
      have HS := Lib.hid (Wo.belowT HS.out hb)
      rw [hnew, hT]
      clear hb hT hnew
      refine hK.out _ _ (HQ.out _ (Wo.belowT HB1.out HS.out)) (fun hHeld => ?_)
      try simp only [Act.put, List.setIfInBounds_toArray, List.set_cons_zero, List.set_cons_succ]
      clear hK K hHeld
      refine wpAnyH_ready (rs := [1]) (by kernel_rfl) (by simp) ?_
      refine Wp.readyH_cons (i := 1) rfl (fun K hK => ?_) ?_
      · go_simp
        go_at_call 12
        refine (KC _ (HIN.out _ (Wo.belowT HB1.out HS.out))).mono ?_
        rintro x u541 ⟨v3, rfl, hm, hb⟩
        have HI3 := Lib.hid hm.in
        have HA := Lib.hid (HA.out.below hb)
        have HBB := Lib.hid (HBB.out.below hb)
        have HS := Lib.hid (Wo.belowT HS.out hb)
        clear hm hb
        go_wp2_with fail
        refine hK.out _ _ (HQ.out _ (Wo.belowT HB1.out HS.out)) (fun hHeld => ?_)
        try simp only [Act.put, List.setIfInBounds_toArray, List.set_cons_zero, List.set_cons_succ]
        clear hK K hHeld
        refine wpAnyH_ready (rs := [3]) (by kernel_rfl) (by simp) ?_
        refine Wp.readyH_cons (i := 3) rfl (fun K hK => ?_) ?_
        · go_simp
          go_at_call 12
          refine (KC _ (HIN.out _ (Wo.belowT HB1.out HS.out))).mono ?_
          rintro x u5413 ⟨v4, rfl, hm, hb⟩
          have HI4 := Lib.hid hm.in
          have HI3 := Lib.hid (HI3.out.below hb (Nat.le_refl _))
          have HA := Lib.hid (HA.out.below hb)
          have HBB := Lib.hid (HBB.out.below hb)
          have HS := Lib.hid (Wo.belowT HS.out hb)
          clear hm hb
          go_wp2_with fail
          refine hK.out _ _ (HQ.out _ (Wo.belowT HB1.out HS.out)) (fun hHeld => ?_)
          try simp only [Act.put, List.setIfInBounds_toArray, List.set_cons_zero, List.set_cons_succ]
          clear hK K hHeld
          obtain ⟨z0, z1, z2, a0, n0, c0, a1, n1, c1, a2, n2, c2, X1, X2, X3, rfl, ⟨f0, g0, e0⟩, ⟨f1, g1, e1⟩, ⟨f2, g2, e2⟩, HX⟩ := HA.out.put HI3.out
          have HS2 := Lib.hid (HX.out.2.2.2.2.2.2 _ _ HS.out hA1)
          refine wpAnyH_ready (rs := [6]) (by kernel_rfl) (by simp) ?_
          refine Wp.readyH_cons (i := 6) rfl (fun K hK => ?_) AllReadyH.nil
          go_simp
          refine hK.out _ _ (HQ.out _ (Wo.belowT HB1.out HS2.out)) (fun hHeld => ?_)
          try simp only [Act.put, List.setIfInBounds_toArray, List.set_cons_zero, List.set_cons_succ]
          clear hK K hHeld f0 g0 e0 f1 g1 e1 f2 g2 e2
          obtain ⟨y0, y1, y2, b0, m0, d0, b1, m1, d1, b2, m2, d2, Y1, Y2, Y3, rfl, ⟨f0, g0, e0⟩, ⟨f1, g1, e1⟩, ⟨f2, g2, e2⟩, HY⟩ := (HX.out.2.2.1 TB _ (Ne.symm hAB) HBB.out).put (HX.out.2.2.2.2.2.1 _ _ HI4.out)
          have HS3 := Lib.hid (HY.out.2.2.2.2.2.2 _ _ HS2.out hB1)
          refine wpAnyH_ready (rs := [7]) (by kernel_rfl) (by simp) ?_
          refine Wp.readyH_cons (i := 7) rfl (fun K hK => ?_) AllReadyH.nil
          go_simp
          refine hK.out _ _ (HQ.out _ (Wo.belowT HB1.out HS3.out)) (fun hHeld => ?_)
          try simp only [Act.put, List.setIfInBounds_toArray, List.set_cons_zero, List.set_cons_succ]
          clear hK K hHeld f0 g0 e0 f1 g1 e1 f2 g2 e2
          refine wpAnyH_done (by kernel_rfl) (NoPanic.normal ?_) _
          exact hQ.out hAB hA1 hB1 (HY.out.2.2.1 TA _ hAB HX.out.1) HY.out.1 HS3.out
        exact AllReadyH.nil
      exact AllReadyH.nil
    exact AllReadyH.nil
  exact AllReadyH.nil
end Go.Proofs.Ytdikkknjdbchbaa
