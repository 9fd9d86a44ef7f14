/-
  The walk of the law TableLast.
-/
import Derived.BigQuiet
import Derived.Deep.DeepCutAuto
import Derived.Test.YtdjllmogejkimaaGreatDoorQr
import Derived.Test.YtdjllmogejkimaaGreatDoorQp
set_option linter.unusedVariables false
set_option linter.unusedSimpArgs false
namespace Go.Proofs.YtdjllmogejkimaaGreatDoor
open Go.RowKit

theorem Tm.drewN {B : Nat} {a w : World} (h : Below B a w) (n : Nat) : Below B a (w.drewN n) := h.trans ⟨rfl, rfl, rfl, Nat.le_refl _, fun _ _ => rfl⟩
theorem Tm.made : ∃ C : Array Value, C.size = 256 ∧ (∀ q, q < 256 → C[q]? = some (.int .i64 ((0 : Nat) : Int))) ∧ ∀ w : World, (Instr.makeSlice 29 (.int .i64 256) (.int .i64 256)).run Tryz.prog w = .ok (.slice (some ⟨w.heap.size, 0, none⟩) 256 256) (w.alloc (.cells C 3)) := by
  obtain ⟨i0, hi, hz0, hz1, hz2⟩ := info_parts Tm.infoI
  refine ⟨madeCells (Value.int .i64 0).cells 256, by simp [madeCells], fun q hq => ?_, fun w => ?_⟩
  · rw [Array.getElem?_eq_getElem (by simp [madeCells]; omega)]
    simp [madeCells, Value.cells, Nat.mod_one]
  · have := run_makeSlice (P := Tryz.prog) w 29 3 i0 (.int .i64 0) Tryz.underlying29 hi hz0 .i64 .i64 256 256 (by decide) (by decide) (by rw [hz1]; decide) (by rw [hz2]; decide) (by decide)
    rw [this, hz1]
    rfl
theorem Tm.byte_at {w : World} {ka : Option Addr} {kc n : Nat} {s : ByteArray} (h : By.In w (.slice ka n kc) s) (hn : n = s.size) {k : Nat} (hk : k < n) : ∃ b off K, ka = some ⟨b, off, none⟩ ∧ K < 256 ∧ w.cell? ⟨b, off + k, none⟩ = some (.int .u8 (K : Nat)) := by
  rcases h with ⟨h1, h0⟩ | ⟨a, cap, h1, h0⟩ | ⟨h0, b, off, cap, hv, _, _, hc⟩
  · omega
  · omega
  · simp only [Value.slice.injEq] at hv
    obtain ⟨rfl, _, rfl⟩ := hv
    have hb := Cd.byt_bd s k
    refine ⟨b, off, (Cd.byt s k).toNat, rfl, by omega, ?_⟩
    rw [hc k (by omega), Int.toNat_of_nonneg hb.1]
theorem Tm.Ls.put {w0 w W : World} {p r hb last k : Nat} {o : Value} {ks : List Nat} {f f' : Nat → Nat} {M : List (Nat × Nat)} {L : List Tm.Row} (h : Tm.Ls w0 w p r hb o ks f M L last k) (hd : Tm.Hb W hb f') (hs : W.heap.size = w.heap.size) (hk : ∀ z, z ≠ hb → W.heap[z]? = w.heap[z]?) (hb' : Below w0.heap.size w0 W) : Tm.Ls w0 W p r hb o ks f' M L last k := by
  have hlo := h.lo
  exact ⟨h.st.aside (fun e => e.1 rfl) (by omega) (by omega) (fun row hr => h.hb_ne hr) (by omega) (fun q _ hq => hk q hq), h.rel, h.la, h.lo, hd, Tm.row_kept h.row (fun q hq _ => hk q (by omega)), hb'⟩
/-- The order's row is another one. -/
theorem Tm.Ls.order {w0 w w' : World} {p r hb last k : Nat} {o o' : Value} {ks ks' : List Nat} {f : Nat → Nat} {M : List (Nat × Nat)} {L : List Tm.Row} (h : Tm.Ls w0 w p r hb o ks f M L last k) (hrow : w'.ownsRow (hb + 1) 3 1 o' ks'.length (Tm.ints ks')) (hsz : w.heap.size ≤ w'.heap.size) (hk : ∀ q, q < w.heap.size → o.ownBlock ≠ some q → w'.heap[q]? = w.heap[q]?) (hfr : ∀ q, o'.ownBlock = some q → o.ownBlock = some q ∨ w.heap.size ≤ q) (hb' : Below w0.heap.size w0 w') : Tm.Ls w0 w' p r hb o' ks' f M L last k := by
  have hlo := h.lo
  have hlt : ∀ q, o.ownBlock = some q → hb + 1 ≤ q := fun q hq => (h.row.lt q hq).1
  have hD : ∀ q, Tm.Dm hb o q → q < w.heap.size → Tm.Dm hb o' q := fun q hq hl => ⟨hq.1, fun e => by
    rcases hfr q e with e2 | e2
    · exact hq.2 e2
    · omega⟩
  have hst : Tm.St (Tm.Dm hb o) 1 p r last w0.heap.size w' L := by
    cases hob : o.ownBlock with
    | none => exact h.st.kept hsz (fun q hq => hk q hq (by rw [hob]; exact fun e => by cases e))
    | some g =>
      have hg := hlt g hob
      exact h.st.aside (fun e => e.2 hob) (by omega) (by omega) (fun row hr => h.own_ne hr hob) hsz (fun q hq hne => hk q hq (by rw [hob]; exact fun e => hne (by simp only [Option.some.injEq] at e; exact e.symm)))
  have hD' : ∀ q, Tm.Dm hb o q → q < w'.heap.size → (q < w.heap.size ∨ w.heap.size ≤ q) := fun q _ _ => by omega
  have hst2 : Tm.St (Tm.Dm hb o') 1 p r last w0.heap.size w' L := by
    have h1 := h.st.other (D' := fun q => Tm.Dm hb o q ∧ Tm.Dm hb o' q) (fun q hq hl => ⟨hq, hD q hq hl⟩)
    have h2 : Tm.St (fun q => Tm.Dm hb o q ∧ Tm.Dm hb o' q) 1 p r last w0.heap.size w' L := by
      cases hob : o.ownBlock with
      | none => exact h1.kept hsz (fun q hq => hk q hq (by rw [hob]; exact fun e => by cases e))
      | some g =>
        have hg := hlt g hob
        exact h1.aside (fun e => e.1.2 hob) (by omega) (by omega) (fun row hr => h.own_ne hr hob) hsz (fun q hq hne => hk q hq (by rw [hob]; exact fun e => hne (by simp only [Option.some.injEq] at e; exact e.symm)))
    exact h2.other (fun q hq _ => hq.2)
  exact ⟨hst2, h.rel, h.la, h.lo, h.hd.kept (hk hb h.hb_lt (fun e => by have := hlt _ e; omega)), hrow, hb'⟩
theorem Tm.Ls.done {w0 w : World} {p r hb last k k' : Nat} {o : Value} {ks : List Nat} {f : Nat → Nat} {M : List (Nat × Nat)} {L : List Tm.Row} (h : Tm.Ls w0 w p r hb o ks f M L last k) (hks : M.map (·.1) = ks) (hf : ∀ q, Tm.held M q = f q) (hk : k = k') : Tm.Ls w0 w p r hb o (M.map (·.1)) (Tm.held M) M L last k' := by
  have e : Tm.held M = f := funext hf
  rw [e, hks, ← hk]
  exact h
set_option maxHeartbeats 4000000 in
set_option maxRecDepth 1000000 in
theorem tableLast.walk0 (vk : Value) (s : ByteArray) (vg : Value) (n : Nat) (Bf : Nat → Bool) (w : World) (hs : s.size ≤ 140737488351232) (hin : By.In w vk s) (hgin : Bl.In w vg n Bf) (hT : Wt.Tabs w) :
    Calls Tryz.prog 3 #[vk, vg] w fun e w' => e = .returned (.bool true) ∧ Below w.heap.size w w' := by
  obtain ⟨ka, kc, rfl⟩ := hin.slice
  obtain ⟨N, hN⟩ : ∃ z, s.size = z := ⟨_, rfl⟩
  rw [hN] at hin ⊢
  have hgin0 := hgin
  obtain ⟨ga, gc, rfl, hgn, hgm, hgc⟩ := hgin
  obtain ⟨Zc, hzs, hz0, hmk⟩ := Tm.made
  obtain ⟨i8, hi8, hz8, hs8, hy8⟩ := info_parts Tm.infoI
  obtain ⟨G, hG1, hG2, hG3⟩ : ∃ G, G ≤ N ∧ G ≤ 300 ∧ (G = N ∨ (G < N ∧ G = 300)) := by
    by_cases h : N ≤ 300
    · exact ⟨N, Nat.le_refl _, h, .inl rfl⟩
    · exact ⟨300, by omega, Nat.le_refl _, .inr ⟨by omega, rfl⟩⟩
  obtain ⟨P, hP⟩ : ∃ z, z = w.heap.size + 1 := ⟨_, rfl⟩
  have KNEW := Tb.new_any 1 (by decide) w
  rw [← hP] at KNEW
  have HP := Lib.hid hP
  clear hP
  have HIN := Lib.hid (fun (w' : World) (hb : Below w.heap.size w w') => hin.below hb (Nat.le_refl _))
  have HGN : Hid (∀ (w' : World), Below w.heap.size w w' → ∀ j, j < n → ∃ b off, ga = some ⟨b, off, none⟩ ∧ w'.cell? ⟨b, off + j, none⟩ = some (.bool (Bf j))) := Lib.hid (fun w' hb j hj => by
    obtain ⟨b, off, h1, h2, h3⟩ := hgc (by omega)
    exact ⟨b, off, h1, (hb.cell (p := ⟨b, off + j, none⟩) h2).trans (h3 j hj)⟩)
  have HT := Lib.hid hT
  have HN := Lib.hid (And.intro hN hs)
  have HGM := Lib.hid hgm
  clear hin hgin0 hgc hT hs hN hgn hgm
  go_enter Tryz.func3, Tryz.ntmps3
  go_wp2_with fail
  refine KNEW.mono ?_
  rintro y w1 ⟨rfl, hr1, hp1, hb1⟩
  clear KNEW
  have HP1 := Lib.hid (And.intro hr1 (And.intro hp1 hb1))
  clear hr1 hp1 hb1
  go_wp2_with fail
  refine (Tb.awake2 w1 (HT.out.utf.below HP1.out.2.2)).mono ?_
  rintro y w2 ⟨rfl, hb2⟩
  have hmk2 := hmk w2
  obtain ⟨hb, hhb⟩ : ∃ z, z = w2.heap.size := ⟨_, rfl⟩
  obtain ⟨w3, hw3⟩ : ∃ z, w2.alloc (.cells Zc 3) = z := ⟨_, rfl⟩
  have hz3 : w3.heap.size = hb + 1 := by rw [← hw3, hhb]; simp
  rw [← hhb, hw3] at hmk2
  have HST : Hid (∃ (k : Nat) (M : List (Nat × Nat)) (L : List Tm.Row) (last : Nat), k + G = G ∧ Value.int .i64 0 = .int .i64 k ∧ Tm.Ls w (w3.alloc (.cells #[] 3)) P w.heap.size hb (.slice (some ⟨hb + 1, 0, none⟩) 0 0) (M.map (·.1)) (Tm.held M) M L last k) := Lib.hid (by
    obtain ⟨n0, n1, n2, n3⟩ := Sm.two w2 (.cells Zc 3) (.cells #[] 3)
    rw [hw3, ← hhb] at n0 n1
    rw [hw3] at n3
    have hP := HP.out
    have l1 := (Array.getElem?_eq_some_iff.1 HP1.out.2.1).1
    have hz2 := hb2.size
    have hbw := HP1.out.2.2.trans (hb2.mono HP1.out.2.2.size)
    have hbx := hbw.trans (n3.mono hbw.size)
    have hp' := (n3.block P (by omega)).trans ((hb2.block P l1).trans HP1.out.2.1)
    have hr' := (n3.block w.heap.size (by omega)).trans ((hb2.block w.heap.size (by omega)).trans HP1.out.1)
    refine ⟨0, [], [], 0, by omega, rfl, ⟨Tm.St.empty hp' hr' ⟨by omega, by omega⟩, ⟨rfl, List.nodup_nil, fun q hq => by simp at hq⟩, Nat.le_refl _, ⟨by omega, by omega, by omega⟩, ⟨Zc, n0, hzs, fun q hq => ?_⟩, ⟨rfl, .inr ⟨hb + 1, 0, #[], rfl, Nat.le_refl _, n1, Nat.le_refl _, Nat.zero_le _, rfl, rfl⟩⟩, hbx⟩⟩
    exact hz0 q hq)
  have HW3 := Lib.hid hw3
  clear hw3 hhb
  clear hb2 hmk hzs hz0
  go_wp2_with fail
  go_loopg [8, 9] G (fun g o i wr => ∃ (k : Nat) (M : List (Nat × Nat)) (L : List Tm.Row) (last : Nat), k + g = G ∧ i = .int .i64 k ∧ Tm.Ls w wr P w.heap.size hb o (M.map (·.1)) (Tm.held M) M L last k)
  case atStart => exact HST.out
  case round =>
    obtain ⟨k, M, L, last, hkg, rfl, hls⟩ := hrel
    obtain ⟨wo, hwo⟩ : ∃ z, z = wr := ⟨_, rfl⟩
    subst hwo
    clear HST hmk2 hz3
    obtain ⟨oa, oc, rfl⟩ := Tm.sl_of hls.row
    obtain ⟨m, hm⟩ : ∃ z, (M.map (·.1)).length = z := ⟨_, rfl⟩
    rw [hm] at hls
    rw [hm]
    have HM := Lib.hid hm
    have hm256 : m ≤ 256 := by have := hls.rel.len256; rw [← hm, List.length_map]; exact this
    have HM2 := Lib.hid hm256
    have HL := Lib.hid hls
    clear hm hm256 hls
    by_cases hkG : k < G
    · have d1 : decide ((k : Int) < (N : Int)) = true := decide_eq_true (by omega)
      have d1n : decide (k < N) = true := decide_eq_true (by omega)
      have d2 : decide ((k : Int) < 300) = true := decide_eq_true (by omega)
      have hk3 : k < 300 := by omega
      obtain ⟨kb, ko, K, rfl, hK, hkc⟩ := Tm.byte_at (HIN.out wo HL.out.bel) HN.out.1.symm (show k < N by omega)
      have hwr : IntKind.i64.wrap (K : Int) = (K : Int) := by rw [IntKind.wrap_i64]; omega
      have hKi : (K : Int) < 256 := by omega
      obtain ⟨n0, n1, n2, n3⟩ := Sm.two wo (.cells #[.int .i64 4, .int .i64 (K : Nat), .bool false, .slice none 0 0, .slice none 0 0, .bool false, .slice none 0 0, .slice none 0 0, .string ⟨#[]⟩, .slice none 0 0, .slice none 0 0] 37) (.cells #[.int .i64 9, .int .i64 0, .bool false, .slice none 0 0, .slice none 0 0, .bool false, .slice none 0 0, .slice none 0 0, .string ⟨#[]⟩, .slice none 0 0, .slice (some ⟨wo.heap.size, 0, none⟩) 1 1] 37)
      obtain ⟨W, hW⟩ : ∃ z, (wo.alloc (.cells #[.int .i64 4, .int .i64 (K : Nat), .bool false, .slice none 0 0, .slice none 0 0, .bool false, .slice none 0 0, .slice none 0 0, .string ⟨#[]⟩, .slice none 0 0, .slice none 0 0] 37)).alloc (.cells #[.int .i64 9, .int .i64 0, .bool false, .slice none 0 0, .slice none 0 0, .bool false, .slice none 0 0, .slice none 0 0, .string ⟨#[]⟩, .slice none 0 0, .slice (some ⟨wo.heap.size, 0, none⟩) 1 1] 37) = z := ⟨_, rfl⟩
      rw [hW] at n0 n1 n2 n3
      have hls2 := HL.out.below n3
      have hTW := HT.out.below hls2.bel
      have hvk := Tm.key_in K hK W wo.heap.size 37 n0
      have KSET := Lib.hid (hls2.set hTW hK hk3 hvk (Tm.ch_in k hk3 W))
      have KDEL := Lib.hid (fun (w' : World) (hb' : Below W.heap.size W w') er her => (hls2.below hb').del (hTW.below hb') hK (hvk.below hb' (Nat.le_refl _)) er her)
      have HC := Lib.hid (fun (w' : World) (hb' : Below W.heap.size W w') => (Dt.cells11 ((hb'.block (wo.heap.size + 1) (Array.getElem?_eq_some_iff.1 n1).1).trans n1)))
      have HHD := Lib.hid (fun (w' : World) (hb' : Below W.heap.size W w') => (hls2.below hb').hd.cell hK)
      obtain ⟨e0, e1, e2, e3, e4, e5, e6, e7, e8, e9, e10⟩ := HC.out W (Below.refl _ _)
      have hgcase : ∃ b : Bool, (b = false ∧ decide ((k : Int) < (n : Int)) = false) ∨ (∃ gb goff, ga = some ⟨gb, goff, none⟩ ∧ decide ((k : Int) < (n : Int)) = true ∧ k < n ∧ ∀ w', Below w.heap.size w w' → w'.cell? ⟨gb, goff + k, none⟩ = some (.bool b)) := by
        by_cases hkn : k < n
        · refine ⟨Bf k, .inr ?_⟩
          obtain ⟨gb, goff, hga, _⟩ := HGN.out w (Below.refl _ _) k hkn
          refine ⟨gb, goff, hga, decide_eq_true (by omega), hkn, fun w' hb' => ?_⟩
          obtain ⟨gb', goff', hga', hc'⟩ := HGN.out w' hb' k hkn
          rw [hga] at hga'
          simp only [Option.some.injEq, Addr.mk.injEq, and_true] at hga'
          obtain ⟨rfl, rfl⟩ := hga'
          exact hc'
        · exact ⟨false, .inl ⟨rfl, decide_eq_false (by omega)⟩⟩
      have HBW := Lib.hid hls2.bel
      obtain ⟨H, hH⟩ : ∃ z, z = Tm.held M K := ⟨_, rfl⟩
      have HH : Hid (H = Tm.held M K ∧ H < 4611686018427387904) := Lib.hid ⟨hH, by
        by_cases hin : K ∈ M.map (·.1)
        · obtain ⟨q, hq, hq2⟩ := List.mem_map.1 hin
          obtain ⟨j, hj⟩ := List.mem_iff_getElem?.1 hq
          have h1 := Tm.held_at hls2.rel.nd (j := j) (k := K) (i := q.2) (by rw [hj, ← hq2])
          have h2 := (hls2.rel.lt q hq).2
          omega
        · rw [hH, Tm.held_none hin]; decide⟩
      rw [← hH] at HHD
      clear hls2 hTW hvk n0 n1 n2 n3 hH
      have HK := Lib.hid (And.intro hK hk3)
      obtain ⟨b, hgcase⟩ := hgcase
      rcases hgcase with ⟨rfl, hg1⟩ | ⟨gb, goff, rfl, hg1, hkn, hgx⟩
      · have hg3 : decide (k < n) = false := decide_eq_false (by have := of_decide_eq_false hg1; omega)
        go_upto_if 61 with (fail)
        go_cut [] (fun wx => ∃ (M' : List (Nat × Nat)) (L' : List Tm.Row) (last' : Nat), Tm.Ls w wx P w.heap.size hb (.slice oa m oc) (M.map (·.1)) (Tm.held M) M' L' last' (k + 1) ∧ Tm.Step M M' K k false)
        case first =>
          have KS := KSET.out
          unfold Tm.chV at KS
          clear KSET KDEL HC HHD
          go_wp2_with fail
          refine KS.mono ?_
          rintro x w5 ⟨rfl, hP⟩
          clear KS
          go_wp2_with fail
          go_meet
          exact hP
        case rest =>
          obtain ⟨M', L', last', hl6, hstep⟩ := hcut
          obtain ⟨w6, hw6⟩ : ∃ z, z = wc := ⟨_, rfl⟩
          subst hw6
          obtain ⟨k1, hk1⟩ : ∃ z, z = k + 1 := ⟨_, rfl⟩
          have hw7 : IntKind.i64.wrap ((k : Int) + 1) = (k1 : Int) := by rw [IntKind.wrap_i64]; omega
          have hc6 := hl6.hd.cell hK
          rw [← HH.out.1] at hc6
          obtain ⟨W3, hW3, hfz3, hHb3, hz3, ho3, hb3⟩ := hl6.hd.put K hK k1
          have hl7 := hl6.put hHb3 hz3 ho3 (hb3 _ _ hl6.bel hl6.lo.2.2)
          have hc7 : W3.cell? ⟨hb, K, none⟩ = some (.int .i64 (k1 : Nat)) := by
            have := hl7.hd.cell hK
            rwa [if_pos rfl] at this
          have hF : ∀ q, Tm.held M' q = (fun y => if y = K then k1 else Tm.held M y) q := fun q => by
            rw [hstep.held q, hk1]
            by_cases e : q = K
            · simp [e]
            · simp [e]
          have HS6 := Lib.hid (And.intro hstep hF)
          have HL8 := Lib.hid hl7
          have hk10 : ((k1 : Int) == 0) = false := by
            rw [beq_eq_false_iff_ne]
            omega
          have hk11 : decide ((k1 : Int) > 0) = true := decide_eq_true (by omega)
          have hk12 : decide ((0 : Int) < (k1 : Int)) = true := hk11
          have hk13 : decide (0 < k1) = true := decide_eq_true (by omega)
          have hk14 : (k1 == 0) = false := by
            rw [beq_eq_false_iff_ne]
            omega
          have HK1 := Lib.hid hk1
          clear KSET KDEL HC HHD e0 e1 e2 e3 e4 e5 e6 e7 e8 e9 e10 hl6 hstep hF hHb3 hz3 ho3 hb3 hl7 hk1 
          by_cases hin : K ∈ M.map (·.1)
          · have hH1 : decide ((H : Int) > 0) = true := by
              rw [HH.out.1]
              exact decide_eq_true (by have := Tm.held_mem hin; omega)
            have hH2 : decide ((0 : Int) < (H : Int)) = true := hH1
            have hH3 : decide (0 < H) = true := by
              exact decide_eq_true (by have := of_decide_eq_true hH1; omega)
            have HIN2 := Lib.hid hin
            clear hin
            go_wp2_with fail
            go_roundg (gk - 1)
            case measure => omega
            case rel =>
              have hfin := HL8.out.done (by rw [HS6.out.1.ord]; unfold Tm.ord; rw [if_neg (by decide), if_pos HIN2.out]) HS6.out.2 (rfl : k + 1 = k + 1)
              exact ⟨k + 1, M', L', last', by omega, by rw [← HK1.out], hfin⟩
          · have hH1 : decide ((H : Int) > 0) = false := by
              rw [HH.out.1]
              rw [Tm.held_none hin]; decide
            have hH2 : decide ((0 : Int) < (H : Int)) = false := hH1
            have hH3 : decide (0 < H) = false := by
              exact decide_eq_false (by have := of_decide_eq_false hH1; omega)
            have HIN2 := Lib.hid hin
            clear hin
            have HOWNX : Hid (∀ O, (W3.alloc O).ownsRow (hb + 1) 3 1 (.slice oa m oc) m (Tm.ints (M.map (·.1)))) := Lib.hid (fun O => by
              have h1 := Tm.row_kept (w' := W3.alloc O) HL8.out.row (fun q _ hl => Lib.alloc_old _ _ _ hl)
              rwa [HM.out] at h1)
            have HSZX : Hid (∀ O, hb + 1 ≤ (W3.alloc O).heap.size) := Lib.hid (fun O => by have := HL8.out.hb_lt; simp; omega)
            have hm3 := HM2.out
            go_wp2_with (at_builtin; refine Ls.wpList_append _ rfl _ _ 29 rfl (hb + 1) 3 i8 (.int .i64 0) 1 8 Tryz.underlying29 hi8 hz8 hs8 hy8 rfl (by decide) (.slice oa m oc) m (Tm.ints (M.map (·.1))) (by rfl) (HOWNX.out _) (.slice (some ⟨W3.heap.size, 0, none⟩) 1 1) 1 [.int .i64 K] (by rfl) (.inr ⟨_, _, rfl, rfl, World.news_of_block (heap_alloc_new _ _)⟩) (by intro u hu; simp only [List.mem_cons, List.not_mem_nil, or_false] at hu; rcases hu with rfl; rfl) (by simp only [maxLen]; omega) (by omega) (HSZX.out _) ?_)
            intro v7 w7 hown7 hgr7 hfr7
            have hfin := (HL8.out.order (o' := v7) (ks' := M.map (·.1) ++ [K]) (by rw [Tm.ints_snoc, List.length_append, HM.out]; exact hown7) (by have := hgr7.size; simp at this; omega) (fun q hq hne => (hgr7.block q (by simp; omega) (fun e => hne e.symm)).trans (Lib.alloc_old _ _ _ hq)) (fun q hq => by
              rcases hfr7 q hq with h1 | h1
              · exact .inl h1
              · simp at h1
                exact .inr (by omega)) ((HL8.out.bel.alloc HL8.out.bel.size _).grown hgr7 (by have := HL8.out.bel.size; simp; omega) (fun q hq => by have h1 := (HL8.out.row.lt q hq).1; have h2 := HL8.out.lo.2.2; omega))).done (by rw [HS6.out.1.ord]; unfold Tm.ord; rw [if_neg (by decide), if_neg HIN2.out]) HS6.out.2 (rfl : k + 1 = k + 1)
            have HF := Lib.hid hfin
            obtain ⟨va7, vc7, rfl⟩ := Tm.sl_of hown7
            clear hown7 hgr7 hfr7 hfin hm3
            go_wp2_with fail
            go_roundg (gk - 1)
            case measure => omega
            case rel => exact ⟨k + 1, M', L', last', by omega, by rw [← HK1.out], HF.out⟩
      · have hg2 := hgx W HBW.out
        have hg3 : decide (k < n) = true := decide_eq_true hkn
        cases b
        · go_upto_if 61 with (fail)
          go_cut [] (fun wx => ∃ (M' : List (Nat × Nat)) (L' : List Tm.Row) (last' : Nat), Tm.Ls w wx P w.heap.size hb (.slice oa m oc) (M.map (·.1)) (Tm.held M) M' L' last' (k + 1) ∧ Tm.Step M M' K k false)
          case first =>
            have KS := KSET.out
            unfold Tm.chV at KS
            clear KSET KDEL HC HHD
            go_wp2_with fail
            refine KS.mono ?_
            rintro x w5 ⟨rfl, hP⟩
            clear KS
            go_wp2_with fail
            go_meet
            exact hP
          case rest =>
            obtain ⟨M', L', last', hl6, hstep⟩ := hcut
            obtain ⟨w6, hw6⟩ : ∃ z, z = wc := ⟨_, rfl⟩
            subst hw6
            obtain ⟨k1, hk1⟩ : ∃ z, z = k + 1 := ⟨_, rfl⟩
            have hw7 : IntKind.i64.wrap ((k : Int) + 1) = (k1 : Int) := by rw [IntKind.wrap_i64]; omega
            have hc6 := hl6.hd.cell hK
            rw [← HH.out.1] at hc6
            obtain ⟨W3, hW3, hfz3, hHb3, hz3, ho3, hb3⟩ := hl6.hd.put K hK k1
            have hl7 := hl6.put hHb3 hz3 ho3 (hb3 _ _ hl6.bel hl6.lo.2.2)
            have hc7 : W3.cell? ⟨hb, K, none⟩ = some (.int .i64 (k1 : Nat)) := by
              have := hl7.hd.cell hK
              rwa [if_pos rfl] at this
            have hg2 := hgx W3 hl7.bel
            have hF : ∀ q, Tm.held M' q = (fun y => if y = K then k1 else Tm.held M y) q := fun q => by
              rw [hstep.held q, hk1]
              by_cases e : q = K
              · simp [e]
              · simp [e]
            have HS6 := Lib.hid (And.intro hstep hF)
            have HL8 := Lib.hid hl7
            have hk10 : ((k1 : Int) == 0) = false := by
              rw [beq_eq_false_iff_ne]
              omega
            have hk11 : decide ((k1 : Int) > 0) = true := decide_eq_true (by omega)
            have hk12 : decide ((0 : Int) < (k1 : Int)) = true := hk11
            have hk13 : decide (0 < k1) = true := decide_eq_true (by omega)
            have hk14 : (k1 == 0) = false := by
              rw [beq_eq_false_iff_ne]
              omega
            have HK1 := Lib.hid hk1
            clear KSET KDEL HC HHD e0 e1 e2 e3 e4 e5 e6 e7 e8 e9 e10 hl6 hstep hF hHb3 hz3 ho3 hb3 hl7 hk1 
            by_cases hin : K ∈ M.map (·.1)
            · have hH1 : decide ((H : Int) > 0) = true := by
                rw [HH.out.1]
                exact decide_eq_true (by have := Tm.held_mem hin; omega)
              have hH2 : decide ((0 : Int) < (H : Int)) = true := hH1
              have hH3 : decide (0 < H) = true := by
                exact decide_eq_true (by have := of_decide_eq_true hH1; omega)
              have HIN2 := Lib.hid hin
              clear hin
              go_wp2_with fail
              go_roundg (gk - 1)
              case measure => omega
              case rel =>
                have hfin := HL8.out.done (by rw [HS6.out.1.ord]; unfold Tm.ord; rw [if_neg (by decide), if_pos HIN2.out]) HS6.out.2 (rfl : k + 1 = k + 1)
                exact ⟨k + 1, M', L', last', by omega, by rw [← HK1.out], hfin⟩
            · have hH1 : decide ((H : Int) > 0) = false := by
                rw [HH.out.1]
                rw [Tm.held_none hin]; decide
              have hH2 : decide ((0 : Int) < (H : Int)) = false := hH1
              have hH3 : decide (0 < H) = false := by
                exact decide_eq_false (by have := of_decide_eq_false hH1; omega)
              have HIN2 := Lib.hid hin
              clear hin
              have HOWNX : Hid (∀ O, (W3.alloc O).ownsRow (hb + 1) 3 1 (.slice oa m oc) m (Tm.ints (M.map (·.1)))) := Lib.hid (fun O => by
                have h1 := Tm.row_kept (w' := W3.alloc O) HL8.out.row (fun q _ hl => Lib.alloc_old _ _ _ hl)
                rwa [HM.out] at h1)
              have HSZX : Hid (∀ O, hb + 1 ≤ (W3.alloc O).heap.size) := Lib.hid (fun O => by have := HL8.out.hb_lt; simp; omega)
              have hm3 := HM2.out
              go_wp2_with (at_builtin; refine Ls.wpList_append _ rfl _ _ 29 rfl (hb + 1) 3 i8 (.int .i64 0) 1 8 Tryz.underlying29 hi8 hz8 hs8 hy8 rfl (by decide) (.slice oa m oc) m (Tm.ints (M.map (·.1))) (by rfl) (HOWNX.out _) (.slice (some ⟨W3.heap.size, 0, none⟩) 1 1) 1 [.int .i64 K] (by rfl) (.inr ⟨_, _, rfl, rfl, World.news_of_block (heap_alloc_new _ _)⟩) (by intro u hu; simp only [List.mem_cons, List.not_mem_nil, or_false] at hu; rcases hu with rfl; rfl) (by simp only [maxLen]; omega) (by omega) (HSZX.out _) ?_)
              intro v7 w7 hown7 hgr7 hfr7
              have hfin := (HL8.out.order (o' := v7) (ks' := M.map (·.1) ++ [K]) (by rw [Tm.ints_snoc, List.length_append, HM.out]; exact hown7) (by have := hgr7.size; simp at this; omega) (fun q hq hne => (hgr7.block q (by simp; omega) (fun e => hne e.symm)).trans (Lib.alloc_old _ _ _ hq)) (fun q hq => by
                rcases hfr7 q hq with h1 | h1
                · exact .inl h1
                · simp at h1
                  exact .inr (by omega)) ((HL8.out.bel.alloc HL8.out.bel.size _).grown hgr7 (by have := HL8.out.bel.size; simp; omega) (fun q hq => by have h1 := (HL8.out.row.lt q hq).1; have h2 := HL8.out.lo.2.2; omega))).done (by rw [HS6.out.1.ord]; unfold Tm.ord; rw [if_neg (by decide), if_neg HIN2.out]) HS6.out.2 (rfl : k + 1 = k + 1)
              have HF := Lib.hid hfin
              obtain ⟨va7, vc7, rfl⟩ := Tm.sl_of hown7
              clear hown7 hgr7 hfr7 hfin hm3
              go_wp2_with fail
              go_roundg (gk - 1)
              case measure => omega
              case rel => exact ⟨k + 1, M', L', last', by omega, by rw [← HK1.out], HF.out⟩
        · go_upto_if 61 with (fail)
          go_cut [] (fun wx => ∃ (M' : List (Nat × Nat)) (L' : List Tm.Row) (last' : Nat), Tm.Ls w wx P w.heap.size hb (.slice oa m oc) (M.map (·.1)) (Tm.held M) M' L' last' (k + 1) ∧ Tm.Step M M' K k true)
          case first =>
            have hacc : Below W.heap.size W W.drew := (Below.refl _ _).drew
            obtain ⟨e0, e1, e2, e3, e4, e5, e6, e7, e8, e9, e10⟩ := HC.out _ hacc
            have hcH := HHD.out _ hacc
            by_cases hin : K ∈ M.map (·.1)
            · have hH1 : decide ((H : Int) > 0) = true := by
                rw [HH.out.1]
                exact decide_eq_true (by have := Tm.held_mem hin; omega)
              have hH2 : decide ((0 : Int) < (H : Int)) = true := hH1
              have hH3 : decide (0 < H) = true := by
                exact decide_eq_true (by have := of_decide_eq_true hH1; omega)
              have KD := Lib.hid (KDEL.out W.drew hacc 0 (.inl ⟨hin, rfl⟩))
              clear hin KSET KDEL HC HHD hacc
              go_wp2_with fail
              go_region_with (go_at_call 7
                              refine KD.out.mono ?_
                              rintro x w5 ⟨rfl, M5, L5, last5, hl5, hs5⟩
                              have hcH := hl5.hd.cell HK.out.1
                              rw [← HH.out.1] at hcH
                              have HP5 := Lib.hid (And.intro hl5 hs5)
                              clear hl5 hs5)
              all_goals
                go_wp2_with fail
                go_meet
                exact ⟨M5, L5, last5, HP5.out.1, HP5.out.2⟩
            · have hH1 : decide ((H : Int) > 0) = false := by
                rw [HH.out.1]
                rw [Tm.held_none hin]; decide
              have hH2 : decide ((0 : Int) < (H : Int)) = false := hH1
              have hH3 : decide (0 < H) = false := by
                exact decide_eq_false (by have := of_decide_eq_false hH1; omega)
              have KD := Lib.hid (KDEL.out W.drew hacc 7 (.inr ⟨hin, rfl⟩))
              clear hin KSET KDEL HC HHD hacc
              go_wp2_with fail
              go_region_with (go_at_call 7
                              refine KD.out.mono ?_
                              rintro x w5 ⟨rfl, M5, L5, last5, hl5, hs5⟩
                              have hcH := hl5.hd.cell HK.out.1
                              rw [← HH.out.1] at hcH
                              have HP5 := Lib.hid (And.intro hl5 hs5)
                              clear hl5 hs5)
              all_goals
                go_wp2_with fail
                go_meet
                exact ⟨M5, L5, last5, HP5.out.1, HP5.out.2⟩
          case rest =>
            obtain ⟨M', L', last', hl6, hstep⟩ := hcut
            obtain ⟨w6, hw6⟩ : ∃ z, z = wc := ⟨_, rfl⟩
            subst hw6
            obtain ⟨k1, hk1⟩ : ∃ z, z = k + 1 := ⟨_, rfl⟩
            have hw7 : IntKind.i64.wrap ((k : Int) + 1) = (k1 : Int) := by rw [IntKind.wrap_i64]; omega
            have hc6 := hl6.hd.cell hK
            rw [← HH.out.1] at hc6
            obtain ⟨W3, hW3, hfz3, hHb3, hz3, ho3, hb3⟩ := hl6.hd.put K hK k1
            have hl7 := hl6.put hHb3 hz3 ho3 (hb3 _ _ hl6.bel hl6.lo.2.2)
            have hc7 : W3.cell? ⟨hb, K, none⟩ = some (.int .i64 (k1 : Nat)) := by
              have := hl7.hd.cell hK
              rwa [if_pos rfl] at this
            obtain ⟨W4, hW4, hfz4, hHb4, hz4, ho4, hb4⟩ := hl7.hd.put K hK 0
            have hl8 := hl7.put hHb4 hz4 ho4 (hb4 _ _ hl7.bel hl7.lo.2.2)
            have hc8 : W4.cell? ⟨hb, K, none⟩ = some (.int .i64 0) := by
              have := hl8.hd.cell hK
              rwa [if_pos rfl] at this
            have hW4 : W3.setCell ⟨hb, K, none⟩ (.int .i64 0) = W4 := hW4
            have hg2 := hgx W3 hl7.bel
            have hF : ∀ q, Tm.held M' q = (fun y => if y = K then 0 else if y = K then k1 else Tm.held M y) q := fun q => by
              rw [hstep.held q, hk1]
              by_cases e : q = K
              · simp [e]
              · simp [e]
            have HS6 := Lib.hid (And.intro hstep hF)
            have HL8 := Lib.hid hl8
            have hk10 : ((k1 : Int) == 0) = false := by
              rw [beq_eq_false_iff_ne]
              omega
            have hk11 : decide ((k1 : Int) > 0) = true := decide_eq_true (by omega)
            have hk12 : decide ((0 : Int) < (k1 : Int)) = true := hk11
            have hk13 : decide (0 < k1) = true := decide_eq_true (by omega)
            have hk14 : (k1 == 0) = false := by
              rw [beq_eq_false_iff_ne]
              omega
            have HK1 := Lib.hid hk1
            clear KSET KDEL HC HHD e0 e1 e2 e3 e4 e5 e6 e7 e8 e9 e10 hl6 hstep hF hHb3 hz3 ho3 hb3 hl7 hk1 hHb4 hz4 ho4 hb4 hl8
            by_cases hin : K ∈ M.map (·.1)
            · have hH1 : decide ((H : Int) > 0) = true := by
                rw [HH.out.1]
                exact decide_eq_true (by have := Tm.held_mem hin; omega)
              have hH2 : decide ((0 : Int) < (H : Int)) = true := hH1
              have hH3 : decide (0 < H) = true := by
                exact decide_eq_true (by have := of_decide_eq_true hH1; omega)
              have HIN2 := Lib.hid hin
              clear hin
              have KW := Tm.without_any (hb + 1) (.slice oa m oc) (M.map (·.1)) K W4 (by have := HL8.out.row; rwa [HM.out] at this ⊢) (by have := HM2.out; have := HM.out; omega)
              go_wp2_with fail
              refine KW.mono ?_
              rintro x w7 ⟨v7, rfl, hown7, hb7⟩
              have hfin := (HL8.out.order (o' := v7) (Tm.row_low hown7 (by have := HL8.out.hb_lt; omega)) hb7.size (fun q hq _ => hb7.block q hq) (fun q hq => .inr (hown7.lt q hq).1) (HL8.out.bel.trans (hb7.mono HL8.out.bel.size))).done (by rw [HS6.out.1.ord]; unfold Tm.ord; rw [if_pos rfl]) HS6.out.2 (rfl : k + 1 = k + 1)
              have HF := Lib.hid hfin
              obtain ⟨va7, vc7, rfl⟩ := Tm.sl_of hown7
              clear hown7 hb7 hfin KW
              go_wp2_with fail
              go_roundg (gk - 1)
              case measure => omega
              case rel => exact ⟨k + 1, M', L', last', by omega, by rw [← HK1.out], HF.out⟩
            · have hH1 : decide ((H : Int) > 0) = false := by
                rw [HH.out.1]
                rw [Tm.held_none hin]; decide
              have hH2 : decide ((0 : Int) < (H : Int)) = false := hH1
              have hH3 : decide (0 < H) = false := by
                exact decide_eq_false (by have := of_decide_eq_false hH1; omega)
              have HIN2 := Lib.hid hin
              clear hin
              go_wp2_with fail
              go_roundg (gk - 1)
              case measure => omega
              case rel =>
                have hfin := HL8.out.done (by rw [HS6.out.1.ord]; unfold Tm.ord; rw [if_pos rfl, Tm.filter_out HIN2.out]) HS6.out.2 (rfl : k + 1 = k + 1)
                exact ⟨k + 1, M', L', last', by omega, by rw [← HK1.out], hfin⟩
    · have hkG2 : k = G := by omega
      subst hkG2
      have hst := HL.out.st
      have hlen := HL.out.rel.len
      have hLm : L.length = m := by rw [hlen, ← HM.out, List.length_map]
      have KK := Tm.Keys_any hst (by have := HM2.out; omega) (by have := HL.out.la; omega)
      have HLM := Lib.hid hLm
      clear hst hlen hLm
      have hexit : decide (k < N) = false ∨ (decide (k < N) = true ∧ decide ((k : Int) < 300) = false) := by
        rcases hG3 with h | ⟨h, h2⟩
        · exact .inl (decide_eq_false (by omega))
        · exact .inr ⟨decide_eq_true (by omega), decide_eq_false (by omega)⟩
      rcases hexit with d1 | ⟨d1, d2⟩
      all_goals
        go_wp2_with fail
        refine KK.mono ?_
        rintro x w5 ⟨v, rfl, hlin, hb5⟩
        obtain ⟨va, vc, hv, _, _⟩ := Tr.Sl.slice hlin
        rw [List.length_map, HLM.out] at hv
        subst hv
        have hl5 := HL.out.below hb5
        have KL := Tm.Len_any hl5.st
        rw [HLM.out] at KL
        have HL5 := Lib.hid hl5
        have HLIN := Lib.hid hlin
        have hmm : ((m : Int) != (m : Int)) = false := by simp
        have HST5 : Hid (∃ k2 : Nat, k2 + m = m ∧ Value.int .i64 0 = .int .i64 k2 ∧ Below w5.heap.size w5 w5) := Lib.hid ⟨0, by omega, rfl, Below.refl _ _⟩
        clear hb5 hlin hl5 KK
        go_wp2_with fail
        refine KL.mono ?_
        rintro x w55 ⟨rfl, rfl⟩
        clear KL
        go_wp2_with fail
        go_loopg [14] m (fun g i wr => ∃ k2 : Nat, k2 + g = m ∧ i = .int .i64 k2 ∧ Below w55.heap.size w55 wr)
        case atStart => exact HST5.out
        case round =>
          obtain ⟨k2, hkg2, rfl, hb6⟩ := hrel
          obtain ⟨w6, hw6⟩ : ∃ z, z = wr := ⟨_, rfl⟩
          subst hw6
          clear HST5
          have HB6 := Lib.hid hb6
          clear hb6
          by_cases hk2 : k2 < m
          · have hk2L : k2 < L.length := by rw [HLM.out]; exact hk2
            obtain ⟨K, i0, hM2, hnm, hkey, hval, hK, hi0⟩ := HL5.out.rel.at (List.getElem?_eq_getElem hk2L)
            have hl6 := HL5.out.below HB6.out
            have hT6 := HT.out.below hl6.bel
            obtain ⟨kb2, ko2, rfl, hx1, hx2, hx3, hkblt, _, hall⟩ := Tr.Sl.at HLIN.out (by rw [List.length_map]; omega)
            clear hx1
            have hmapk : (L.map (·.key))[k2]? = some (Tm.keyT K) := by rw [List.getElem?_map, List.getElem?_eq_getElem hk2L, Option.map_some, hkey]
            obtain ⟨Ck, hIk, hMk⟩ := Tr.All.at _ _ _ hall k2 (Tm.keyT K) hmapk
            rw [Nat.mul_comm 11 k2] at hMk
            have hIk0 := hIk
            obtain ⟨hc, lc, ca3, ca4, ca6, ca7, ca9, ca10, cn3, cn4, cn6, cn7, cn9, cn10, cc3, cc4, cc6, cc7, cc9, cc10, eCk, etk, hHk, hLk⟩ := Tr.In.form2 hIk
            unfold Tm.keyT at etk
            simp only [Tr.mk.injEq] at etk
            obtain ⟨rfl, rfl⟩ := etk
            obtain ⟨lb, lo, rfl, hn1, hlc1, hlc2, hlblt, _, hallk⟩ := Tr.Sl.at hLk Nat.zero_lt_one
            have hn1' : cn10 = 1 := hn1
            clear hn1
            subst hn1'
            obtain ⟨Cc, hIc, hMc⟩ := Tr.All.at _ _ _ hallk 0 (Tm.chT K) rfl
            obtain ⟨hd2, ld2, da3, da4, da6, da7, da9, da10, dn3, dn4, dn6, dn7, dn9, dn10, dc3, dc4, dc6, dc7, dc9, dc10, eCc, etc, hHc, hLc⟩ := Tr.In.form2 hIc
            unfold Tm.chT at etc
            simp only [Tr.mk.injEq] at etc
            obtain ⟨rfl, rfl⟩ := etc
            subst eCk
            subst eCc
            have hMk6 := hMk.kept (S := fun _ => True) (Tr.Kept.all HB6.out (Nat.le_refl _)) trivial hkblt
            have hMc6 := hMc.kept (S := fun _ => True) (Tr.Kept.all HB6.out (Nat.le_refl _)) trivial hlblt
            have hpos : ∃ x, Tm.pos (L.map (·.e)) (Tm.nmK K) = some (k2, x) ∧ L[k2].e.x = x := by
              cases hp : Tm.pos (L.map (·.e)) (Tm.nmK K) with
              | none => exact absurd (List.mem_map.2 ⟨_, List.mem_of_getElem? hM2, rfl⟩) ((HL5.out.rel.miss hK).1 hp)
              | some q =>
                obtain ⟨j, x⟩ := q
                obtain ⟨row, h1, h2, h3⟩ := Tm.pos_rows hp
                have hj : j = k2 := by
                  have hpw := List.pairwise_iff_getElem.1 HL5.out.st.nms
                  obtain ⟨hjl, hje⟩ := List.getElem?_eq_some_iff.1 h1
                  rcases Nat.lt_trichotomy j k2 with hlt | heq | hgt
                  · exact absurd (by rw [hje, h2, hnm]) (hpw j k2 hjl hk2L hlt)
                  · exact heq
                  · exact absurd (by rw [hje, h2, hnm]) (hpw k2 j hk2L hjl hgt)
                subst hj
                have hrow : row = L[j] := by
                  obtain ⟨_, hje⟩ := List.getElem?_eq_some_iff.1 h1
                  exact hje.symm
                exact ⟨x, rfl, by rw [← hrow, h3]⟩
            obtain ⟨X, hpos, hX⟩ := hpos
            have KG := Tm.Get_found hl6.st (Tr.In.mono (fun _ _ => trivial) _ _ (Tr.In.below hIk0 HB6.out (Nat.le_refl _))) hT6 (Tm.names_key hK P (.int .i64 last) (.map (some w.heap.size)) [] (fun t ht => by simp at ht)) hpos (List.getElem?_eq_getElem hk2L) hX
            rw [hval] at KG
            have HMC := Lib.hid (And.intro hMk6 hMc6)
            obtain ⟨e0, e1, e2, e3, e4, e5, e6, e7, e8, e9, e10⟩ := Tr.Mem.cells hMk6
            have hlt2 : kb2 < w6.heap.size ∧ lb < w6.heap.size := ⟨Nat.lt_of_lt_of_le hkblt HB6.out.size, Nat.lt_of_lt_of_le hlblt HB6.out.size⟩
            have HLT2 := Lib.hid hlt2
            have HL6 := Lib.hid hl6
            have hheld := Tm.held_at HL5.out.rel.nd hM2
            have HFACT := Lib.hid (And.intro hM2 (And.intro hK (And.intro hi0 hheld)))
            clear hM2 hnm hkey hval hT6 hx2 hx3 hkblt hall hmapk hIk hMk hIk0 hHk hLk hlc1 hlc2 hlblt hallk hIc hMc hHc hLc hMk6 hMc6 hpos hX hl6 hlt2 hheld
            go_wp2_with fail
            refine KG.mono ?_
            rintro x w7 ⟨v7, rfl, hI7, hb7⟩
            obtain ⟨C7, rfl⟩ := hI7.agg
            obtain ⟨h7, l7, qa3, qa4, qa6, qa7, qa9, qa10, qn3, qn4, qn6, qn7, qn9, qn10, qc3, qc4, qc6, qc7, qc9, qc10, eC7, et7, hH7, hL7⟩ := Tr.In.form2 hI7
            unfold Tm.chT at et7
            simp only [Tr.mk.injEq] at et7
            obtain ⟨rfl, rfl⟩ := et7
            subst eC7
            unfold Tr.cells
            have hl7 := HL6.out.below hb7
            have hbx : ∀ O, Below w7.heap.size w7 (w7.alloc O) := fun O => (Below.refl _ _).alloc (Nat.le_refl _) O
            have HFIN := Lib.hid (fun O => HB6.out.trans ((hb7.trans ((hbx O).mono hb7.size)).mono HB6.out.size))
            have hc8 := fun O => (hl7.below (hbx O)).hd.cell HFACT.out.2.1
            have hcx := HFACT.out.2.2.2
            obtain ⟨H, hH⟩ : ∃ z, z = Tm.held M K := ⟨_, rfl⟩
            rw [← hH] at hc8 hcx
            have hw9 : IntKind.i64.wrap ((H : Int) - 1) = (i0 : Int) := by
              have := HFACT.out.2.2.1
              rw [IntKind.wrap_i64, hcx]
              omega
            have hrow7 := hl7.row
            rw [HM.out] at hrow7
            obtain ⟨og, ox, rfl, hox, hoc1, hoc2, hocell, hoglt, _⟩ := Tm.row_int hrow7 hk2
            clear hrow7
            have hoxK : ox = K := by
              rw [List.getElem?_map, HFACT.out.1] at hox
              simp only [Option.map_some, Option.some.injEq] at hox
              exact hox.symm
            subst hoxK
            have hoc := fun O => ((hbx O).cell (p := ⟨og, k2, none⟩) hoglt).trans hocell
            have hMk8 := fun O => HMC.out.1.kept (S := fun _ => True) (Tr.Kept.all (hb7.trans ((hbx O).mono hb7.size)) (Nat.le_refl _)) trivial HLT2.out.1
            have hMc8 := fun O => HMC.out.2.kept (S := fun _ => True) (Tr.Kept.all (hb7.trans ((hbx O).mono hb7.size)) (Nat.le_refl _)) trivial HLT2.out.2
            have hf10 : ∀ O, (w7.alloc O).cell? ⟨kb2, ko2 + k2 * 11 + 10, none⟩ = some (.slice (some ⟨lb, lo, none⟩) 1 cc10) := fun O => (Tr.Mem.cells (hMk8 O)).2.2.2.2.2.2.2.2.2.2
            have hf1 : ∀ O, (w7.alloc O).cell? ⟨lb, lo + 1, none⟩ = some (.int .i64 ((ox : Nat) : Int)) := fun O => (Tr.Mem.cells (hMc8 O)).2.1
            have hK256 := HFACT.out.2.1
            clear hI7 hH7 hL7 hb7 hl7 hbx hox hoc1 hoc2 hocell hoglt hMk8 hMc8 hH hcx KG e0 e1 e2 e3 e4 e5 e6 e7 e8 e9 e10
            go_wp2_with fail
            go_quiet (fail)
            go_wp2_with fail
            go_roundg (gk - 1)
            case measure => omega
            case rel =>
              have hmb := HM2.out
              exact ⟨k2 + 1, by omega, by first | rfl | go_num | (simp; done) | (simp; unfold wrap64; omega), Tm.drewN (HFIN.out _) _⟩
          · have hk2m : k2 = m := by omega
            subst hk2m
            have HBE := Lib.hid (HL5.out.bel.trans (HB6.out.mono HL5.out.bel.size))
            go_wp2_with fail
            go_ret
            exact ⟨rfl, HBE.out⟩
end Go.Proofs.YtdjllmogejkimaaGreatDoor
