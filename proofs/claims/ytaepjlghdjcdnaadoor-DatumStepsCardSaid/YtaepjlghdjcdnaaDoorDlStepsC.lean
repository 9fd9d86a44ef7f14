/-
  The law DatumSteps, walked.
-/
import Derived.Outline
import Derived.Test.YtaepjlghdjcdnaaDoorCg
import Derived.Test.YtaepjlghdjcdnaaDoorSmSameC
namespace Go.Proofs.YtaepjlghdjcdnaaDoor
open Go.RowKit
set_option linter.unusedVariables false
set_option linter.unusedSimpArgs false

theorem Dr.Alls.det {l : List UInt8} {p : Nat} {ts : List Tr} {A B : Dr.AA} (h : Dr.Alls l p ts A) : ∀ {B : Dr.AA}, Dr.Alls l p ts B → A = B := by
  induction h with
  | stop h => intro B k; cases k with
    | stop => rfl
    | err h2 he => have := h.det h2; cases this; exact absurd rfl he
    | step h2 => have := h.det h2; cases this
  | err h he => intro B k; cases k with
    | stop h2 => have := h.det h2; cases this; exact absurd rfl he
    | err h2 => have := h.det h2; cases this; rfl
    | step h2 => have := h.det h2; cases this
  | step h k ih => intro B k; cases k with
    | stop h2 => have := h.det h2; cases this
    | err h2 => have := h.det h2; cases this
    | step h2 k2 => have := h.det h2; cases this; exact ih k2
theorem Dr.Alls.pre {l : List UInt8} {p : Nat} {ts : List Tr} {A : Dr.AA} (h : Dr.Alls l p ts A) : ∀ L, A = .ok L → ∃ r, L = ts ++ r := by
  induction h with
  | stop h => intro L e; cases e; exact ⟨[], by simp⟩
  | err h he => intro L e; cases e
  | @step p ts t n A h k ih =>
    intro L e
    obtain ⟨r, hr⟩ := ih L e
    exact ⟨t :: r, by rw [hr]; simp⟩
theorem Dr.Alls.ats {l : List UInt8} {p : Nat} {ts : List Tr} {A : Dr.AA} {t : Tr} {n : Nat} (h : Dr.One (l.drop p) (.ok t n)) (k : Dr.Alls l (p + n) (ts ++ [t]) A) {L : List Tr} (e : A = .ok L) : L[ts.length]? = some t := by
  obtain ⟨r, hr⟩ := k.pre L e
  rw [hr]
  simp
theorem Dr.AA.errs {l : List UInt8} {p : Nat} {ts : List Tr} {A : Dr.AA} (h : Dr.Alls l p ts A) : ∀ q x, A = .err q x → x = 5 ∨ x = 4 := by
  induction h with
  | stop h => intro q x e; cases e
  | err h he => intro q x e; cases e; rcases h.errs with h | h | h
                · exact .inl h
                · exact absurd h he
                · exact .inr h
  | step h k ih => exact ih
set_option maxHeartbeats 8000000 in
set_option maxRecDepth 1000000 in
theorem Dl.steps_long (s : ByteArray) (w : World) (hs : s.size ≤ 140737488351232) (hlong : 65536 < s.size) (hT : Tr.Tabs w) :
    Calls Tryd.prog 4 #[.string s] w fun e w' => e = .returned (.bool true) ∧ Below w.heap.size w w' := by
  have HT := Lib.hid (show Dr.Tabs w from hT)
  obtain ⟨A, hA⟩ := Dr.Alls.total s.data.toList _ 0 [] (Nat.le_refl _)
  have KA := Lib.hid (show Calls Tryd.prog 8 #[.string s] w (Dr.PostAll w (.err 0 18)) from by
    have := Dr.All_any s w A HT.out hA
    rwa [show Dr.cutA s A = .err 0 18 from if_pos hlong] at this)
  have hsub := Dr.tail_str s 0 (Nat.zero_le _)
  rw [show (⟨(s.data.toList.drop 0).toArray⟩ : ByteArray) = s by simp] at hsub
  obtain ⟨A1, hA1⟩ := Dr.One.total s.data.toList
  have KR := Lib.hid (fun w' (hb : Below w.heap.size w w') => show Calls Tryd.prog 6 #[.string s] w' (Dr.PostOne w' (.err 18)) from by
    have := Dr.DRead_any s w' A1 (Utf8Tabs_below HT.out hb) hA1
    rwa [show Dr.cut s A1 = .err 18 from if_pos hlong] at this)
  have HAW := Lib.hid (fun w' (hb : Below w.heap.size w w') => Dr.awake_any w' (Utf8Tabs_below HT.out hb))
  have hss : (65536 : Int) < (s.size : Int) ∧ (0 : Int) ≤ (s.size : Int) ∧ (s.size : Int) ≤ 140737488351232 := by omega
  obtain ⟨hs1, hs2, hs3⟩ := hss
  clear hT hA hA1 hlong
  go_enter Tryd.func4, Tryd.ntmps4
  go_wp2_with fail
  refine KA.out.mono ?_
  rintro x w1 ⟨rfl, hb1⟩
  have HB1 := Lib.hid hb1
  clear hb1 KA
  go_wp2_with fail
  go_loopw [6, 7] (fun v6 v7 wr => v6 = .int .i64 0 ∧ v7 = .int .i64 0 ∧ Below w.heap.size w wr) (fun _ _ _ => 0)
  case atStart => exact ⟨rfl, rfl, HB1.out⟩
  case round =>
    obtain ⟨rfl, rfl, hbo⟩ := hrel
    obtain ⟨wo, hwo⟩ : ∃ z, z = wr := ⟨_, rfl⟩
    subst hwo
    have HBO := Lib.hid hbo
    clear hbo
    go_wp2_with fail
    refine (HAW.out wo HBO.out).mono ?_
    rintro y w2 ⟨rfl, hb2⟩
    have HB2 := Lib.hid (HBO.out.trans (hb2.mono HBO.out.size))
    have HAC2 := Lib.hid (hb2)
    clear hb2
    go_wp2_with fail
    refine (KR.out w2 HB2.out).mono ?_
    rintro y w3 ⟨rfl, hb3⟩
    have HE := Lib.hid (HB2.out.trans ((hb3.alloc hb3.size (.cells #[.int .i64 0, .int .i64 0, .bool false, .slice none 0 0, .slice none 0 0, .bool false, .slice none 0 0, .slice none 0 0, .string ⟨#[]⟩, .slice none 0 0, .slice none 0 0] 32)).mono HB2.out.size))
    clear hb3
    unfold Dr.voidV
    go_wp2_with fail
    go_ret
    exact ⟨rfl, HE.out⟩
set_option maxHeartbeats 8000000 in
set_option maxRecDepth 1000000 in
theorem Dl.steps_short (s : ByteArray) (w : World) (hshort : s.size ≤ 65536) (hT : Tr.Tabs w) :
    Calls Tryd.prog 4 #[.string s] w fun e w' => e = .returned (.bool true) ∧ Below w.heap.size w w' := by
  have HT := Lib.hid (show Dr.Tabs w from hT)
  obtain ⟨A, hA⟩ := Dr.Alls.total s.data.toList _ 0 [] (Nat.le_refl _)
  have KA := Lib.hid (show Calls Tryd.prog 8 #[.string s] w (Dr.PostAll w A) from by
    have := Dr.All_any s w A HT.out hA
    rwa [show Dr.cutA s A = A from if_neg (by omega)] at this)
  have KR := Lib.hid (fun w' p (A1 : Dr.Ans) (hb : Below w.heap.size w w') (h : Dr.One (s.data.toList.drop p) A1) => show Calls Tryd.prog 6 #[.string ⟨(s.data.toList.drop p).toArray⟩] w' (Dr.PostOne w' A1) from by
    have := Dr.DRead_any ⟨(s.data.toList.drop p).toArray⟩ w' A1 (Utf8Tabs_below HT.out hb) h
    rwa [show Dr.cut ⟨(s.data.toList.drop p).toArray⟩ A1 = A1 from if_neg (by
      show ¬ 65536 < (s.data.toList.drop p).toArray.size
      have : s.data.toList.length = s.size := by simp
      simp only [List.size_toArray, List.length_drop]
      omega)] at this)
  have HAW := Lib.hid (fun w' (hb : Below w.heap.size w w') => Dr.awake_any w' (Utf8Tabs_below HT.out hb))
  have hss : (0 : Int) ≤ (s.size : Int) ∧ (s.size : Int) ≤ 65536 := by omega
  obtain ⟨hs2, hs3⟩ := hss
  have HSL := Lib.hid (show s.data.toList.length = s.size by simp)
  have HA := Lib.hid hA
  have HSH := Lib.hid hshort
  clear hT hA hshort
  cases A with
  | err q x =>
    have hx0 : (x == 0) = false ∧ (x == 11) = false ∧ (x == 18) = false := by rcases Dr.AA.errs HA.out q x rfl with h | h <;> (subst h; exact ⟨rfl, rfl, rfl⟩)
    obtain ⟨hx0, hx11, hx18⟩ := hx0
    have hxn : (x != 0) = true := by rw [bne, hx0]; rfl
    go_enter Tryd.func4, Tryd.ntmps4
    go_wp2_with fail
    refine KA.out.mono ?_
    rintro y w1 ⟨rfl, hb1⟩
    have HB1 := Lib.hid hb1
    clear hb1 KA
    go_wp2_with fail
    go_loopw [6, 7] (fun v6 v7 wr => ∃ (i p : Nat) (ts : List Tr), v6 = .int .i64 (p : Int) ∧ v7 = .int .i64 (i : Int) ∧ i ≤ p ∧ p ≤ s.size ∧ ts.length = i ∧ Dr.Alls s.data.toList p ts (.err q x) ∧ Below w.heap.size w wr) (fun v6 _ _ => s.size - (intOf v6).toNat)
    case atStart => exact ⟨0, 0, [], rfl, rfl, Nat.le_refl _, Nat.zero_le _, rfl, HA.out, HB1.out⟩
    case round =>
      obtain ⟨i, p, ts, rfl, rfl, hip, hps, hti, hal, hbo⟩ := hrel
      obtain ⟨wo, hwo⟩ : ∃ z, z = wr := ⟨_, rfl⟩
      subst hwo
      have HBO := Lib.hid hbo
      have HAL := Lib.hid hal
      have HTI := Lib.hid hti
      have hsub := Dr.tail_str s p hps
      have hpi : (p : Int) ≤ (s.size : Int) ∧ (0 : Int) ≤ (p : Int) ∧ (i : Int) ≤ (s.size : Int) ∧ (0 : Int) ≤ (i : Int) := by omega
      obtain ⟨hpi1, hpi2, hpi3, hpi4⟩ := hpi
      have his : i ≤ s.size := Nat.le_trans hip hps
      have KR1 := Lib.hid (fun A1 h w' hb => KR.out w' p A1 hb h)
      obtain ⟨T, hT⟩ : ∃ z, (⟨(s.data.toList.drop p).toArray⟩ : ByteArray) = z := ⟨_, rfl⟩
      rw [hT] at hsub KR1
      clear hbo hal hti hT
      cases HAL.out with
      | err h he =>
        go_wp2_with fail
        refine (HAW.out wo HBO.out).mono ?_
        rintro y w2 ⟨rfl, hb2⟩
        have HB2 := Lib.hid (HBO.out.trans (hb2.mono HBO.out.size))
        have HAC2 := Lib.hid (hb2)
        clear hb2
        go_wp2_with fail
        refine (KR1.out _ h w2 HB2.out).mono ?_
        rintro y w3 ⟨rfl, hb3⟩
        have HE := Lib.hid (HB2.out.trans ((hb3.alloc hb3.size (.cells #[.int .i64 0, .int .i64 0, .bool false, .slice none 0 0, .slice none 0 0, .bool false, .slice none 0 0, .slice none 0 0, .string ⟨#[]⟩, .slice none 0 0, .slice none 0 0] 32)).mono HB2.out.size))
        clear hb3 h he
        unfold Dr.voidV
        go_wp2_with fail
        go_ret
        exact ⟨rfl, HE.out⟩
      | @step _ _ t n _ h k =>
        have hle := h.ok_le
        rw [List.length_drop, HSL.out] at hle
        have hn1 : (1 : Int) ≤ (n : Int) ∧ (n : Int) ≤ (s.size : Int) - (p : Int) ∧ (p : Int) + (n : Int) ≤ 9223372036854775807 := by omega
        obtain ⟨hn1, hn2, hn3⟩ := hn1
        have t1 : decide ((n : Int) < 1) = false := decide_eq_false (by omega)
        have t2 : decide ((s.size : Int) - (p : Int) < (n : Int)) = false := decide_eq_false (by omega)
        have HK := Lib.hid k
        have HLE := Lib.hid hle
        go_wp2_with fail
        refine (HAW.out wo HBO.out).mono ?_
        rintro y w2 ⟨rfl, hb2⟩
        have HB2 := Lib.hid (HBO.out.trans (hb2.mono HBO.out.size))
        have HAC2 := Lib.hid (hb2)
        clear hb2
        go_wp2_with fail
        refine (KR1.out _ h w2 HB2.out).mono ?_
        rintro y w3 ⟨v, rfl, hI3, hb3⟩
        obtain ⟨C3, rfl⟩ := Dr.in_agg hI3
        obtain ⟨hp, lp, pa3, pa4, pa6, pa7, pa9, pa10, pn3, pn4, pn6, pn7, pn9, pn10, pc3, pc4, pc6, pc7, pc9, pc10, eC, et, _, _⟩ := Tr.In.form2 hI3
        subst eC
        clear et
        unfold Tr.cells at *
        have HE := Lib.hid (fun w' (hb : Below (w3.alloc (.cells #[.int .i64 hp.k, .int .i64 hp.n, .bool hp.s1, .slice pa3 pn3 pc3, .slice pa4 pn4 pc4, .bool hp.s2, .slice pa6 pn6 pc6, .slice pa7 pn7 pc7, .string hp.x, .slice pa9 pn9 pc9, .slice pa10 pn10 pc10] 32)).heap.size (w3.alloc (.cells #[.int .i64 hp.k, .int .i64 hp.n, .bool hp.s1, .slice pa3 pn3 pc3, .slice pa4 pn4 pc4, .bool hp.s2, .slice pa6 pn6 pc6, .slice pa7 pn7 pc7, .string hp.x, .slice pa9 pn9 pc9, .slice pa10 pn10 pc10] 32)) w') => show (∃ (i' p' : Nat) (ts : List Tr), Value.int .i64 ((p : Int) + (n : Int)) = .int .i64 (p' : Int) ∧ Value.int .i64 ((i : Int) + 1) = .int .i64 (i' : Int) ∧ i' ≤ p' ∧ p' ≤ s.size ∧ ts.length = i' ∧ Dr.Alls s.data.toList p' ts (.err q x) ∧ Below w.heap.size w w') ∧ s.size - (intOf (Value.int .i64 ((p : Int) + (n : Int)))).toNat < s.size - (intOf (Value.int .i64 (p : Int))).toNat from by
          have h1 := HLE.out
          have hb4 := HB2.out.trans ((hb3.alloc hb3.size (.cells #[.int .i64 hp.k, .int .i64 hp.n, .bool hp.s1, .slice pa3 pn3 pc3, .slice pa4 pn4 pc4, .bool hp.s2, .slice pa6 pn6 pc6, .slice pa7 pn7 pc7, .string hp.x, .slice pa9 pn9 pc9, .slice pa10 pn10 pc10] 32)).mono HB2.out.size)
          refine ⟨⟨i + 1, p + n, ts ++ [t], by rw [show ((p + n : Nat) : Int) = (p : Int) + (n : Int) by omega], by rw [show ((i + 1 : Nat) : Int) = (i : Int) + 1 by omega], by omega, by omega, by rw [List.length_append, HTI.out]; rfl, HK.out, hb4.trans (hb.mono hb4.size)⟩, ?_⟩
          simp only [intOf]
          omega)
        have HE1 := Lib.hid (HE.out _ (Below.drew (Below.refl _ _)))
        clear hb3 hI3 h k hle HE
        go_wp2_with fail
        go_region
        all_goals
          go_wp2_with fail
          exact HE1.out
  | ok L =>
    go_enter Tryd.func4, Tryd.ntmps4
    go_wp2_with fail
    refine KA.out.mono ?_
    rintro y w1 ⟨lv, rfl, hL1, hb1⟩
    obtain ⟨ad, cap, rfl, _, _⟩ := Tr.Sl.slice hL1
    obtain ⟨N, hN⟩ : ∃ z, L.length = z := ⟨_, rfl⟩
    have HB1 := Lib.hid hb1
    have HL1 := Lib.hid (Dr.lin_top hL1)
    have HN := Lib.hid hN
    rw [hN]
    clear hb1 KA hL1 hN
    go_wp2_with fail
    go_loopw [6, 7] (fun v6 v7 wr => ∃ (i p : Nat) (ts : List Tr), v6 = .int .i64 (p : Int) ∧ v7 = .int .i64 (i : Int) ∧ i ≤ p ∧ p ≤ s.size ∧ ts.length = i ∧ Dr.Alls s.data.toList p ts (.ok L) ∧ Below w1.heap.size w1 wr) (fun v6 _ _ => s.size - (intOf v6).toNat)
    case atStart => exact ⟨0, 0, [], rfl, rfl, Nat.le_refl _, Nat.zero_le _, rfl, HA.out, Below.refl _ _⟩
    case round =>
      obtain ⟨i, p, ts, rfl, rfl, hip, hps, hti, hal, hbo1⟩ := hrel
      obtain ⟨wo, hwo⟩ : ∃ z, z = wr := ⟨_, rfl⟩
      subst hwo
      have HBO1 := Lib.hid hbo1
      have HBO := Lib.hid (HB1.out.trans (hbo1.mono HB1.out.size))
      have HAL := Lib.hid hal
      have HTI := Lib.hid hti
      have hsub := Dr.tail_str s p hps
      have hpi : (p : Int) ≤ (s.size : Int) ∧ (0 : Int) ≤ (p : Int) ∧ (i : Int) ≤ (s.size : Int) ∧ (0 : Int) ≤ (i : Int) := by omega
      obtain ⟨hpi1, hpi2, hpi3, hpi4⟩ := hpi
      have his : i ≤ s.size := Nat.le_trans hip hps
      have KR1 := Lib.hid (fun A1 h w' hb => KR.out w' p A1 hb h)
      obtain ⟨T, hT⟩ : ∃ z, (⟨(s.data.toList.drop p).toArray⟩ : ByteArray) = z := ⟨_, rfl⟩
      rw [hT] at hsub KR1
      clear hbo1 hal hti hT
      cases HAL.out with
      | stop h =>
        have hiN : i = N := HTI.out.symm.trans HN.out
        subst hiN
        go_wp2_with fail
        refine (HAW.out wo HBO.out).mono ?_
        rintro y w2 ⟨rfl, hb2⟩
        have HB2 := Lib.hid (HBO.out.trans (hb2.mono HBO.out.size))
        have HAC2 := Lib.hid (hb2)
        clear hb2
        go_wp2_with fail
        refine (KR1.out _ h w2 HB2.out).mono ?_
        rintro y w3 ⟨rfl, hb3⟩
        have HE := Lib.hid (HB2.out.trans ((hb3.alloc hb3.size (.cells #[.int .i64 0, .int .i64 0, .bool false, .slice none 0 0, .slice none 0 0, .bool false, .slice none 0 0, .slice none 0 0, .string ⟨#[]⟩, .slice none 0 0, .slice none 0 0] 32)).mono HB2.out.size))
        clear hb3 h
        unfold Dr.voidV
        go_wp2_with fail
        go_ret
        exact ⟨rfl, HE.out⟩
      | @step _ _ t n _ h k =>
        have hle := h.ok_le
        rw [List.length_drop, HSL.out] at hle
        have hn1 : (1 : Int) ≤ (n : Int) ∧ (n : Int) ≤ (s.size : Int) - (p : Int) ∧ (p : Int) + (n : Int) ≤ 9223372036854775807 := by omega
        obtain ⟨hn1, hn2, hn3⟩ := hn1
        have t1 : decide ((n : Int) < 1) = false := decide_eq_false (by omega)
        have t2 : decide ((s.size : Int) - (p : Int) < (n : Int)) = false := decide_eq_false (by omega)
        have hat := Dr.Alls.ats h k rfl
        rw [HTI.out] at hat
        have hiN : i < N := by
          have := (List.getElem?_eq_some_iff.1 hat).1
          rw [HN.out] at this
          exact this
        have hiN2 : (i : Int) < (N : Int) := by omega
        have t3 : decide ((N : Int) ≤ (i : Int)) = false := decide_eq_false (by omega)
        have t4 : decide (N ≤ i) = false := decide_eq_false (by omega)
        have HK := Lib.hid k
        have HLE := Lib.hid hle
        have hL := HL1.out
        obtain ⟨bL, off, rfl, hNN, _, _, hblt, hSb, hall⟩ := Tr.Sl.at hL (by rw [HN.out]; omega)
        clear hNN
        obtain ⟨C5, hI5, hM5⟩ := Tr.All.at _ _ _ hall i t hat
        rw [Nat.mul_comm 11 i] at hM5
        obtain ⟨hq, lq, qa3, qa4, qa6, qa7, qa9, qa10, qn3, qn4, qn6, qn7, qn9, qn10, qc3, qc4, qc6, qc7, qc9, qc10, eC, et, _, _⟩ := Tr.In.form2 hI5
        subst eC
        clear et
        unfold Tr.cells at *
        have HM5 := Lib.hid (fun w' (hb : Below w1.heap.size w1 w') => Tr.Mem.kept (S := fun _ => True) hM5 (Tr.Kept.all hb (Nat.le_refl _)) trivial hblt)
        have HI5 := Lib.hid (fun w' (hb : Below w1.heap.size w1 w') => Tr.In.below hI5 hb (Nat.le_refl _))
        clear hL hblt hSb hall hI5 hM5 hat
        go_wp2_with fail
        refine (HAW.out wo HBO.out).mono ?_
        rintro y w2 ⟨rfl, hb2⟩
        have HB2 := Lib.hid (HBO.out.trans (hb2.mono HBO.out.size))
        have HAC2 := Lib.hid (hb2)
        clear hb2
        go_wp2_with fail
        refine (KR1.out _ h w2 HB2.out).mono ?_
        rintro y w3 ⟨v, rfl, hI3, hb3⟩
        obtain ⟨C3, rfl⟩ := Dr.in_agg hI3
        obtain ⟨hp, lp, pa3, pa4, pa6, pa7, pa9, pa10, pn3, pn4, pn6, pn7, pn9, pn10, pc3, pc4, pc6, pc7, pc9, pc10, eC, et, _, _⟩ := Tr.In.form2 hI3
        subst eC
        clear et
        unfold Tr.cells at *
        obtain ⟨w4, hw4⟩ : ∃ z, w3.alloc (.cells #[.int .i64 hp.k, .int .i64 hp.n, .bool hp.s1, .slice pa3 pn3 pc3, .slice pa4 pn4 pc4, .bool hp.s2, .slice pa6 pn6 pc6, .slice pa7 pn7 pc7, .string hp.x, .slice pa9 pn9 pc9, .slice pa10 pn10 pc10] 32) = z := ⟨_, rfl⟩
        have hq4 : w4.heap[w3.heap.size]? = some (.cells #[.int .i64 hp.k, .int .i64 hp.n, .bool hp.s1, .slice pa3 pn3 pc3, .slice pa4 pn4 pc4, .bool hp.s2, .slice pa6 pn6 pc6, .slice pa7 pn7 pc7, .string hp.x, .slice pa9 pn9 pc9, .slice pa10 pn10 pc10] 32 (0, 0)) := by rw [← hw4]; exact heap_alloc_new w3 _
        have hal4 : Below w3.heap.size w3 w4 := by rw [← hw4]; exact (Below.refl _ _).alloc (Nat.le_refl _) _
        have HB4 := Lib.hid (show Below w1.heap.size w1 w4 from HBO1.out.trans ((HAC2.out.trans ((hb3.trans (hal4.mono hb3.size)).mono HAC2.out.size)).mono HBO1.out.size))
        have HQ4 := Lib.hid hq4
        have HI3 := Lib.hid (Tr.In.below hI3 hal4 (Nat.le_refl _))
        have HSS := Lib.hid (fun w' (hb : Below w4.heap.size w4 w') => show (w'.cell? ⟨w3.heap.size, 0, none⟩ = some (.int .i64 hp.k) ∧ w'.cell? ⟨w3.heap.size, 1, none⟩ = some (.int .i64 hp.n) ∧ w'.cell? ⟨w3.heap.size, 2, none⟩ = some (.bool hp.s1) ∧ w'.cell? ⟨w3.heap.size, 3, none⟩ = some (.slice pa3 pn3 pc3) ∧ w'.cell? ⟨w3.heap.size, 4, none⟩ = some (.slice pa4 pn4 pc4) ∧ w'.cell? ⟨w3.heap.size, 5, none⟩ = some (.bool hp.s2) ∧ w'.cell? ⟨w3.heap.size, 6, none⟩ = some (.slice pa6 pn6 pc6) ∧ w'.cell? ⟨w3.heap.size, 7, none⟩ = some (.slice pa7 pn7 pc7) ∧ w'.cell? ⟨w3.heap.size, 8, none⟩ = some (.string hp.x) ∧ w'.cell? ⟨w3.heap.size, 9, none⟩ = some (.slice pa9 pn9 pc9) ∧ w'.cell? ⟨w3.heap.size, 10, none⟩ = some (.slice pa10 pn10 pc10)) ∧ (w'.cell? ⟨bL, off + i * 11, none⟩ = some (.int .i64 hq.k) ∧ w'.cell? ⟨bL, off + i * 11 + 1, none⟩ = some (.int .i64 hq.n) ∧ w'.cell? ⟨bL, off + i * 11 + 2, none⟩ = some (.bool hq.s1) ∧ w'.cell? ⟨bL, off + i * 11 + 3, none⟩ = some (.slice qa3 qn3 qc3) ∧ w'.cell? ⟨bL, off + i * 11 + 4, none⟩ = some (.slice qa4 qn4 qc4) ∧ w'.cell? ⟨bL, off + i * 11 + 5, none⟩ = some (.bool hq.s2) ∧ w'.cell? ⟨bL, off + i * 11 + 6, none⟩ = some (.slice qa6 qn6 qc6) ∧ w'.cell? ⟨bL, off + i * 11 + 7, none⟩ = some (.slice qa7 qn7 qc7) ∧ w'.cell? ⟨bL, off + i * 11 + 8, none⟩ = some (.string hq.x) ∧ w'.cell? ⟨bL, off + i * 11 + 9, none⟩ = some (.slice qa9 qn9 qc9) ∧ w'.cell? ⟨bL, off + i * 11 + 10, none⟩ = some (.slice qa10 qn10 qc10)) from
          ⟨Dr.cells11 ((hb.block w3.heap.size (Array.getElem?_eq_some_iff.1 HQ4.out).1).trans HQ4.out), Tr.Mem.cells (HM5.out w' (HB4.out.trans (hb.mono HB4.out.size)))⟩)
        have KS := Lib.hid (fun w' (hb : Below w4.heap.size w4 w') => Sm.same t _ _ _ _ w' (Tr.In.below HI3.out hb (Nat.le_refl _)) (HI5.out w' (HB4.out.trans (hb.mono HB4.out.size))))
        have HE := Lib.hid (fun w' (hb : Below w4.heap.size w4 w') => show (∃ (i' p' : Nat) (ts : List Tr), Value.int .i64 ((p : Int) + (n : Int)) = .int .i64 (p' : Int) ∧ Value.int .i64 ((i : Int) + 1) = .int .i64 (i' : Int) ∧ i' ≤ p' ∧ p' ≤ s.size ∧ ts.length = i' ∧ Dr.Alls s.data.toList p' ts (.ok L) ∧ Below w1.heap.size w1 w') ∧ s.size - (intOf (Value.int .i64 ((p : Int) + (n : Int)))).toNat < s.size - (intOf (Value.int .i64 (p : Int))).toNat from by
          have h1 := HLE.out
          refine ⟨⟨i + 1, p + n, ts ++ [t], by rw [show ((p + n : Nat) : Int) = (p : Int) + (n : Int) by omega], by rw [show ((i + 1 : Nat) : Int) = (i : Int) + 1 by omega], by omega, by omega, by rw [List.length_append, HTI.out]; rfl, HK.out, HB4.out.trans (hb.mono HB4.out.size)⟩, ?_⟩
          simp only [intOf]
          omega)
        clear hb3 hI3 h k hle hq4 hal4
        go_wp2_with fail
        have hkeep := HSS.out w4.drew (Below.drew (Below.refl _ _))
        have hwr : IntKind.i64.wrap ((s.size : Int) - (p : Int)) = (s.size : Int) - (p : Int) := by rw [IntKind.wrap_i64]; omega
        go_region_held3 (fun w' => (w'.cell? ⟨w3.heap.size, 0, none⟩ = some (.int .i64 hp.k) ∧ w'.cell? ⟨w3.heap.size, 1, none⟩ = some (.int .i64 hp.n) ∧ w'.cell? ⟨w3.heap.size, 2, none⟩ = some (.bool hp.s1) ∧ w'.cell? ⟨w3.heap.size, 3, none⟩ = some (.slice pa3 pn3 pc3) ∧ w'.cell? ⟨w3.heap.size, 4, none⟩ = some (.slice pa4 pn4 pc4) ∧ w'.cell? ⟨w3.heap.size, 5, none⟩ = some (.bool hp.s2) ∧ w'.cell? ⟨w3.heap.size, 6, none⟩ = some (.slice pa6 pn6 pc6) ∧ w'.cell? ⟨w3.heap.size, 7, none⟩ = some (.slice pa7 pn7 pc7) ∧ w'.cell? ⟨w3.heap.size, 8, none⟩ = some (.string hp.x) ∧ w'.cell? ⟨w3.heap.size, 9, none⟩ = some (.slice pa9 pn9 pc9) ∧ w'.cell? ⟨w3.heap.size, 10, none⟩ = some (.slice pa10 pn10 pc10)) ∧ (w'.cell? ⟨bL, off + i * 11, none⟩ = some (.int .i64 hq.k) ∧ w'.cell? ⟨bL, off + i * 11 + 1, none⟩ = some (.int .i64 hq.n) ∧ w'.cell? ⟨bL, off + i * 11 + 2, none⟩ = some (.bool hq.s1) ∧ w'.cell? ⟨bL, off + i * 11 + 3, none⟩ = some (.slice qa3 qn3 qc3) ∧ w'.cell? ⟨bL, off + i * 11 + 4, none⟩ = some (.slice qa4 qn4 qc4) ∧ w'.cell? ⟨bL, off + i * 11 + 5, none⟩ = some (.bool hq.s2) ∧ w'.cell? ⟨bL, off + i * 11 + 6, none⟩ = some (.slice qa6 qn6 qc6) ∧ w'.cell? ⟨bL, off + i * 11 + 7, none⟩ = some (.slice qa7 qn7 qc7) ∧ w'.cell? ⟨bL, off + i * 11 + 8, none⟩ = some (.string hq.x) ∧ w'.cell? ⟨bL, off + i * 11 + 9, none⟩ = some (.slice qa9 qn9 qc9) ∧ w'.cell? ⟨bL, off + i * 11 + 10, none⟩ = some (.slice qa10 qn10 qc10)))
          (first | exact hkeep)
          (first
            | (go_at_call 7
               refine (KS.out _ (Below.drew (Below.refl _ _))).mono ?_
               rintro x w5 ⟨rfl, hb5⟩
               have hacc : Below w4.heap.size w4 w5 := (Below.drew (Below.refl _ _)).trans hb5
               have hkeep := HSS.out _ hacc))
        have HE1 := Lib.hid (HE.out w5 hacc)
        clear HE hacc hkeep hb5 hwr
        go_wp2_with fail
        exact HE1.out
theorem Dl.steps_walk (s : ByteArray) (w : World) (hs : s.size ≤ 140737488351232) (hT : Tr.Tabs w) :
    Calls Tryd.prog 4 #[.string s] w fun e w' => e = .returned (.bool true) ∧ Below w.heap.size w w' := by
  by_cases h : 65536 < s.size
  · exact Dl.steps_long s w hs h hT
  · exact Dl.steps_short s w (by omega) hT
end Go.Proofs.YtaepjlghdjcdnaaDoor
