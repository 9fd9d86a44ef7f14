/-
  The reader's blanks and remarks.
  The fixed text of layer 8, in plain Lean.
-/
import Derived.Test.YtaepjlghdjcdnaaDoorCa
import Derived.Test.YtaepjlghdjcdnaaDoorDrSymC
namespace Go.Proofs.YtaepjlghdjcdnaaDoor
open Go.RowKit
set_option linter.unusedVariables false
set_option linter.unusedSimpArgs false

theorem Dr.bk_eq {l : List UInt8} (h : l ≠ []) (hb : Dr.bad l = false) : Dr.bk l = if Ch.blankB (Dr.cp l) = true then .go (l.drop (Dr.wd l))
    else if Dr.cp l = 59 then (match Dr.line l with | none => .fault | some r => .go r)
    else if l.take 2 = [35, 59] then .datum (l.drop 2)
    else if l.take 2 = [35, 124] then (match Dr.remark 0 l with | none => .fault | some r => .go r) else .stop := by
  rw [Dr.bk, if_neg h, if_neg (by rw [hb]; simp)]
  rfl
theorem Dr.bk_nil : Dr.bk [] = .stop := by rw [Dr.bk, if_pos rfl]
theorem Dr.bk_bad {l : List UInt8} (h : l ≠ []) (hb : Dr.bad l = true) : Dr.bk l = .fault := by rw [Dr.bk, if_neg h, if_pos hb]
/-- The mark that a number was too large, laid. -/
theorem Dr.At.flag {b : Nat} {S : ByteArray} {l : List UInt8} {g : Bool} {w : World} (h : Dr.At b S l g w) (g' : Bool) :
    ∃ W, w.setCell ⟨b, 2, none⟩ (.bool g') = W ∧ w.frozen? ⟨b, 2, none⟩ = false ∧ Dr.At b S l g' W ∧ Dr.Kept b w W ∧ W.heap.size = w.heap.size := by
  have hq := h.blk
  refine ⟨_, rfl, by simp [World.frozen?, hq], ⟨?_, h.suf, h.le⟩, ⟨rfl, rfl, rfl, by simp, fun q hq hne => ?_⟩, by simp⟩
  · have := heap_setCell_same w b 2 _ _ (.bool g') hq
    exact this
  · exact heap_setCell_other w ⟨b, 2, none⟩ q _ (fun e => hne (by simp [e]))
set_option maxHeartbeats 4000000 in
set_option maxRecDepth 1000000 in
theorem Dr.blanks_con (l : List UInt8) (IH : ∀ j : Dr.Job, j.len < (Dr.Job.blanks l).len → Dr.Con j) : Dr.Con (.blanks l) := by
  intro b S g w R h hs hT hR
  have HIH := Lib.hid IH
  have H0 := Lib.hid (show ∃ l', Dr.At b S l' g w ∧ Dr.Kept b w w ∧ Dr.Rel (.blanks l') R ∧ l'.length ≤ l.length from ⟨l, h, Dr.Kept.refl _ _, hR, Nat.le_refl _⟩)
  have HNE := Lib.hid (And.intro hT (h.tabs_ne hT))
  have hs2 : S.size ≤ 9223372036854775807 := Nat.le_trans hs (by decide)
  have HS := Lib.hid hs
  have HS2 := Lib.hid hs2
  clear h hT hR IH hs hs2
  go_enter Tryd.func12, Tryd.ntmps12
  go_wp2_with fail
  go_loopw [] (fun wr => ∃ l', Dr.At b S l' g wr ∧ Dr.Kept b w wr ∧ Dr.Rel (.blanks l') R ∧ l'.length ≤ l.length) (fun wr => Dr.left b S wr)
  case atStart => exact H0.out
  case round =>
    obtain ⟨l', hA, hK, hR, hll⟩ := hrel
    obtain ⟨wo, hwo⟩ : ∃ z, z = wr := ⟨_, rfl⟩
    subst hwo
    clear H0
    have hTr : Dr.Tabs wo := Dr.tabs_kept HNE.out.1 HNE.out.2.1 HNE.out.2.2 hK
    have HM := Lib.hid hA.left
    have hAle := hA.le
    obtain ⟨p, hp⟩ : ∃ z, S.size - l'.length = z := ⟨_, rfl⟩
    have HP := Lib.hid hp
    have hps : (p : Int) ≤ (S.size : Int) := by omega
    have hp0 : 0 ≤ (p : Int) := by omega
    have hsub := hA.sub
    rw [hp] at hsub
    have HC := Lib.hid (fun (w' : World) (hb : Below wo.heap.size wo w') => (hA.below hb).cells)
    rw [hp] at HC
    have HTB := Lib.hid (fun (w1 : World) (hb1 : Below wo.heap.size wo w1) => Utf8Tabs_below hTr hb1)
    have HTK := Lib.hid (fun (w1 : World) (hk : Dr.Kept b w w1) => Dr.tabs_kept HNE.out.1 HNE.out.2.1 HNE.out.2.2 hk)
    have HF := Lib.hid (fun (w1 : World) (hk : Dr.Kept b w w1) (hbk : Dr.bk l' = .fault) => show Dr.PostBk b S g w R Dr.dead w1 from by
      rw [Dr.bk_inv_fault hbk hR]
      exact ⟨rfl, hk⟩)
    have HGO := Lib.hid (fun (w1 : World) (r : List UInt8) (hA1 : Dr.At b S r g w1) (hk : Dr.Kept b w w1) (hbk : Dr.bk l' = .go r) => show (∃ l'', Dr.At b S l'' g w1 ∧ Dr.Kept b w w1 ∧ Dr.Rel (.blanks l'') R ∧ l''.length ≤ l.length) ∧ Dr.left b S w1 < Dr.left b S wo from
      ⟨⟨r, hA1, hk, Dr.bk_inv_go hbk hR, by have := Dr.bk_go hbk; omega⟩, by rw [hA1.left, HM.out]; exact Dr.bk_go hbk⟩)
    have HSTOP := Lib.hid (fun (w1 : World) (hb1 : Below wo.heap.size wo w1) (hbk : Dr.bk l' = .stop) => show Dr.PostBk b S g w R (.returned (.tuple #[])) w1 from by
      rw [Dr.bk_inv_stop hbk hR]
      exact ⟨rfl, hA.below hb1, hK.trans (Dr.Kept.of_below hb1)⟩)
    have HA := Lib.hid hA
    have HK := Lib.hid hK
    have HR := Lib.hid hR
    have HLL := Lib.hid hll
    by_cases hl : l' = []
    · subst hl
      have KP := Dr.peek_end b S g wo hA
      have HSTOP2 := Lib.hid (fun w1 hb1 => HSTOP.out w1 hb1 Dr.bk_nil)
      clear hTr hA hK hR hll hAle hp HP hps hp0 hsub HC HF HGO HSTOP HTB HTK HM HNE HS HS2 HA HK HR HLL
      go_wp2_with fail
      refine KP.mono ?_
      rintro x w1 ⟨rfl, hb1⟩
      have HE := Lib.hid (HSTOP2.out w1 hb1)
      clear KP hb1 HSTOP2
      go_wp2_with fail
      first | go_end0 | refine bodyPost_ret (results_none rfl _ _ _) rfl ?_
      exact HE.out
    cases hb : Dr.bad l' with
    | true =>
      have KP := Dr.peek_bad b S l' g wo hA hl hb hTr
      have HF2 := Lib.hid (fun w1 (hb1 : Below wo.heap.size wo w1) => HF.out w1 (hK.trans (Dr.Kept.of_below hb1)) (Dr.bk_bad hl hb))
      clear hTr hA hK hR hll hAle hp HP hps hp0 hsub HC HF HGO HSTOP HTB HTK HM HNE HS HS2 HA HK HR HLL hl hb
      go_wp2_with fail
      refine KP.mono ?_
      rintro x w1 ⟨rfl, hb1⟩
      have HE := Lib.hid (HF2.out w1 hb1)
      clear HF2 hb1
      unfold Dr.dead at *
      go_wp2_with fail
      exact ⟨rfl, HE.out⟩
    | false =>
      have KP := Dr.peek_ok b S l' g wo hA hl hb hTr
      have hwp := Dr.wd_pos hl
      have hwl := Dr.wd_le hl
      have heq := Dr.bk_eq hl hb
      have KBL := Lib.hid (fun w' => Wt.blank_any (Dr.cp l') w')
      have hnz : ((Dr.wd l' : Int) == 0) = false := beq_eq_false_iff_ne.2 (by omega)
      have HST := Lib.hid (fun w1 (hb1 : Below wo.heap.size wo w1) => Dr.setAt (hA.below hb1) hp hwl ((Dr.wd l' : Nat) : Int) rfl)
      have hsum : (p : Int) + (Dr.wd l' : Int) ≤ 9223372036854775807 ∧ 0 ≤ (Dr.wd l' : Int) := by have := HS2.out; omega
      obtain ⟨hsum1, hsum2⟩ := hsum
      have HBAD := Lib.hid hb
      have HNIL := Lib.hid hl
      have HWL := Lib.hid hwl
      have HWP := Lib.hid hwp
      cases hbl : Ch.blankB (Dr.cp l') with
      | true =>
        rw [if_pos hbl] at heq
        rw [hbl] at KBL
        have HGO2 := Lib.hid (fun w1 hA1 hk => HGO.out w1 _ hA1 hk heq)
        clear hTr hA hK hR hll hAle hp hsub HF HGO HSTOP HTB HTK HM HNE HS HS2 HA HR HLL hl hb heq hwp hwl
        generalize Dr.cp l' = c at *
        generalize Dr.wd l' = n at *
        go_wp2_with fail
        refine KP.mono ?_
        rintro x w1 ⟨rfl, hb1⟩
        go_wp2_with fail
        refine (KBL.out _).mono ?_
        rintro x w2 ⟨rfl, rfl⟩
        obtain ⟨d0, d1, d2⟩ := HC.out w1 hb1
        obtain ⟨W, hW, hfz, hAt, hKW, hz⟩ := HST.out w1 hb1
        have HE := Lib.hid (HGO2.out W hAt ((HK.out.trans (Dr.Kept.of_below hb1)).trans hKW))
        clear HC HST HGO2 HK KP hb1 hAt hKW hz
        go_wp2_with fail
        exact HE.out
      | false =>
        rw [if_neg (by rw [hbl]; simp)] at heq
        rw [hbl] at KBL
        by_cases h59 : Dr.cp l' = 59
        · rw [if_pos h59] at heq
          have h59b : (Dr.cp l' == 59) = true := beq_iff_eq.2 h59
          have HB := Lib.hid heq
          have hpc := Dr.pc_cons hl
          have HL0 := Lib.hid (fun w1 (hb1 : Below wo.heap.size wo w1) => show ∃ l'', Value.int .i32 (Dr.cp l') = .int .i32 (Dr.pc l'') ∧ Value.int .i64 (Dr.wd l' : Int) = .int .i64 (Dr.pn l'' : Int) ∧ (l'' = [] ∨ Dr.bad l'' = false) ∧ Dr.At b S l'' g w1 ∧ Dr.Kept b w w1 ∧ Dr.line l'' = Dr.line l' from
            ⟨l', by rw [hpc.1], by rw [hpc.2], .inr hb, hA.below hb1, hK.trans (Dr.Kept.of_below hb1), rfl⟩)
          clear hTr hA hK hR hll hAle hp hsub HC HST HTB HNE HS HA HR HLL hl hb heq hwp hwl hpc HSTOP
          obtain ⟨c, hc⟩ : ∃ z, z = Dr.cp l' := ⟨_, rfl⟩
          obtain ⟨n, hn⟩ : ∃ z, z = Dr.wd l' := ⟨_, rfl⟩
          rw [← hc] at KP KBL h59b HL0
          rw [← hn] at KP hnz hsum1 hsum2 HL0
          clear hc hn h59 hbl
          go_wp2_with fail
          refine KP.mono ?_
          rintro x w1 ⟨rfl, hb1⟩
          go_wp2_with fail
          refine (KBL.out _).mono ?_
          rintro x w2 ⟨rfl, rfl⟩
          have HL1 := Lib.hid (HL0.out w1 hb1)
          clear KP KBL hb1 HL0
          go_wp2_with fail
          go_loopw [2, 3] (fun v2 v3 wi => ∃ l'', v2 = .int .i32 (Dr.pc l'') ∧ v3 = .int .i64 (Dr.pn l'' : Int) ∧ (l'' = [] ∨ Dr.bad l'' = false) ∧ Dr.At b S l'' g wi ∧ Dr.Kept b w wi ∧ Dr.line l'' = Dr.line l') (fun _ _ wi => Dr.left b S wi)
          case atStart => exact HL1.out
          case round =>
            obtain ⟨l2, rfl, rfl, hb2, hA2, hK2, hL2⟩ := hrel
            clear HL1 h59b hnz hsum1 hsum2
            by_cases hl2 : l2 = []
            · subst hl2
              rw [Dr.pc_nil.1, Dr.pc_nil.2]
              have HE := Lib.hid (HGO.out _ [] hA2 hK2 (by rw [HB.out, ← hL2, Dr.line_nil]))
              clear hA2 hK2 hL2 hb2 HGO HF HTK
              go_wp2_with fail
              exact HE.out
            · have hb2 := hb2.resolve_left hl2
              obtain ⟨e1, e2⟩ := Dr.pc_cons hl2
              rw [e1, e2]
              have hle := Dr.line_eq hl2 hb2
              have KLE := Lib.hid (fun w' => Dr.lineEnd_any (Dr.cp l2) w')
              have hwp2 := Dr.wd_pos hl2
              have hwl2 := Dr.wd_le hl2
              have h0n : 0 < Dr.wd l2 := by omega
              have h0n2 : (0 : Int) < (Dr.wd l2 : Int) := by omega
              cases hlc : Dr.lineC (Dr.cp l2) with
              | true =>
                rw [if_pos hlc] at hle
                rw [hlc] at KLE
                have HE := Lib.hid (HGO.out _ l2 hA2 hK2 (by rw [HB.out, ← hL2, hle]))
                clear hA2 hK2 hL2 HGO HF HTK hb2 hl2 e1 e2 hle hwp2 hwl2
                generalize Dr.cp l2 = c2 at *
                generalize Dr.wd l2 = n2 at *
                go_wp2_with fail
                refine (KLE.out _).mono ?_
                rintro x w4 ⟨rfl, rfl⟩
                go_wp2_with fail
                exact HE.out
              | false =>
                rw [if_neg (by rw [hlc]; simp)] at hle
                rw [hlc] at KLE
                obtain ⟨d0, d1, d2⟩ := hA2.cells
                have hA2le := hA2.le
                obtain ⟨p2, hp2⟩ : ∃ z, S.size - l2.length = z := ⟨_, rfl⟩
                rw [hp2] at d1
                have hp2s : (p2 : Int) + (Dr.wd l2 : Int) ≤ 9223372036854775807 ∧ 0 ≤ (p2 : Int) ∧ (p2 : Int) ≤ 9223372036854775807 := by have := HS2.out; omega
                obtain ⟨hp2s, hp2a, hp2b⟩ := hp2s
                obtain ⟨W, hW, hfz, hAt, hKW, hz⟩ := Dr.setAt hA2 hp2 hwl2 ((Dr.wd l2 : Nat) : Int) rfl
                have hlt : Dr.left b S W < Dr.left b S wr := by rw [hAt.left, hA2.left]; exact Dr.drop_lt hl2
                have hKall := hK2.trans hKW
                have hTW := HTK.out W hKall
                by_cases hb3 : l2.drop (Dr.wd l2) = [] ∨ Dr.bad (l2.drop (Dr.wd l2)) = false
                · have KP2 := Dr.peek_pc b S _ g W hAt hb3 hTW
                  have HE0 := Lib.hid (fun w5 (hb5 : Below W.heap.size W w5) => show (∃ l'', Value.int .i32 (Dr.pc (l2.drop (Dr.wd l2))) = .int .i32 (Dr.pc l'') ∧ Value.int .i64 (Dr.pn (l2.drop (Dr.wd l2)) : Int) = .int .i64 (Dr.pn l'' : Int) ∧ (l'' = [] ∨ Dr.bad l'' = false) ∧ Dr.At b S l'' g w5 ∧ Dr.Kept b w w5 ∧ Dr.line l'' = Dr.line l') ∧ Dr.left b S w5 < Dr.left b S wr from
                    ⟨⟨_, rfl, rfl, hb3, hAt.below hb5, hKall.trans (Dr.Kept.of_below hb5), by rw [← hle, hL2]⟩, by rw [(hAt.below hb5).left, ← hAt.left]; exact hlt⟩)
                  clear hA2 hK2 hL2 HGO HF HTK hb2 hl2 e1 e2 hle hwp2 hwl2 hA2le hp2 hAt hKW hz hKall hTW hlt hb3
                  generalize Dr.pc (l2.drop (Dr.wd l2)) = c3 at *
                  generalize Dr.pn (l2.drop (Dr.wd l2)) = n3 at *
                  generalize Dr.cp l2 = c2 at *
                  generalize Dr.wd l2 = n2 at *
                  go_wp2_with fail
                  refine (KLE.out _).mono ?_
                  rintro x w4 ⟨rfl, rfl⟩
                  go_wp2_with fail
                  refine KP2.mono ?_
                  rintro x w5 ⟨rfl, hb5⟩
                  have HE := Lib.hid (HE0.out w5 hb5)
                  clear HE0 hb5 KP2
                  go_wp2_with fail
                  exact HE.out
                · have hn3 : l2.drop (Dr.wd l2) ≠ [] := fun e => hb3 (.inl e)
                  have hb4 : Dr.bad (l2.drop (Dr.wd l2)) = true := by
                    cases hq : Dr.bad (l2.drop (Dr.wd l2)) with
                    | true => rfl
                    | false => exact absurd (.inr hq) hb3
                  have KP2 := Dr.peek_bad b S _ g W hAt hn3 hb4 hTW
                  have HE0 := Lib.hid (fun w5 (hb5 : Below W.heap.size W w5) => HF.out w5 (hKall.trans (Dr.Kept.of_below hb5)) (by rw [HB.out, ← hL2, hle, Dr.line_bad hn3 hb4]))
                  clear hA2 hK2 hL2 HGO HF HTK hb2 hl2 e1 e2 hle hwp2 hwl2 hA2le hp2 hAt hKW hz hKall hTW hlt hb3 hn3 hb4
                  generalize Dr.cp l2 = c2 at *
                  generalize Dr.wd l2 = n2 at *
                  go_wp2_with fail
                  refine (KLE.out _).mono ?_
                  rintro x w4 ⟨rfl, rfl⟩
                  go_wp2_with fail
                  refine KP2.mono ?_
                  rintro x w5 ⟨rfl, hb5⟩
                  have HE := Lib.hid (HE0.out w5 hb5)
                  clear HE0 hb5 KP2
                  unfold Dr.dead at *
                  go_wp2_with fail
                  exact ⟨rfl, HE.out⟩
        · rw [if_neg h59] at heq
          have h59b : (Dr.cp l' == 59) = false := beq_eq_false_iff_ne.2 h59
          have KH := fun (p : ByteArray) (w' : World) => Tryd.strings_HasPrefix ⟨l'.toArray⟩ p w'
          have HC2 := Lib.hid (fun (w' : World) (hb : Below wo.heap.size wo w') => (show w'.cell? ⟨b, 0, none⟩ = some (.string S) ∧ w'.cell? ⟨b, 1, none⟩ = some (.int .i64 (p : Int)) from ⟨(HC.out w' hb).1, (HC.out w' hb).2.1⟩))
          have hlen : p + l'.length = S.size := by omega
          clear HST hwp hwl
          by_cases k1 : l'.take 2 = [35, 59]
          · rw [if_pos k1] at heq
            have hl2 := Dr.take_two k1
            have KH1 := Lib.hid (fun w' => KH ⟨#[35, 59]⟩ w')
            simp only [Dr.hasP, List.length_cons, List.length_nil, decide_eq_true k1] at KH1
            have hlen2 : (l'.drop 2).length = l'.length - 2 := List.length_drop
            have HST2 := Lib.hid (fun w1 (hb1 : Below wo.heap.size wo w1) => Dr.setAt (hA.below hb1) hp hl2 2 rfl)
            have hp2 : (p : Int) + 2 ≤ 9223372036854775807 := by have := HS2.out; omega
            have HIB := HIH.out (.blanks (l'.drop 2)) (by show 2 * (l'.drop 2).length < 2 * l.length; omega)
            have KB := Lib.hid (fun (W : World) (R1 : Dr.Res) (hAt : Dr.At b S (l'.drop 2) g W) (hTW : Dr.Tabs W) (h1 : Dr.Rel (.blanks (l'.drop 2)) R1) => HIB b S g W R1 hAt HS.out hTW h1)
            have HREL := Lib.hid (Dr.bk_inv_datum heq hR)
            have HMLT := Lib.hid (fun w1 r2 (hA1 : Dr.At b S r2 g w1) (hlt : r2.length < (l'.drop 2).length) => show Dr.left b S w1 < Dr.left b S wo from by rw [hA1.left, HM.out]; omega)
            have HLT2 := Lib.hid (show (l'.drop 2).length + 2 ≤ l.length from by omega)
            clear hTr hA hK hR hll hAle hp HC HF HGO HSTOP HTB HM HNE HA HR HLL hl hb heq KH k1 hl2 h59 HIB hlen hlen2
            generalize l'.drop 2 = ld at *
            generalize Dr.cp l' = c at *
            generalize Dr.wd l' = n at *
            go_wp2_with fail
            refine KP.mono ?_
            rintro x w1 ⟨rfl, hb1⟩
            go_wp2_with fail
            refine (KBL.out _).mono ?_
            rintro x w2 ⟨rfl, rfl⟩
            go_wp2_with fail
            have hbd : Below wo.heap.size wo w1.drew := Below.drew hb1
            have hkeep := HC2.out w1.drew hbd
            go_region_held3 (fun w' => w'.cell? ⟨b, 0, none⟩ = some (.string S) ∧ w'.cell? ⟨b, 1, none⟩ = some (.int .i64 (p : Int)))
              (first | exact hkeep)
              (first
                | (go_at_call 19
                   refine (KH1.out _).mono ?_
                   rintro x w2 ⟨rfl, rfl⟩))
            obtain ⟨W, hW, hfz, hAt, hKW, hz⟩ := HST2.out w1.drew hbd
            have hK3 := (HK.out.trans (Dr.Kept.of_below hbd)).trans hKW
            have hTW := HTK.out W hK3
            obtain ⟨d0, d1⟩ := hkeep
            obtain ⟨f0, f1, f2⟩ := hAt.cells
            have KB1 := Lib.hid (fun R1 h1 => KB.out W R1 hAt hTW h1)
            have HK3 := Lib.hid hK3
            clear HC2 HST2 hAt hKW hz hTW hbd hb1 KB KP KBL KH1 HK hK3 f0 f1
            generalize w1.drew = w3 at *
            go_wp2_with fail
            rcases HREL.out with ⟨h1, hRf⟩ | ⟨r1, h1, hl1, h2⟩
            · refine (KB1.out _ h1).mono ?_
              rintro x w4 ⟨rfl, hK4⟩
              have HE := Lib.hid (show Dr.PostBk b S g w R Dr.dead w4 by rw [hRf]; exact ⟨rfl, HK3.out.trans hK4⟩)
              clear KB1 h1 hRf hK4 HREL HK3 HTK
              unfold Dr.dead at *
              go_wp2_with fail
              exact ⟨rfl, HE.out⟩
            refine (KB1.out _ h1).mono ?_
            rintro x w4 ⟨rfl, hA4, hK4⟩
            have hK14 := HK3.out.trans hK4
            have HID := HIH.out (.datum r1) (by have := HLT2.out; show 2 * r1.length < 2 * l.length; omega) b S g w4
            have HTW4 := Lib.hid (HTK.out w4 hK14)
            have H2 := Lib.hid h2
            have HK4 := Lib.hid hK14
            have HA4 := Lib.hid hA4
            have HID := Lib.hid HID
            have HL1 := Lib.hid hl1
            clear KB1 h1 h2 hA4 hK4 hK14 HREL hl1
            go_wp2_with fail
            rcases H2.out with ⟨h3, hRf⟩ | ⟨t, r2, big, h3, hl3, h4⟩
            · refine (HID.out _ HA4.out HS.out HTW4.out h3).mono ?_
              rintro x w5 ⟨rfl, hK5⟩
              have HE := Lib.hid (show Dr.PostBk b S g w R Dr.dead w5 by rw [hRf]; exact ⟨rfl, HK4.out.trans hK5⟩)
              clear h3 hRf hK5 HK4 HA4 HID
              unfold Dr.dead at *
              go_wp2_with fail
              exact ⟨rfl, HE.out⟩
            refine (HID.out _ HA4.out HS.out HTW4.out h3).mono ?_
            rintro x w5 ⟨v, rfl, _, hA5, hK5⟩
            obtain ⟨W6, hW6, hfz6, hA6, hK6, hz6⟩ := hA5.flag g
            obtain ⟨f0, f1, f2b⟩ := hA5.cells
            have HE := Lib.hid (show (∃ l'', Dr.At b S l'' g W6 ∧ Dr.Kept b w W6 ∧ Dr.Rel (.blanks l'') R ∧ l''.length ≤ l.length) ∧ Dr.left b S W6 < Dr.left b S wo from
              ⟨⟨r2, hA6, (HK4.out.trans hK5).trans hK6, h4, by have := HLT2.out; have := HL1.out; omega⟩, HMLT.out _ _ hA6 (by have := HL1.out; omega)⟩)
            clear h3 h4 hl3 hA5 hK5 hA6 hK6 hz6 HID HA4 HK4 HTW4 f0 f1
            go_wp2_with fail
            exact HE.out
          · rw [if_neg k1] at heq
            have KH1 := Lib.hid (fun w' => KH ⟨#[35, 59]⟩ w')
            have KH2 := Lib.hid (fun w' => KH ⟨#[35, 124]⟩ w')
            simp only [Dr.hasP, List.length_cons, List.length_nil, decide_eq_false k1] at KH1
            by_cases k2 : l'.take 2 = [35, 124]
            · rw [if_pos k2] at heq
              simp only [Dr.hasP, List.length_cons, List.length_nil, decide_eq_true k2] at KH2
              have KRM := Lib.hid (fun w1 (hb1 : Below wo.heap.size wo w1) => Dr.remark_any b S g l' w1 (hA.below hb1) HS2.out k2 (HTB.out w1 hb1))
              have HB := Lib.hid heq
              clear hTr hA hK hR hll hAle hp HC HSTOP HTB HM HNE HA HR HLL hl hb heq KH k1 k2 h59 hlen
              obtain ⟨c, hc⟩ : ∃ z, z = Dr.cp l' := ⟨_, rfl⟩
              obtain ⟨n, hn⟩ : ∃ z, z = Dr.wd l' := ⟨_, rfl⟩
              rw [← hc] at KP KBL h59b hbl
              rw [← hn] at KP hnz hsum1 hsum2
              clear hc hn
              go_wp2_with fail
              refine KP.mono ?_
              rintro x w1 ⟨rfl, hb1⟩
              go_wp2_with fail
              refine (KBL.out _).mono ?_
              rintro x w2 ⟨rfl, rfl⟩
              go_wp2_with fail
              have hbd : Below wo.heap.size wo w1.drew := Below.drew hb1
              have hkeep := HC2.out w1.drew hbd
              go_region_held3 (fun w' => w'.cell? ⟨b, 0, none⟩ = some (.string S) ∧ w'.cell? ⟨b, 1, none⟩ = some (.int .i64 (p : Int)))
                (first | exact hkeep)
                (first
                  | (go_at_call 19
                     refine (KH1.out _).mono ?_
                     rintro x w2 ⟨rfl, rfl⟩))
              have hbd2 : Below wo.heap.size wo w1.drew.drew := Below.drew hbd
              have hkeep2 := HC2.out w1.drew.drew hbd2
              go_wp2_with fail
              go_region_held3 (fun w' => w'.cell? ⟨b, 0, none⟩ = some (.string S) ∧ w'.cell? ⟨b, 1, none⟩ = some (.int .i64 (p : Int)))
                (first | exact hkeep2)
                (first
                  | (go_at_call 19
                     refine (KH2.out _).mono ?_
                     rintro x w2 ⟨rfl, rfl⟩))
              have KRM1 := KRM.out _ hbd2
              have HKB := Lib.hid (HK.out.trans (Dr.Kept.of_below hbd2))
              clear hkeep hkeep2 HC2 KRM hbd hbd2 hb1 KP KBL KH1 KH2
              generalize w1.drew.drew = w3 at *
              cases hrm : Dr.remark 0 l' with
              | none =>
                rw [hrm] at KRM1
                have HF2 := Lib.hid (fun w1 hk => HF.out w1 hk (by rw [HB.out, hrm]))
                clear HF HGO HTK
                go_wp2_with fail
                refine KRM1.mono ?_
                rintro x w4 ⟨rfl, hK4⟩
                have HE := Lib.hid (HF2.out w4 (HKB.out.trans hK4))
                clear HF2 hK4 KRM1 HKB
                unfold Dr.dead at *
                go_wp2_with fail
                exact ⟨rfl, HE.out⟩
              | some r =>
                rw [hrm] at KRM1
                have HGO2 := Lib.hid (fun w1 hA1 hk => HGO.out w1 r hA1 hk (by rw [HB.out, hrm]))
                clear HF HGO HTK
                go_wp2_with fail
                refine KRM1.mono ?_
                rintro x w4 ⟨rfl, hA4, hK4⟩
                have HE := Lib.hid (HGO2.out w4 hA4 (HKB.out.trans hK4))
                clear HGO2 hK4 hA4 KRM1 HKB
                go_wp2_with fail
                exact HE.out
            · rw [if_neg k2] at heq
              simp only [Dr.hasP, List.length_cons, List.length_nil, decide_eq_false k2] at KH2
              have HSTOP2 := Lib.hid (fun w1 hb1 => HSTOP.out w1 hb1 heq)
              clear hTr hA hK hR hll hAle hp HC HSTOP HTB HM HNE HA HR HLL hl hb heq KH k1 k2 h59 hlen HF HGO HTK
              generalize Dr.cp l' = c at *
              generalize Dr.wd l' = n at *
              go_wp2_with fail
              refine KP.mono ?_
              rintro x w1 ⟨rfl, hb1⟩
              go_wp2_with fail
              refine (KBL.out _).mono ?_
              rintro x w2 ⟨rfl, rfl⟩
              go_wp2_with fail
              have hbd : Below wo.heap.size wo w1.drew := Below.drew hb1
              have hkeep := HC2.out w1.drew hbd
              go_region_held3 (fun w' => w'.cell? ⟨b, 0, none⟩ = some (.string S) ∧ w'.cell? ⟨b, 1, none⟩ = some (.int .i64 (p : Int)))
                (first | exact hkeep)
                (first
                  | (go_at_call 19
                     refine (KH1.out _).mono ?_
                     rintro x w2 ⟨rfl, rfl⟩))
              have hbd2 : Below wo.heap.size wo w1.drew.drew := Below.drew hbd
              have hkeep2 := HC2.out w1.drew.drew hbd2
              go_wp2_with fail
              go_region_held3 (fun w' => w'.cell? ⟨b, 0, none⟩ = some (.string S) ∧ w'.cell? ⟨b, 1, none⟩ = some (.int .i64 (p : Int)))
                (first | exact hkeep2)
                (first
                  | (go_at_call 19
                     refine (KH2.out _).mono ?_
                     rintro x w2 ⟨rfl, rfl⟩))
              have HE := Lib.hid (HSTOP2.out _ hbd2)
              clear hkeep hkeep2 HC2 HSTOP2 hbd hbd2 hb1 KP KBL KH1 KH2
              go_wp2_with fail
              first | go_end0 | refine bodyPost_ret (results_none rfl _ _ _) rfl ?_
              exact HE.out
end Go.Proofs.YtaepjlghdjcdnaaDoor
namespace Go.Proofs.YtaepjlghdjcdnaaDoor
open Go.RowKit
set_option linter.unusedVariables false
set_option linter.unusedSimpArgs false

def Dr.awkL : List UInt8 := [32, 40, 97, 32, 46, 32, 35, 116, 41, 120]
def Dr.awkT : Tr := Dr.cons (Dr.leaf 6 0 [97]) (Dr.leaf 2 1 [])
theorem Dr.bk_blank (t : List UInt8) : Dr.bk (32 :: t) = .go t := by
  unfold Dr.bk
  rw [if_neg (by simp), if_neg (by rw [Dr.asc_bad 32 t (by decide)]; simp), (Dr.asc 32 t (by decide)).1, if_pos (by decide), (Dr.asc 32 t (by decide)).2]
  rfl
theorem Dr.num_a : Dr.num [97] = .err 5 := by
  have hf : Dr.frac 10 false [97] 0 = none := by
    unfold Dr.frac Dr.digs
    rw [if_pos (by rfl)]
  have hn : Dr.number 10 [97] = none := by
    unfold Dr.number
    rw [show Dr.sign [97] = (false, false, [97]) from rfl]
    simp only [Bool.false_and]
    rw [hf]
    simp
  unfold Dr.num
  rw [show Dr.pre 10 false false [97] = some (10, [97]) from rfl]
  simp only
  rw [hn]
theorem Dr.sym_a : Dr.symbol [97] = some [97] := by
  have e1 : Dr.next [97] = some (97, []) := by
    unfold Dr.next
    rw [if_neg (by simp), if_neg (by rw [Dr.asc_bad 97 [] (by decide)]; simp), (Dr.asc 97 [] (by decide)).1, (Dr.asc 97 [] (by decide)).2]
    rfl
  have e2 : Dr.sym1 true [97] = some ([97], []) := by
    unfold Dr.sym1
    rw [e1]
    simp only
    rw [if_neg (by decide), if_neg (by decide)]
    rw [show Lib.encodeRune 97 = [97] from Dr.enc_asc 97 (by decide)]
  unfold Dr.symbol
  rw [if_neg (by decide), Dr.syms_eq true [97] (by simp), e2]
  simp only
  rw [Dr.syms, if_pos ⟨rfl, rfl⟩]
  rfl
theorem Dr.atom_a : Dr.atom [97] = some (Dr.leaf 6 0 [97], false) := by
  unfold Dr.atom
  rw [if_neg (by decide), if_neg (by decide), if_neg (by decide), Dr.num_a]
  simp only
  rw [if_neg (by decide), if_neg (by decide), Dr.sym_a]
  rfl
theorem Dr.datum_a (t : List UInt8) : Dr.Rel (.datum (97 :: 32 :: t)) (.got (Dr.leaf 6 0 [97]) (32 :: t) false) := by
  refine .dDone ?_
  have htk : Dr.token (97 :: 32 :: t) = some (32 :: t) := Dr.token_one 97 32 t (by decide) (by decide) (by decide) (by decide) (by decide)
  unfold Dr.dk
  rw [if_neg (by simp), if_neg (by rw [Dr.asc_bad 97 _ (by decide)]; simp), (Dr.asc 97 _ (by decide)).1, if_neg (by decide), if_neg (by decide), if_neg (by decide), if_neg (by
    intro e
    have := congrArg (·[0]?) e
    simp at this), if_neg (by
    intro e
    have := congrArg (·[0]?) e
    simp at this), if_neg (by
    intro e
    have := congrArg (·[0]?) e
    simp at this), htk]
  simp only [Dr.upto_one, Dr.atom_a]
theorem Dr.datum_t (t : List UInt8) : Dr.Rel (.datum (35 :: 116 :: 41 :: t)) (.got (Dr.leaf 2 1 []) (41 :: t) false) := by
  refine .dDone ?_
  have htk : Dr.token (35 :: 116 :: 41 :: t) = some (41 :: t) := by
    rw [Dr.token, dif_neg (by simp), if_neg (by rw [Dr.asc_bad 35 _ (by decide)]; simp), (Dr.asc 35 _ (by decide)).1, if_neg (by decide), if_neg (by decide), (Dr.asc 35 _ (by decide)).2]
    exact Dr.token_one 116 41 t (by decide) (by decide) (by decide) (by decide) (by decide)
  have hup : Dr.upto (35 :: 116 :: 41 :: t) (41 :: t) = [35, 116] := by
    unfold Dr.upto
    rw [show (35 :: 116 :: 41 :: t : List UInt8).length - (41 :: t : List UInt8).length = 2 by simp only [List.length_cons]; omega]
    rfl
  unfold Dr.dk
  rw [if_neg (by simp), if_neg (by rw [Dr.asc_bad 35 _ (by decide)]; simp), (Dr.asc 35 _ (by decide)).1, if_neg (by decide), if_neg (by decide), if_neg (by decide), if_neg (by
    intro e
    have := congrArg (·[1]?) e
    simp at this), if_neg (by
    intro e
    have := congrArg (·[1]?) e
    simp at this), if_neg (by
    intro e
    have := congrArg (·[1]?) e
    simp at this), htk]
  simp only
  rw [hup]
  rfl
theorem Dr.bk_hash_t (t : List UInt8) : Dr.bk (35 :: 116 :: t) = .stop := by
  unfold Dr.bk
  rw [if_neg (by simp), if_neg (by rw [Dr.asc_bad 35 _ (by decide)]; simp), (Dr.asc 35 _ (by decide)).1, if_neg (by decide), if_neg (by decide), if_neg (by
    intro e
    have := congrArg (·[1]?) e
    simp at this), if_neg (by
    intro e
    have := congrArg (·[1]?) e
    simp at this)]
theorem Dr.awk_one : Dr.One Dr.awkL (.ok Dr.awkT 9) := by
  have b1 : Dr.Rel (.blanks Dr.awkL) (.skip [40, 97, 32, 46, 32, 35, 116, 41, 120]) := .bGo (Dr.bk_blank _) (.bStop (Dr.bk_stop 40 _ (by decide) (by decide) (by decide) (by decide)))
  have p2 : Dr.Rel (.pairs 41 false [32, 46, 32, 35, 116, 41, 120]) (.lst [] (Dr.leaf 2 1 []) [120] false) := by
    have hb : Dr.Rel (.blanks [32, 46, 32, 35, 116, 41, 120]) (.skip [46, 32, 35, 116, 41, 120]) := .bGo (Dr.bk_blank _) (.bStop (Dr.bk_stop 46 _ (by decide) (by decide) (by decide) (by decide)))
    have hp : Dr.pk 41 false [46, 32, 35, 116, 41, 120] = .dot [32, 35, 116, 41, 120] := by
      unfold Dr.pk
      rw [if_neg (by simp), if_neg (by rw [Dr.asc_bad 46 _ (by decide)]; simp), (Dr.asc 46 _ (by decide)).1, if_neg (by decide), if_pos (by decide), Dr.token_one 46 32 _ (by decide) (by decide) (by decide) (by decide) (by decide)]
      simp only [Dr.upto_one]
      exact if_pos trivial
    have hb2 : Dr.Rel (.blanks [32, 35, 116, 41, 120]) (.skip [35, 116, 41, 120]) := .bGo (Dr.bk_blank _) (.bStop (Dr.bk_hash_t _))
    have hb3 : Dr.Rel (.blanks [41, 120]) (.skip [41, 120]) := .bStop (Dr.bk_stop 41 _ (by decide) (by decide) (by decide) (by decide))
    have hp3 : Dr.pk 41 true [41, 120] = .stop [120] := by
      unfold Dr.pk
      rw [if_neg (by simp), if_neg (by rw [Dr.asc_bad 41 _ (by decide)]; simp), (Dr.asc 41 _ (by decide)).1, if_pos (by decide), (Dr.asc 41 _ (by decide)).2]
      rfl
    exact .pDot5 hb hp hb2 (Dr.datum_t [120]) hb3 hp3
  have p1 : Dr.Rel (.pairs 41 true [97, 32, 46, 32, 35, 116, 41, 120]) (.lst [Dr.leaf 6 0 [97]] (Dr.leaf 2 1 []) [120] (false || false)) :=
    .pItem3 (.bStop (Dr.bk_stop 97 _ (by decide) (by decide) (by decide) (by decide))) (Dr.pk_item 41 true 97 _ (by decide) (by decide) (by decide)) (Dr.datum_a _) p2
  have d1 : Dr.Rel (.datum [40, 97, 32, 46, 32, 35, 116, 41, 120]) (.got (Dr.listT [Dr.leaf 6 0 [97]] (Dr.leaf 2 1 [])) [120] (false || false)) := by
    refine .dPairs2 (e := 41) (r := [97, 32, 46, 32, 35, 116, 41, 120]) ?_ p1
    unfold Dr.dk
    rw [if_neg (by simp), if_neg (by rw [Dr.asc_bad 40 _ (by decide)]; simp), (Dr.asc 40 _ (by decide)).1, if_pos (by decide), (Dr.asc 40 _ (by decide)).2]
    rfl
  exact Dr.One.ok b1 (by simp) d1 (by decide)
end Go.Proofs.YtaepjlghdjcdnaaDoor
