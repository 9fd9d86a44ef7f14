/-
  The reader's digits behind a backslash. The reader's token. datum.IsChar of any number.
-/
import Derived.WalkKit
import Derived.WalkMore
import Derived.WalkLawsBesides
import Derived.Below
import Derived.Lib.Hide
import Derived.Laws.BitsLemmas
import Derived.Lib.MapLaws
import Derived.StillTailTactics
import Derived.Test.YteklhapffplohaaGreatDoorVg
import Derived.Test.YteklhapffplohaaGreatDoorVa
import Derived.Test.YteklhapffplohaaGreatDoorShelfV
import Derived.Test.YteklhapffplohaaGreatDoorVh
set_option linter.unusedVariables false
set_option linter.unusedSimpArgs false
namespace Go.Proofs.YteklhapffplohaaGreatDoor
open Go.RowKit
def Dr.cX : ByteArray := ⟨#[48,49,50,51,52,53,54,55,56,57,97,98,99,100,101,102,65,66,67,68,69,70]⟩
set_option maxRecDepth 100000
theorem Dr.tabX : ∀ n : Fin 256,decide (0 ≤ Lib.indexByte Dr.cX.data.toList (UInt8.ofNat n.val)) = Dr.hexB (UInt8.ofNat n.val) := by decide +kernel
set_option maxRecDepth 512
theorem Dr.ixX (x : UInt8) : decide (0 ≤ Lib.indexByte Dr.cX.data.toList x) = Dr.hexB x := by
 have := Dr.tabX ⟨x.toNat,x.toNat_lt⟩;simpa using this
theorem Dr.At.byte {b p : Nat} {S : ByteArray} {x : UInt8} {t : List UInt8} {g : Bool} {w : World} (h : Dr.At b S (x :: t) g w) (hp : S.size - (x :: t).length = p) : ∃ hlt : p < S.size,S[p]'hlt = x := by
 have h1 := h.suf;have h2 := h.le;rw [hp] at h1;have hlt : p < S.size := by simp at hp h2; omega
 refine ⟨hlt,?_⟩;have h3 : S.data.toList[p]? = some x := by
  have : (S.data.toList.drop p)[0]? = some x := by rw [h1]; rfl
  simpa using this
 have h4 : S.data.toList[p]'(by simpa using hlt) = x := by
  rw [List.getElem?_eq_getElem (by simpa using hlt)] at h3;exact Option.some.inj h3
 exact h4
set_option maxHeartbeats 4000000
set_option maxRecDepth 1000000
theorem Dr.digits_any (b : Nat) (S : ByteArray) (g : Bool) (l : List UInt8) (w : World) (h : Dr.At b S l g w) (hs : S.size ≤ 9223372036854775807) (hT : Dr.Tabs w) :
 Calls Tryz.prog 76 #[.pointer (some ⟨b,0,none⟩)] w fun e w' => Dr.PostL b S g w (Dr.digits l) e w' := by
 obtain ⟨R,hR⟩ : ∃ z,Dr.digits l = z := ⟨_,rfl⟩
 rw [hR]
 unfold Dr.digits at hR
 have hne := h.tabs_ne hT
 cases hn : Dr.next l with
 | none =>
   rw [hn] at hR
   have HR := Lib.hid (show R = none from hR.symm)
   have KF := Dr.next_none b S l g w h hn hT
   clear h hT hn hR hne
   go_enter Tryz.func76,Tryz.ntmps76
   go_wp2_with fail
   refine KF.mono ?_
   rintro x w3 ⟨rfl,hb3⟩
   have HE : Hid (Dr.PostL b S g w R Dr.dead w3) := Lib.hid (by rw [HR.out]; exact ⟨rfl,Dr.Kept.of_below hb3⟩)
   clear hb3
   unfold Dr.dead at *
   go_wp2_with fail
   exact ⟨rfl,HE.out⟩
 | some x =>
   obtain ⟨c,r⟩ := x
   rw [hn] at hR
   have HR := Lib.hid (show some (Dr.semi (r.dropWhile Dr.hexB)) = R from hR)
   have KN := Dr.next_ok b S l g c r w h hs hn hT
   have HNE := Lib.hid (And.intro hT hne)
   clear h hT hn hR hne
   go_enter Tryz.func76,Tryz.ntmps76
   go_wp2_with fail
   refine KN.mono ?_
   rintro x w1 ⟨rfl,hA1,hK1⟩
   have H0 := Lib.hid (show ∃ l',Dr.At b S l' g w1 ∧ Dr.Kept b w w1 ∧ l'.dropWhile Dr.hexB = r.dropWhile Dr.hexB from ⟨r,hA1,hK1,rfl⟩)
   clear hA1 hK1
   go_wp2_with fail
   go_loopw [] (fun wr => ∃ l',Dr.At b S l' g wr ∧ Dr.Kept b w wr ∧ l'.dropWhile Dr.hexB = r.dropWhile Dr.hexB) (fun wr => Dr.left b S wr)
   case atStart => exact H0.out
   case round =>
    obtain ⟨l',hA,hK,hd⟩ := hrel
    clear H0
    have hb1 : Below wr.heap.size wr wr.drew := Below.drew (Below.refl _ _)
    obtain ⟨c0,c1,c2⟩ := hA.cells
    obtain ⟨hp1,hp2⟩ := hA.range
    have hbl := hA.lt
    have HM := Lib.hid hA.left
    obtain ⟨p,hp⟩ : ∃ z,S.size - l'.length = z := ⟨_,rfl⟩
    have HP := Lib.hid hp
    rw [hp] at c1 hp1 hp2
    have HS := Lib.hid (fun (w' : World) (hb : Below wr.heap.size wr w') => (show w'.cell? ⟨b,0,none⟩ = some (.string S) ∧ w'.cell? ⟨b,1,none⟩ = some (.int .i64 (p : Int)) from ⟨(hb.cell (p := ⟨b,0,none⟩) hbl).trans c0,(hb.cell (p := ⟨b,1,none⟩) hbl).trans c1⟩))
    have HA := Lib.hid hA
    have HK := Lib.hid hK
    have HD := Lib.hid hd
    cases l' with
    | nil =>
      have hpe : p = S.size := by simpa using hp.symm
      have HE := Lib.hid (show Dr.PostL b S g w R (.returned (.tuple #[])) wr.drew.drew from by
        rw [← HR.out,← hd]
        exact ⟨rfl,hA.below (Below.drew hb1),hK.trans (Dr.Kept.of_below (Below.drew hb1))⟩)
      clear hA hK hd hp c2 hbl HS HP
      subst hpe
      go_wp2_with fail
      go_region
      all_goals
       go_wp2_with fail
       go_region
       all_goals
        go_wp2_with fail
        first | go_end0 | refine bodyPost_ret (results_none rfl _ _ _) rfl ?_
        exact HE.out
    | cons x t =>
      obtain ⟨hlt,hx⟩ := hA.byte hp
      have hplt : (p : Int) < (S.size : Int) := by omega
      have KI : ∀ w',Calls Tryz.prog 95 #[.string Dr.cX,.int .u8 ((S[p]'hlt).toNat : Int)] w' fun e w'' => e = .returned (.int .i64 (Lib.indexByte Dr.cX.data.toList x)) ∧ w' = w'' := fun w' => by
       refine (Tryz.strings_IndexByte Dr.cX ((S[p]'hlt).toNat : Int) w').mono ?_;rintro e w'' ⟨rfl,rfl⟩;rw [hx];simp
      obtain ⟨v,hv⟩ : ∃ z,(S[p]'hlt).toNat = z := ⟨_,rfl⟩
      have hxv : x.toNat = v := by rw [← hx]; exact hv
      rw [hv] at KI
      have hk := Dr.ixX x
      obtain ⟨k,hk2⟩ : ∃ z,Lib.indexByte Dr.cX.data.toList x = z := ⟨_,rfl⟩
      rw [hk2] at KI hk
      unfold Dr.cX at KI
      have KI := Lib.hid KI
      clear hk2
      have hkeep := HS.out wr.drew hb1
      have hp64 : (p : Int) + 1 ≤ 9223372036854775807 := by omega
      cases hX : Dr.hexB x with
      | true =>
        rw [hX] at hk
        have hk0 : 0 ≤ k := of_decide_eq_true hk
        obtain ⟨W,hW,hfz,hAt,hKW,hz⟩ := Dr.setAt (hA.below hb1) hp (n := 1) (by simp) 1 rfl
        have HE := Lib.hid (show (∃ l',Dr.At b S l' g W ∧ Dr.Kept b w W ∧ l'.dropWhile Dr.hexB = r.dropWhile Dr.hexB) ∧ Dr.left b S W < Dr.left b S wr from
          ⟨⟨t,hAt,(hK.trans (Dr.Kept.of_below hb1)).trans hKW,by rw [← hd,List.dropWhile_cons,if_pos hX]⟩,by rw [hAt.left,HM.out]; simp⟩)
        clear hA hK hd hp c2 hx hbl hk hX hAt hKW hz hxv
        go_wp2_with fail
        go_region_held3 (fun w' => w'.cell? ⟨b,0,none⟩ = some (.string S) ∧ w'.cell? ⟨b,1,none⟩ = some (.int .i64 (p : Int)))
         (first | exact hkeep)
         (first
           | (go_at_call 95
              refine (KI.out _).mono ?_
              rintro x w2 ⟨rfl,rfl⟩))
        obtain ⟨d0,d1⟩ := hkeep
        generalize wr.drew = w2 at *
        go_wp2_with fail
        exact HE.out
      | false =>
        rw [hX] at hk
        have hk0 : k < 0 := by have := of_decide_eq_false hk; omega
        have hb2 : Below wr.heap.size wr wr.drew.drew := Below.drew hb1
        have hkeep2 := HS.out wr.drew.drew hb2
        have hdr : (x :: t).dropWhile Dr.hexB = x :: t := by rw [List.dropWhile_cons,if_neg (by rw [hX]; simp)]
        have hAb := hA.below hb2
        have hKb := hK.trans (Dr.Kept.of_below hb2)
        obtain ⟨W,hW,hfz,hAt,hKW,hz⟩ := Dr.setAt hAb hp (n := 1) (by simp) 1 rfl
        have HE1 := Lib.hid (fun (h59 : x = 59) => show Dr.PostL b S g w R (.returned (.tuple #[])) W from by
            rw [← HR.out,← hd,hdr];show Dr.PostL b S g w (some (if x = 59 then t else x :: t)) _ _;rw [if_pos h59]
            exact ⟨rfl,hAt,hKb.trans hKW⟩)
        have HE2 := Lib.hid (fun (h59 : ¬ x = 59) => show Dr.PostL b S g w R (.returned (.tuple #[])) wr.drew.drew from by
            rw [← HR.out,← hd,hdr];show Dr.PostL b S g w (some (if x = 59 then t else x :: t)) _ _;rw [if_neg h59]
            exact ⟨rfl,hAb,hKb⟩)
        have H59 : x = 59 ↔ v = 59 := by
         rw [← hxv];constructor
         · rintro rfl; rfl
         · exact fun e => UInt8.toNat.inj e
        clear hA hK hd hp c2 hx hbl hX hAt hKW hz hdr hAb hKb hxv
        by_cases h59 : v = 59
        · have HE := Lib.hid (HE1.out (H59.2 h59));subst h59;clear HE1 HE2 H59;go_wp2_with fail;go_region_held3 (fun w' => w'.cell? ⟨b,0,none⟩ = some (.string S) ∧ w'.cell? ⟨b,1,none⟩ = some (.int .i64 (p : Int)))
           (first | exact hkeep)
           (first
             | (go_at_call 95
                refine (KI.out _).mono ?_
                rintro x w2 ⟨rfl,rfl⟩))
          go_wp2_with fail;go_region_held3 (fun w' => w'.cell? ⟨b,0,none⟩ = some (.string S) ∧ w'.cell? ⟨b,1,none⟩ = some (.int .i64 (p : Int)))
           (first | exact hkeep2)
           (fail)
          obtain ⟨d0,d1⟩ := hkeep2;clear hkeep;generalize wr.drew.drew = w2 at *;go_wp2_with fail;first | go_end0 | refine bodyPost_ret (results_none rfl _ _ _) rfl ?_
          exact HE.out
        · have HE := Lib.hid (HE2.out (fun e => h59 (H59.1 e)));have e1 : ((v : Int) == 59) = false := beq_eq_false_iff_ne.2 (by omega);clear HE1 HE2 H59 hW hfz h59;go_wp2_with fail;go_region_held3 (fun w' => w'.cell? ⟨b,0,none⟩ = some (.string S) ∧ w'.cell? ⟨b,1,none⟩ = some (.int .i64 (p : Int)))
           (first | exact hkeep)
           (first
             | (go_at_call 95
                refine (KI.out _).mono ?_
                rintro x w2 ⟨rfl,rfl⟩))
          go_wp2_with fail;go_region_held3 (fun w' => w'.cell? ⟨b,0,none⟩ = some (.string S) ∧ w'.cell? ⟨b,1,none⟩ = some (.int .i64 (p : Int)))
           (first | exact hkeep2)
           (fail)
          go_wp2_with fail;first | go_end0 | refine bodyPost_ret (results_none rfl _ _ _) rfl ?_
          exact HE.out
set_option maxHeartbeats 200000
set_option maxRecDepth 512
theorem Dr.token_eq (l : List UInt8) (h : l ≠ []) (hb : Dr.bad l = false) : Dr.token l = if Dr.delim (Dr.cp l) = true then some l else if Dr.cp l = 92 then (match Dr.digits (l.drop (Dr.wd l)) with | none => none | some r => Dr.token r) else Dr.token (l.drop (Dr.wd l)) := by
 rw [Dr.token,dif_neg h,if_neg (by rw [hb]; simp)];split
 · rfl
 · split
   · split
     · rename_i e; rw [e]
     · rename_i r e; rw [e]
   · rfl
theorem Dr.token_nil : Dr.token [] = some [] := by rw [Dr.token,dif_pos rfl]
theorem Dr.token_bad (l : List UInt8) (h : l ≠ []) (hb : Dr.bad l = true) : Dr.token l = none := by rw [Dr.token,dif_neg h,if_pos hb]
theorem Dr.At.between {b b' : Nat} {S : ByteArray} {l r : List UInt8} {g g' : Bool} {w w' : World} (h : Dr.At b S l g w) (k : Dr.At b' S r g' w') (hl : r.length ≤ l.length) : S.extract (S.size - l.length) (S.size - r.length) = ⟨(Dr.upto l r).toArray⟩ := by
 apply ByteArray.ext;apply Array.ext';rw [ByteArray.data_extract,Array.toList_extract];simp only [List.extract_eq_take_drop];have h1 := h.suf;have h2 := h.le;have h3 := k.le;rw [h1];show _ = List.take (l.length - r.length) l;congr 1;omega
def Dr.PostT (b : Nat) (S : ByteArray) (g : Bool) (w : World) (l : List UInt8) (R : Option (List UInt8)) (e : Ending) (w' : World) : Prop :=
 match R with
 | none => e = Dr.dead ∧ Dr.Kept b w w'
 | some r => e = .returned (.string ⟨(Dr.upto l r).toArray⟩) ∧ Dr.At b S r g w' ∧ Dr.Kept b w w'
set_option maxHeartbeats 4000000
set_option maxRecDepth 1000000
theorem Dr.token_any (b : Nat) (S : ByteArray) (g : Bool) (l : List UInt8) (w : World) (h : Dr.At b S l g w) (hs : S.size ≤ 9223372036854775807) (hT : Dr.Tabs w) :
 Calls Tryz.prog 45 #[.pointer (some ⟨b,0,none⟩)] w fun e w' => Dr.PostT b S g w l (Dr.token l) e w' := by
 obtain ⟨R,hR⟩ : ∃ z,Dr.token l = z := ⟨_,rfl⟩
 rw [hR]
 have HAT := Lib.hid h
 have HNE := Lib.hid (And.intro hT (h.tabs_ne hT))
 have H0 := Lib.hid (show ∃ l',Dr.At b S l' g w ∧ Dr.Kept b w w ∧ Dr.token l' = R ∧ l'.length ≤ l.length from ⟨l,h,Dr.Kept.refl _ _,hR,Nat.le_refl _⟩)
 obtain ⟨c0,c1,c2⟩ := h.cells
 obtain ⟨hq1,hq2⟩ := h.range
 obtain ⟨q,hq⟩ : ∃ z,S.size - l.length = z := ⟨_,rfl⟩
 have HQ := Lib.hid hq
 rw [hq] at c1 hq1 hq2
 clear h hT hR hq
 go_enter Tryz.func45,Tryz.ntmps45
 go_wp2_with fail
 go_loopw [] (fun wr => ∃ l',Dr.At b S l' g wr ∧ Dr.Kept b w wr ∧ Dr.token l' = R ∧ l'.length ≤ l.length) (fun wr => Dr.left b S wr)
 case atStart => exact H0.out
 case round =>
  obtain ⟨l',hA,hK,hR,hll⟩ := hrel
  clear H0 c0 c1 c2
  have hTr : Dr.Tabs wr := Dr.tabs_kept HNE.out.1 HNE.out.2.1 HNE.out.2.2 hK
  have HTr := Lib.hid hTr
  have HM := Lib.hid hA.left
  have hAle := hA.le
  obtain ⟨p,hp⟩ : ∃ z,S.size - l'.length = z := ⟨_,rfl⟩
  have HP := Lib.hid hp
  have hpq : q ≤ p := by have := HQ.out; omega
  have hpS : p ≤ S.size := by omega
  have hqp : (q : Int) ≤ (p : Int) := by omega
  have hps : (p : Int) ≤ (S.size : Int) := by omega
  have hp0 : 0 ≤ (p : Int) := by omega
  have hsub : S.extract q p = ⟨(Dr.upto l l').toArray⟩ := by
   have := HAT.out.between hA hll;rwa [HQ.out,hp] at this
  have HC := Lib.hid (fun (w' : World) (hb : Below wr.heap.size wr w') => (hA.below hb).cells)
  rw [hp] at HC
  have HF := Lib.hid (fun (w' : World) (hb : Below wr.heap.size wr w') (hR : Dr.token l' = some l') => show Dr.PostT b S g w l R (.returned (.string ⟨(Dr.upto l l').toArray⟩)) w' from by
    rw [← ‹Dr.token l' = R›,hR]
    exact ⟨rfl,hA.below hb,hK.trans (Dr.Kept.of_below hb)⟩)
  by_cases hl : l' = []
  · subst hl;have KP := Dr.peek_end b S g wr hA;clear hAle hA hK hR hll hp HP hTr HTr HM hpq hpS;go_wp2_with fail;refine KP.mono ?_;rintro x w1 ⟨rfl,hb1⟩;obtain ⟨d0,d1,d2⟩ := HC.out w1 hb1;have HE := Lib.hid (HF.out w1.drew (Below.drew hb1) Dr.token_nil);clear HC HF KP hb1;go_wp2_with fail;go_region_held3 (fun w' => w'.cell? ⟨b,0,none⟩ = some (.string S) ∧ w'.cell? ⟨b,1,none⟩ = some (.int .i64 (p : Int)))
     (go_keep)
     (fail)
    go_wp2_with fail;go_ret;exact HE.out
  cases hb : Dr.bad l' with
  | true =>
    have KP := Dr.peek_bad b S l' g wr hA hl hb hTr
    have HE0 := Lib.hid (fun (w1 : World) (hb1 : Below wr.heap.size wr w1) => show Dr.PostT b S g w l R Dr.dead w1 from by
      rw [← hR,Dr.token_bad l' hl hb]
      exact ⟨rfl,hK.trans (Dr.Kept.of_below hb1)⟩)
    clear hAle hA hK hR hll hp HP hTr HTr HM hpq hpS HC HF hl hb
    go_wp2_with fail
    refine KP.mono ?_
    rintro x w1 ⟨rfl,hb1⟩
    have HE := Lib.hid (HE0.out w1 hb1)
    clear HE0 hb1
    unfold Dr.dead at *
    go_wp2_with fail
    exact ⟨rfl,HE.out⟩
  | false =>
    have KP := Dr.peek_ok b S l' g wr hA hl hb hTr
    have hwp := Dr.wd_pos hl
    have hwl := Dr.wd_le hl
    have heq := Dr.token_eq l' hl hb
    have hok : Ru.okR (Dr.cp l') := Ru.decode_ok l' hl
    have KD := Lib.hid (fun w' => Dr.delim_any (Dr.cp l') hok w')
    have hnz : ((Dr.wd l' : Int) == 0) = false := beq_eq_false_iff_ne.2 (by omega)
    have HST := Lib.hid (fun w1 (hb1 : Below wr.heap.size wr w1) => Dr.setAt (hA.below hb1) hp hwl ((Dr.wd l' : Nat) : Int) rfl)
    have hsum : (p : Int) + (Dr.wd l' : Int) ≤ 9223372036854775807 ∧ 0 ≤ (Dr.wd l' : Int) := by omega
    have hdl : (l'.drop (Dr.wd l')).length < l'.length := Dr.drop_lt hl
    obtain ⟨hsum1,hsum2⟩ := hsum
    cases hd : Dr.delim (Dr.cp l') with
    | true =>
      rw [if_pos hd] at heq
      rw [hd] at KD
      have HF2 := Lib.hid (fun w' hb => HF.out w' hb heq)
      generalize Dr.cp l' = c at *
      generalize Dr.wd l' = n at *
      clear hAle hA hK hR hll hp HP hTr HTr HM hpq hpS HF hl hb heq hok HST hwp hwl hdl hd
      go_wp2_with fail
      refine KP.mono ?_
      rintro x w1 ⟨rfl,hb1⟩
      go_wp2_with fail
      refine (KD.out _).mono ?_
      rintro x w2 ⟨rfl,hb2⟩
      have hb12 : Below wr.heap.size wr w2 := hb1.trans (hb2.mono hb1.size)
      obtain ⟨d0,d1,d2⟩ := HC.out w2 hb12
      have HE := Lib.hid (HF2.out w2.drew (Below.drew hb12))
      clear HC HF2 KP hb1 hb2 hb12
      go_wp2_with fail
      go_region_held3 (fun w' => w'.cell? ⟨b,0,none⟩ = some (.string S) ∧ w'.cell? ⟨b,1,none⟩ = some (.int .i64 (p : Int)))
       (go_keep)
       (fail)
      go_wp2_with fail
      go_ret
      exact HE.out
    | false =>
      rw [if_neg (by rw [hd]; simp)] at heq
      rw [hd] at KD
      by_cases h92 : Dr.cp l' = 92
      · rw [if_pos h92] at heq;have h92b : (Dr.cp l' == 92) = true := beq_iff_eq.2 h92;have HKD := Lib.hid (fun (W : World) (hAt : Dr.At b S (l'.drop (Dr.wd l')) g W) (hTW : Dr.Tabs W) => Dr.digits_any b S g (l'.drop (Dr.wd l')) W hAt hs hTW);have HTW := Lib.hid (fun (w1 W : World) (hb1 : Below wr.heap.size wr w1) (hKW : Dr.Kept b w1 W) => Dr.tabs_kept hTr HNE.out.2.1 HNE.out.2.2 ((Dr.Kept.of_below hb1).trans hKW));cases hdg : Dr.digits (l'.drop (Dr.wd l')) with
        | none =>
          rw [hdg] at heq HKD;have HE0 := Lib.hid (fun (w1 W w3 : World) (hb1 : Below wr.heap.size wr w1) (hKW : Dr.Kept b w1 W) (hK3 : Dr.Kept b W w3) => show Dr.PostT b S g w l R Dr.dead w3 from by
            rw [← hR,heq]
            exact ⟨rfl,((hK.trans (Dr.Kept.of_below hb1)).trans hKW).trans hK3⟩)
          generalize Dr.cp l' = c at *;generalize Dr.wd l' = n at *;clear hAle hA hK hR hll hp HP hTr HTr HM hpq hpS HF hl hb heq hok hwp hwl hdl hd h92 hdg;go_wp2_with fail;refine KP.mono ?_;rintro x w1 ⟨rfl,hb1⟩;go_wp2_with fail;refine (KD.out _).mono ?_;rintro x w2 ⟨rfl,hb2⟩;have hb12 : Below wr.heap.size wr w2 := hb1.trans (hb2.mono hb1.size);obtain ⟨d0,d1,d2⟩ := HC.out w2 hb12;obtain ⟨W,hW,hfz,hAt,hKW,hz⟩ := HST.out w2 hb12;have KG := HKD.out W hAt (HTW.out w2 W hb12 hKW);have HE1 := Lib.hid (fun w3 hK3 => HE0.out w2 W w3 hb12 hKW hK3);clear HC HE0 KP hb1 hb2 hb12 HST hAt hKW hz HKD HTW;go_wp2_with fail;refine KG.mono ?_;rintro x w3 ⟨rfl,hK3⟩;have HE := Lib.hid (HE1.out w3 hK3);clear HE1 hK3;unfold Dr.dead at *;go_wp2_with fail;exact ⟨rfl,HE.out⟩
        | some r =>
          rw [hdg] at heq HKD;have hrl := Dr.digits_lt hdg;have HE0 := Lib.hid (fun (w1 W w3 : World) (hb1 : Below wr.heap.size wr w1) (hKW : Dr.Kept b w1 W) (hAt : Dr.At b S r g w3) (hK3 : Dr.Kept b W w3) => show (∃ l'',Dr.At b S l'' g w3 ∧ Dr.Kept b w w3 ∧ Dr.token l'' = R ∧ l''.length ≤ l.length) ∧ Dr.left b S w3 < Dr.left b S wr from
            ⟨⟨r,hAt,((hK.trans (Dr.Kept.of_below hb1)).trans hKW).trans hK3,by rw [← hR,heq],by omega⟩,by rw [hAt.left,HM.out]; omega⟩)
          generalize Dr.cp l' = c at *;generalize Dr.wd l' = n at *;clear hAle hA hK hR hll hp HP hTr HTr HM hpq hpS HF hl hb heq hok hwp hwl hdl hd h92 hdg hrl;go_wp2_with fail;refine KP.mono ?_;rintro x w1 ⟨rfl,hb1⟩;go_wp2_with fail;refine (KD.out _).mono ?_;rintro x w2 ⟨rfl,hb2⟩;have hb12 : Below wr.heap.size wr w2 := hb1.trans (hb2.mono hb1.size);obtain ⟨d0,d1,d2⟩ := HC.out w2 hb12;obtain ⟨W,hW,hfz,hAt,hKW,hz⟩ := HST.out w2 hb12;have KG := HKD.out W hAt (HTW.out w2 W hb12 hKW);have HE1 := Lib.hid (fun w3 hA3 hK3 => HE0.out w2 W w3 hb12 hKW hA3 hK3);clear HC HE0 KP hb1 hb2 hb12 HST hAt hKW hz HKD HTW;go_wp2_with fail;refine KG.mono ?_;rintro x w3 ⟨rfl,hA3,hK3⟩;have HE := Lib.hid (HE1.out w3 hA3 hK3);clear HE1 hK3 hA3;go_wp2_with fail;exact HE.out
      · rw [if_neg h92] at heq;have h92b : (Dr.cp l' == 92) = false := beq_eq_false_iff_ne.2 h92;have HE0 := Lib.hid (fun (w1 W : World) (hb1 : Below wr.heap.size wr w1) (hAt : Dr.At b S (l'.drop (Dr.wd l')) g W) (hKW : Dr.Kept b w1 W) => show (∃ l'',Dr.At b S l'' g W ∧ Dr.Kept b w W ∧ Dr.token l'' = R ∧ l''.length ≤ l.length) ∧ Dr.left b S W < Dr.left b S wr from
          ⟨⟨_,hAt,(hK.trans (Dr.Kept.of_below hb1)).trans hKW,by rw [← heq,hR],by omega⟩,by rw [hAt.left,HM.out]; exact hdl⟩)
        generalize Dr.cp l' = c at *;generalize Dr.wd l' = n at *;clear hAle hA hK hR hll hp HP hTr HTr HM hpq hpS HF hl hb heq hok hwp hwl hdl hd h92;go_wp2_with fail;refine KP.mono ?_;rintro x w1 ⟨rfl,hb1⟩;go_wp2_with fail;refine (KD.out _).mono ?_;rintro x w2 ⟨rfl,hb2⟩;have hb12 : Below wr.heap.size wr w2 := hb1.trans (hb2.mono hb1.size);obtain ⟨d0,d1,d2⟩ := HC.out w2 hb12;obtain ⟨W,hW,hfz,hAt,hKW,hz⟩ := HST.out w2 hb12;have HE := Lib.hid (HE0.out w2 W hb12 hAt hKW);clear HC HE0 KP hb1 hb2 hb12 HST hAt hKW hz;go_wp2_with fail;exact HE.out
theorem Tr.IsChar_any (n : Int) (w : World) : Calls Tryz.prog 49 #[.int .i64 n] w fun e w' => e = .returned (.bool (Tr.isChar n)) ∧ w = w' := by
 by_cases h1 : (0 ≤ n ∧ n ≤ 55295)
 · have h2 : Tr.isChar n = true := by simp [Tr.isChar,h1.1,h1.2]
   rw [h2];obtain ⟨h3,h4⟩ := h1;clear h2;go_enter Tryz.func49,Tryz.ntmps49;go_wp2_with fail;go_ret;exact ⟨rfl,rfl⟩
 · by_cases h5 : (57344 ≤ n ∧ n ≤ 1114111)
   · have h2 : Tr.isChar n = true := by simp [Tr.isChar,h5.1,h5.2]
     rw [h2];obtain ⟨h3,h4⟩ := h5;have h6 : ¬ n ≤ 55295 := by omega
     have h7 : (0 : Int) ≤ n := by omega
     clear h2 h1;go_enter Tryz.func49,Tryz.ntmps49;go_wp2_with fail;go_ret;exact ⟨rfl,rfl⟩
   · have h2 : Tr.isChar n = false := by simp [Tr.isChar]; omega
     rw [h2];clear h2;by_cases h0 : 0 ≤ n
     · have h3 : ¬ n ≤ 55295 := by omega
       by_cases h4 : 57344 ≤ n
       · have h6 : ¬ n ≤ 1114111 := by omega
         clear h1 h5;go_enter Tryz.func49,Tryz.ntmps49;go_wp2_with fail;go_ret;exact ⟨rfl,rfl⟩
       · clear h1 h5;go_enter Tryz.func49,Tryz.ntmps49;go_wp2_with fail;go_ret;exact ⟨rfl,rfl⟩
     · have h4 : ¬ 57344 ≤ n := by omega
       clear h1 h5;go_enter Tryz.func49,Tryz.ntmps49;go_wp2_with fail;go_ret;exact ⟨rfl,rfl⟩
set_option maxHeartbeats 200000
set_option maxRecDepth 512
theorem Dr.or16 (x y : Int) (h0 : 0 ≤ x) (h1 : x < 4294967296) (k0 : 0 ≤ y) (k1 : y < 16) : bits .or .i64 (x * 16) y = x * 16 + y :=
 bits_join .i64 63 (by decide) (fun n h0 h1 => by rw [IntKind.wrap_i64]; omega) 4 (x * 16) y (by omega) (by omega) (by omega) k0 k1 (by omega)
set_option maxRecDepth 100000
theorem Dr.tabV : ∀ n : Fin 256,Dr.hexB (UInt8.ofNat n.val) = true → (Lib.indexByte Dr.cX.data.toList (UInt8.ofNat n.val) ≤ 15 ∧ Lib.indexByte Dr.cX.data.toList (UInt8.ofNat n.val) = (Dr.hexV (UInt8.ofNat n.val) : Int)) ∨ (15 < Lib.indexByte Dr.cX.data.toList (UInt8.ofNat n.val) ∧ Lib.indexByte Dr.cX.data.toList (UInt8.ofNat n.val) - 6 = (Dr.hexV (UInt8.ofNat n.val) : Int) ∧ Lib.indexByte Dr.cX.data.toList (UInt8.ofNat n.val) ≤ 21) := by decide +kernel
theorem Dr.tabV2 : ∀ n : Fin 256,Dr.hexB (UInt8.ofNat n.val) = true → Dr.hexV (UInt8.ofNat n.val) < 16 := by decide +kernel
set_option maxRecDepth 512
theorem Dr.ixV (x : UInt8) (h : Dr.hexB x = true) : (Lib.indexByte Dr.cX.data.toList x ≤ 15 ∧ Lib.indexByte Dr.cX.data.toList x = (Dr.hexV x : Int)) ∨ (15 < Lib.indexByte Dr.cX.data.toList x ∧ Lib.indexByte Dr.cX.data.toList x - 6 = (Dr.hexV x : Int) ∧ Lib.indexByte Dr.cX.data.toList x ≤ 21) := by
 have := Dr.tabV ⟨x.toNat,x.toNat_lt⟩;simp only [UInt8.ofNat_toNat] at this;exact this h
theorem Dr.hexV_lt (x : UInt8) (h : Dr.hexB x = true) : Dr.hexV x < 16 := by
 have := Dr.tabV2 ⟨x.toNat,x.toNat_lt⟩;simp only [UInt8.ofNat_toNat] at this;exact this h
def Dr.hexN (l : List UInt8) : Nat := l.foldl (fun n b => 16 * n + Dr.hexV b) 0
theorem Dr.hexN_snoc (l : List UInt8) (x : UInt8) : Dr.hexN (l ++ [x]) = 16 * Dr.hexN l + Dr.hexV x := by simp [Dr.hexN]
theorem Dr.hexN_lt : ∀ (n : Nat) (l : List UInt8),l.length = n → l.all Dr.hexB = true → Dr.hexN l < 16 ^ n
 | 0,l,h,_ => by rw [List.length_eq_zero_iff.1 h]; decide
 | n + 1,l,h,ha => by
   have hne : l ≠ [] := fun e => by rw [e] at h; cases h
   rw [← List.dropLast_concat_getLast hne] at ha ⊢;rw [List.all_append,Bool.and_eq_true] at ha;have h1 := Dr.hexN_lt n l.dropLast (by rw [List.length_dropLast]; omega) ha.1;have h2 := Dr.hexV_lt (l.getLast hne) (by simpa using ha.2);rw [Dr.hexN_snoc,Nat.pow_succ];omega
def Dr.PostC (w : World) (R : Option Int) (e : Ending) (w' : World) : Prop :=
 match R with
 | none => e = Dr.dead ∧ w = w'
 | some c => e = .returned (.int .i32 c) ∧ w = w'
theorem Dr.hex_some {l : List UInt8} (h1 : 1 ≤ l.length) (h2 : l.length ≤ 8) (h3 : l.all Dr.hexB = true) : Dr.hex l = if Tr.isChar ((Dr.hexN l : Nat) : Int) = true then some ((Dr.hexN l : Nat) : Int) else none := by
 unfold Dr.hex;rw [decide_eq_true h1,decide_eq_true h2,h3];rfl
theorem Dr.hex_none {l : List UInt8} (h : l.length < 1 ∨ 8 < l.length ∨ l.all Dr.hexB = false) : Dr.hex l = none := by
 unfold Dr.hex;rw [if_neg];intro e;simp only [Bool.and_eq_true,decide_eq_true_eq] at e;obtain ⟨⟨⟨e1,e2⟩,e3⟩,e4⟩ := e;rcases h with h | h | h
 · omega
 · omega
 · rw [h] at e3; cases e3
set_option maxHeartbeats 4000000
set_option maxRecDepth 1000000
theorem Dr.hex_any (p : Value) (s : ByteArray) (w : World) (hs : s.size ≤ 9223372036854775807) :
 Calls Tryz.prog 73 #[p,.string s] w fun e w' => Dr.PostC w (Dr.hex s.data.toList) e w' := by
 have hlen : s.data.toList.length = s.size := by simp
 by_cases h1 : s.size < 1
 · have HE := Lib.hid (show Dr.PostC w (Dr.hex s.data.toList) Dr.dead w from by rw [Dr.hex_none (.inl (by omega))]; exact ⟨rfl,rfl⟩);have h1i : (s.size : Int) < 1 := by omega
   clear hlen h1;go_enter Tryz.func73,Tryz.ntmps73;go_wp2_with fail;refine (Dr.stop_any _ _).mono ?_;rintro x w3 ⟨rfl,hw3⟩;subst hw3;unfold Dr.dead at *;go_wp2_with fail;exact ⟨rfl,HE.out⟩
 by_cases h2 : 8 < s.size
 · have HE := Lib.hid (show Dr.PostC w (Dr.hex s.data.toList) Dr.dead w from by rw [Dr.hex_none (.inr (.inl (by omega)))]; exact ⟨rfl,rfl⟩);have h1i : 1 ≤ (s.size : Int) := by omega
   have h2i : 8 < (s.size : Int) := by omega
   clear hlen h1 h2;go_enter Tryz.func73,Tryz.ntmps73;go_wp2_with fail;refine (Dr.stop_any _ _).mono ?_;rintro x w3 ⟨rfl,hw3⟩;subst hw3;unfold Dr.dead at *;go_wp2_with fail;exact ⟨rfl,HE.out⟩
 obtain ⟨R,hR⟩ : ∃ z,Dr.hex s.data.toList = z := ⟨_,rfl⟩
 rw [hR]
 have HR := Lib.hid hR
 have HLEN := Lib.hid hlen
 have h1i : 1 ≤ (s.size : Int) := by omega
 have h2i : (s.size : Int) ≤ 8 := by omega
 have h1n : 1 ≤ s.size := by omega
 have h2n : s.size ≤ 8 := by omega
 clear hlen h1 h2 hR
 go_enter Tryz.func73,Tryz.ntmps73
 go_wp2_with fail
 go_loop [5,20] (fun n i => ∃ k : Nat,k ≤ s.size ∧ i = .int .i64 (k : Int) ∧ n = .int .i64 ((Dr.hexN (s.data.toList.take k) : Nat) : Int) ∧ (s.data.toList.take k).all Dr.hexB = true) (fun _ i => s.size - (intOf i).toNat)
 case atStart => exact ⟨0,Nat.zero_le _,rfl,rfl,rfl⟩
 case round =>
  obtain ⟨k,hk,rfl,rfl,ha⟩ := hrel
  have hlt8 : Dr.hexN (s.data.toList.take k) < 4294967296 := by
   have h := Dr.hexN_lt _ (s.data.toList.take k) rfl ha;have h2 : (s.data.toList.take k).length ≤ 8 := by rw [List.length_take]; omega
   have h3 : 16 ^ (s.data.toList.take k).length ≤ 16 ^ 8 := Nat.pow_le_pow_right (by decide) h2;have h4 : (16 : Nat) ^ 8 = 4294967296 := by decide
   omega
  by_cases hlt : k < s.size
  · have htake : s.data.toList.take (k + 1) = s.data.toList.take k ++ [s[k]'hlt] := by
     rw [List.take_succ_eq_append_getElem (by simpa using hlt)]; rfl
    have KI : ∀ w',Calls Tryz.prog 95 #[.string Dr.cX,.int .u8 ((s[k]'hlt).toNat : Int)] w' fun e w'' => e = .returned (.int .i64 (Lib.indexByte Dr.cX.data.toList (s[k]'hlt))) ∧ w' = w'' := fun w' => by
     refine (Tryz.strings_IndexByte Dr.cX ((s[k]'hlt).toNat : Int) w').mono ?_;rintro e w'' ⟨rfl,rfl⟩;simp
    have hk1 := Dr.ixX (s[k]'hlt);have hkV := Dr.ixV (s[k]'hlt);have hV16 := Dr.hexV_lt (s[k]'hlt);have hN1 := Dr.hexN_snoc (s.data.toList.take k) (s[k]'hlt);rw [← htake] at hN1;have hall1 : (s.data.toList.take (k + 1)).all Dr.hexB = Dr.hexB (s[k]'hlt) := by rw [htake,List.all_append,ha]; simp
    have hall2 : Dr.hexB (s[k]'hlt) = false → s.data.toList.all Dr.hexB = false := fun e => by
     rw [e] at hall1;rw [← List.take_append_drop (k + 1) s.data.toList,List.all_append,hall1];rfl
    obtain ⟨j,hj⟩ : ∃ z,Lib.indexByte Dr.cX.data.toList (s[k]'hlt) = z := ⟨_,rfl⟩;rw [hj] at KI hk1 hkV;unfold Dr.cX at KI;have KI := Lib.hid KI;obtain ⟨N,hN⟩ : ∃ z,Dr.hexN (s.data.toList.take k) = z := ⟨_,rfl⟩;rw [hN] at hlt8 hN1 ⊢;have HN1 := Lib.hid hN1;have hltI : (k : Int) < (s.size : Int) := by omega
    have hk0 : 0 ≤ (k : Int) := by omega
    clear hj hN hN1 htake ha;cases hX : Dr.hexB (s[k]'hlt) with
    | false =>
      have hk2 : decide (0 ≤ j) = false := by rw [hk1,hX]
      have hk3 : j < 0 := by have := of_decide_eq_false hk2; omega
      have HE := Lib.hid (show Dr.PostC w R Dr.dead w from by rw [← HR.out,Dr.hex_none (.inr (.inr (hall2 hX)))]; exact ⟨rfl,rfl⟩);clear hk1 hkV hV16 hall1 hall2 hX HN1 hk2;go_wp2_with (first | (go_at_call 95; refine (KI.out _).mono ?_; rintro x w2 ⟨rfl,rfl⟩));refine (Dr.stop_any _ _).mono ?_;rintro x w3 ⟨rfl,hw3⟩;subst hw3;unfold Dr.dead at *;go_wp2_with fail;exact ⟨rfl,HE.out⟩
    | true =>
      have hk3 : 0 ≤ j := of_decide_eq_true (by rw [hk1,hX]);have hV := hV16 hX;have HA1 := Lib.hid (hall1.trans hX);rcases hkV hX with ⟨q1,q2⟩ | ⟨q1,q2,q3⟩
      · have HQ := Lib.hid q2;have hor : bits .or .i64 ((N : Int) * 16) j = (N : Int) * 16 + j := Dr.or16 _ _ (by omega) (by omega) hk3 (by omega);clear hk1 hkV hV16 hall1 hall2 hX q2;go_wp2_with (first | (go_at_call 95; refine (KI.out _).mono ?_; rintro x w2 ⟨rfl,rfl⟩));exact ⟨⟨k + 1,hlt,rfl,congrArg (Value.int .i64) (by rw [HN1.out]; have := HQ.out; omega),HA1.out⟩,by simp [intOf]; omega⟩
      · have HQ := Lib.hid q2;have hor : bits .or .i64 ((N : Int) * 16) (j - 6) = (N : Int) * 16 + (j - 6) := Dr.or16 _ _ (by omega) (by omega) (by omega) (by omega);clear hk1 hkV hV16 hall1 hall2 hX q2;go_wp2_with (first | (go_at_call 95; refine (KI.out _).mono ?_; rintro x w2 ⟨rfl,rfl⟩));exact ⟨⟨k + 1,hlt,rfl,congrArg (Value.int .i64) (by rw [HN1.out]; have := HQ.out; omega),HA1.out⟩,by simp [intOf]; omega⟩
  · have hke : k = s.size := by omega
    have htk : s.data.toList.take k = s.data.toList := List.take_of_length_le (by rw [HLEN.out]; omega);rw [htk] at ha hlt8 ⊢;have hx := Dr.hex_some (by rw [HLEN.out]; exact h1n) (by rw [HLEN.out]; exact h2n) ha;rw [HR.out] at hx;obtain ⟨N,hN⟩ : ∃ z,Dr.hexN s.data.toList = z := ⟨_,rfl⟩;rw [hN] at hx hlt8 ⊢;have KC := fun w' => Tr.IsChar_any (N : Int) w';have hnk : ¬ k < s.size := hlt;have hnk2 : ¬ ((k : Int) < (s.size : Int)) := by omega
    cases hc : Tr.isChar (N : Int) with
    | true =>
      rw [if_pos hc] at hx;rw [hc] at KC;have hb : (N : Int) ≤ 1114111 := by
       simp only [Tr.isChar,Bool.or_eq_true,Bool.and_eq_true,decide_eq_true_eq] at hc;omega
      have hb0 : 0 ≤ (N : Int) := by omega
      have HE := Lib.hid (show Dr.PostC w R (.returned (.int .i32 (N : Int))) w from by rw [hx]; exact ⟨rfl,rfl⟩);clear hx htk ha hN hc hke;go_wp2_with (first | (go_at_call 49; refine (KC _).mono ?_; rintro x w2 ⟨rfl,rfl⟩));go_ret;exact HE.out
    | false =>
      rw [if_neg (by rw [hc]; simp)] at hx;rw [hc] at KC;have HE := Lib.hid (show Dr.PostC w R Dr.dead w from by rw [hx]; exact ⟨rfl,rfl⟩);clear hx htk ha hN hc hke;go_wp2_with (first | (go_at_call 49; refine (KC _).mono ?_; rintro x w2 ⟨rfl,rfl⟩));refine (Dr.stop_any _ _).mono ?_;rintro x w3 ⟨rfl,hw3⟩;subst hw3;unfold Dr.dead at *;go_wp2_with fail;exact ⟨rfl,HE.out⟩
set_option maxHeartbeats 200000
set_option maxRecDepth 512
theorem Dr.enc_of {l : List UInt8} (h : l ≠ []) (hb : Dr.bad l = false) : Lib.encodeRune (Dr.cp l) = l.take (Dr.wd l) := by
 refine Lib.encode_decode l h ?_;rintro ⟨e1,e2⟩;have h1 : Dr.cp l = 65533 := by unfold Dr.cp; omega
 have h2 : Dr.wd l = 1 := e2;unfold Dr.bad at hb;rw [h1,h2] at hb;simp at hb
theorem Dr.wd_one {l : List UInt8} (h : l ≠ []) (hb : Dr.bad l = false) (h0 : 0 ≤ Dr.cp l) (h1 : Dr.cp l ≤ 127) : Dr.wd l = 1 := by
 have e := congrArg List.length (Dr.enc_of h hb);have e2 : (Lib.encodeRune (Dr.cp l)).length = 1 := by
  generalize Dr.cp l = c at h0 h1;unfold Lib.encodeRune;rw [Lib.encodeRuneZ_one h0 h1];rfl
 rw [e2,List.length_take] at e;have := Dr.wd_le h;omega
theorem Dr.escEnd_eq (l : List UInt8) : Dr.escEnd l = match Dr.next l with | none => none | some (c,r) => if c = 59 then some ([],r) else (Dr.escEnd r).map fun x => (l.take (Dr.wd l) ++ x.1,x.2) := by
 rw [Dr.escEnd];unfold Dr.next;by_cases h : l = []
 · rw [dif_pos h,if_pos h]
 · rw [dif_neg h,if_neg h];cases Dr.bad l <;> simp
def Dr.PostE (b : Nat) (S : ByteArray) (g : Bool) (w : World) (R : Option (Int × List UInt8)) (e : Ending) (w' : World) : Prop :=
 match R with
 | none => e = Dr.dead ∧ Dr.Kept b w w'
 | some (c,r) => e = .returned (.int .i32 c) ∧ Dr.At b S r g w' ∧ Dr.Kept b w w'
theorem Dr.next_bad {l r : List UInt8} {c : Int} (h : Dr.next l = some (c,r)) : Dr.bad l = false := by
 unfold Dr.next at h;split at h
 · cases h
 · split at h
   · cases h
   · rename_i hb;cases e : Dr.bad l
     · rfl
     · exact absurd e hb
theorem Dr.next_len {l r : List UInt8} {c : Int} (h : Dr.next l = some (c,r)) : r.length + Dr.wd l = l.length := by
 obtain ⟨h1,h2,h3⟩ := Dr.next_drop h;have := Dr.wd_le h3;rw [h1,List.length_drop];omega
theorem Dr.next_ok32 {l r : List UInt8} {c : Int} (h : Dr.next l = some (c,r)) : Ru.okR c := by
 obtain ⟨h1,h2,h3⟩ := Dr.next_drop h;rw [h2];exact Ru.decode_ok l h3
def Dr.Esc (l pre l' : List UInt8) : Prop := l = pre ++ l' ∧ Dr.escEnd l = (Dr.escEnd l').map fun x => (pre ++ x.1,x.2)
theorem Dr.Esc.step {l pre l' r : List UInt8} {c : Int} (h : Dr.Esc l pre l') (hn : Dr.next l' = some (c,r)) (hc : ¬ c = 59) : Dr.Esc l (pre ++ l'.take (Dr.wd l')) r := by
 obtain ⟨h1,h2,h3⟩ := Dr.next_drop hn;refine ⟨by rw [h.1,h1,List.append_assoc,List.take_append_drop],?_⟩;rw [h.2,Dr.escEnd_eq l',hn];simp only;rw [if_neg hc];cases Dr.escEnd r <;> simp
theorem Dr.Esc.stop {l pre l' r : List UInt8} (h : Dr.Esc l pre l') (hn : Dr.next l' = some (59,r)) : Dr.esc l = (Dr.hex pre).map fun c => (c,r) := by
 unfold Dr.esc;rw [h.2,Dr.escEnd_eq l',hn];simp
theorem Dr.Esc.dead {l pre l' : List UInt8} (h : Dr.Esc l pre l') (hn : Dr.next l' = none) : Dr.esc l = none := by
 unfold Dr.esc;rw [h.2,Dr.escEnd_eq l',hn];simp
set_option maxHeartbeats 4000000
set_option maxRecDepth 1000000
theorem Dr.escape_any (b : Nat) (S : ByteArray) (g : Bool) (l : List UInt8) (w : World) (h : Dr.At b S l g w) (hs : S.size ≤ 9223372036854775807) (hT : Dr.Tabs w) :
 Calls Tryz.prog 68 #[.pointer (some ⟨b,0,none⟩)] w fun e w' => Dr.PostE b S g w (Dr.esc l) e w' := by
 obtain ⟨R,hR⟩ : ∃ z,Dr.esc l = z := ⟨_,rfl⟩
 rw [hR]
 have HAT := Lib.hid h
 have HNE := Lib.hid (And.intro hT (h.tabs_ne hT))
 have H0 := Lib.hid (show ∃ pre l',Dr.At b S l' g w ∧ Dr.Kept b w w ∧ Dr.Esc l pre l' from ⟨[],l,h,Dr.Kept.refl _ _,rfl,by cases Dr.escEnd l <;> simp⟩)
 have HR := Lib.hid hR
 obtain ⟨c0,c1,c2⟩ := h.cells
 obtain ⟨hq1,hq2⟩ := h.range
 obtain ⟨q,hq⟩ : ∃ z,S.size - l.length = z := ⟨_,rfl⟩
 have HQ := Lib.hid hq
 rw [hq] at c1 hq1 hq2
 clear h hT hR hq
 go_enter Tryz.func68,Tryz.ntmps68
 go_wp2_with fail
 go_loopw [] (fun wr => ∃ pre l',Dr.At b S l' g wr ∧ Dr.Kept b w wr ∧ Dr.Esc l pre l') (fun wr => Dr.left b S wr)
 case atStart => exact H0.out
 case round =>
  obtain ⟨pre,l',hA,hK,hE⟩ := hrel
  clear H0 c0 c1 c2
  have hTr : Dr.Tabs wr := Dr.tabs_kept HNE.out.1 HNE.out.2.1 HNE.out.2.2 hK
  have HM := Lib.hid hA.left
  cases hn : Dr.next l' with
  | none =>
    have KF := Dr.next_none b S l' g wr hA hn hTr
    have HE0 := Lib.hid (fun (w1 : World) (hb1 : Below wr.heap.size wr w1) => show Dr.PostE b S g w R Dr.dead w1 from by
      rw [← HR.out,hE.dead hn]
      exact ⟨rfl,hK.trans (Dr.Kept.of_below hb1)⟩)
    clear hA hK hE hTr HM hn
    go_wp2_with fail
    refine KF.mono ?_
    rintro x w1 ⟨rfl,hb1⟩
    have HE := Lib.hid (HE0.out w1 hb1)
    clear HE0 hb1
    unfold Dr.dead at *
    go_wp2_with fail
    exact ⟨rfl,HE.out⟩
  | some x =>
    obtain ⟨c,r⟩ := x
    have KN := Dr.next_ok b S l' g c r wr hA hs hn hTr
    have hlt := Dr.next_lt hn
    by_cases h59 : c = 59
    · subst h59;have hst := hE.stop hn;rw [HR.out] at hst;have hAle := hA.le;have hl1 : r.length + 1 = l'.length := by
       have h1 := Dr.next_len hn;obtain ⟨h2,h3,h4⟩ := Dr.next_drop hn;rw [Dr.wd_one h4 (Dr.next_bad hn) (by rw [← h3]; decide) (by rw [← h3]; decide)] at h1;exact h1
      have hpl : l.length = pre.length + l'.length := by rw [hE.1,List.length_append]
      have hql := HQ.out;have hle0 := HAT.out.le;obtain ⟨p,hp⟩ : ∃ z,q + pre.length = z := ⟨_,rfl⟩;have hcell : S.size - r.length = p + 1 := by omega
      have hsub : S.extract q p = ⟨pre.toArray⟩ := by
       have h1 := HAT.out.between hA (by omega);rw [hql,show S.size - l'.length = p by omega] at h1;rw [h1,hE.1];unfold Dr.upto;rw [List.length_append,Nat.add_sub_cancel,List.take_left]
      have hqp : (q : Int) ≤ (p : Int) := by omega
      have hps : (p : Int) ≤ (S.size : Int) := by omega
      have hp0 : 0 ≤ (p : Int) := by omega
      have hw : IntKind.i64.wrap ((p : Int) + 1 - 1) = (p : Int) := by rw [IntKind.wrap_i64]; omega
      have hw2 : IntKind.i64.wrap (p : Int) = (p : Int) := by rw [IntKind.wrap_i64]; omega
      have hw3 : (p : Int) + 1 - 1 = (p : Int) := by omega
      have KH := Lib.hid (fun (v : Value) (w' : World) => Dr.hex_any v ⟨pre.toArray⟩ w' (by show pre.toArray.size ≤ _; simp; omega));have HE0 := Lib.hid (fun (w1 : World) (hA1 : Dr.At b S r g w1) (hK1 : Dr.Kept b wr w1) (w2 : World) (hb : Below w1.heap.size w1 w2) => And.intro (show Dr.hex pre = none → Dr.PostE b S g w R Dr.dead w2 from fun e => by
          rw [hst,e]
          exact ⟨rfl,(hK.trans hK1).trans (Dr.Kept.of_below hb)⟩) (show ∀ d,Dr.hex pre = some d → Dr.PostE b S g w R (.returned (.int .i32 d)) w2 from fun d e => by
          rw [hst,e]
          exact ⟨rfl,hA1.below hb,(hK.trans hK1).trans (Dr.Kept.of_below hb)⟩))
      clear hA hK hE hTr HM hn hlt hst hAle hl1 hpl hql hle0 hp;go_wp2_with fail;refine KN.mono ?_;rintro x w1 ⟨rfl,hA1,hK1⟩;obtain ⟨d0,d1,d2⟩ := hA1.cells;rw [hcell] at d1;have HE1 := Lib.hid (HE0.out w1 hA1 hK1 w1.drew (Below.drew (Below.refl _ _)));have hcast : (((p + 1 : Nat)) : Int) = (p : Int) + 1 := rfl;rw [hcast] at d1;clear HE0 hA1 hK1 hcell hcast;have KH1 := KH.out (.pointer (some ⟨b,0,none⟩)) w1.drew;change Calls _ _ _ _ (fun e w' => Dr.PostC w1.drew (Dr.hex pre) e w') at KH1;cases hx : Dr.hex pre with
      | none =>
        rw [hx] at KH1 HE1;have HE := Lib.hid (HE1.out.1 rfl);clear HE1 KH hx;have KH1 := Lib.hid KH1;go_wp2_with fail;go_still_tail 12,(by kernel_rfl);change wpList _ _ _ _ _ w1.drew;go_wp2_with fail;refine KH1.out.mono ?_;rintro x w2 ⟨rfl,rfl⟩;unfold Dr.dead at *;go_wp2_with fail;exact ⟨rfl,HE.out⟩
      | some d =>
        rw [hx] at KH1 HE1;have HE := Lib.hid (HE1.out.2 d rfl);clear HE1 KH hx;have KH1 := Lib.hid KH1;go_wp2_with fail;go_region_held3 (fun w' => w'.cell? ⟨b,0,none⟩ = some (.string S) ∧ w'.cell? ⟨b,1,none⟩ = some (.int .i64 ((p : Int) + 1)))
         (go_keep)
         (first
           | (go_at_call 73
              refine KH1.out.mono ?_
              rintro x w2 ⟨rfl,rfl⟩))
        go_wp2_with fail;go_ret;exact HE.out
    · have hcb : (c != 59) = true := bne_iff_ne.2 h59;have hE2 := hE.step hn h59;have HE0 := Lib.hid (fun (w1 : World) (hA1 : Dr.At b S r g w1) (hK1 : Dr.Kept b wr w1) => show (∃ pre l',Dr.At b S l' g w1 ∧ Dr.Kept b w w1 ∧ Dr.Esc l pre l') ∧ Dr.left b S w1 < Dr.left b S wr from
        ⟨⟨_,r,hA1,hK.trans hK1,hE2⟩,by rw [hA1.left,HM.out]; exact hlt⟩)
      clear hA hK hE hTr HM hn hlt hE2 h59;go_wp2_with fail;refine KN.mono ?_;rintro x w1 ⟨rfl,hA1,hK1⟩;have HE := Lib.hid (HE0.out w1 hA1 hK1);clear HE0 hA1 hK1;go_wp2_with fail;exact HE.out
set_option maxHeartbeats 200000
set_option maxRecDepth 512
theorem Dr.Bu.byteI {B k : Nat} {bs : List UInt8} {w : World} (h : Dr.Bu B k bs w) (c : UInt8) (m : Int) (hm : m = (c.toNat : Int)) (hl : bs.length ≤ 4194304) :
 Calls Tryz.prog 61 #[.pointer (some ⟨k,0,none⟩),.int .u8 m] w fun e w' => e = .returned .nilIface ∧ Dr.Bu B k (bs ++ [c]) w' ∧ Below B w w' := by
 subst hm
 exact h.byte c hl
theorem Dr.text_eq (l : List UInt8) : Dr.text l = match Dr.txt1 l with | .no => none | .stop r => some ([],r) | .go b r => (Dr.text r).map fun x => (b ++ x.1,x.2) := by
 rw [Dr.text];split <;> (rename_i e; rw [e])
def Dr.Txt (l bs l' : List UInt8) : Prop := Dr.text l = (Dr.text l').map fun x => (bs ++ x.1,x.2)
theorem Dr.Txt.step {l bs l' b r : List UInt8} (h : Dr.Txt l bs l') (hn : Dr.txt1 l' = .go b r) : Dr.Txt l (bs ++ b) r := by
 unfold Dr.Txt at *;rw [h,Dr.text_eq l',hn];show Option.map _ (Option.map _ (Dr.text r)) = Option.map _ (Dr.text r);rw [Option.map_map];congr 1;funext x;simp
theorem Dr.Txt.stop {l bs l' r : List UInt8} (h : Dr.Txt l bs l') (hn : Dr.txt1 l' = .stop r) : Dr.text l = some (bs,r) := by
 unfold Dr.Txt at *;rw [h,Dr.text_eq l',hn];simp
theorem Dr.Txt.dead {l bs l' : List UInt8} (h : Dr.Txt l bs l') (hn : Dr.txt1 l' = .no) : Dr.text l = none := by
 unfold Dr.Txt at *;rw [h,Dr.text_eq l',hn];rfl
def Dr.PostX (b : Nat) (S : ByteArray) (g : Bool) (w : World) (R : Option (List UInt8 × List UInt8)) (e : Ending) (w' : World) : Prop :=
 match R with
 | none => e = Dr.dead ∧ Dr.Kept b w w'
 | some (x,r) => e = .returned (.string ⟨x.toArray⟩) ∧ Dr.At b S r g w' ∧ Dr.Kept b w w'
theorem Dr.hex_ok {l : List UInt8} {c : Int} (h : Dr.hex l = some c) : Ru.okR c := by
 unfold Dr.hex at h;split at h
 · rename_i hc;simp only [Option.some.injEq] at h;simp only [Bool.and_eq_true] at hc;have h2 := hc.2;rw [h] at h2;simp only [Tr.isChar,Bool.or_eq_true,Bool.and_eq_true,decide_eq_true_eq] at h2;unfold Ru.okR;omega
 · cases h
theorem Dr.esc_ok {l r : List UInt8} {c : Int} (h : Dr.esc l = some (c,r)) : Ru.okR c := by
 unfold Dr.esc at h;split at h
 · cases h
 · rename_i x hx;cases hh : Dr.hex x.1 with
   | none => rw [hh] at h; cases h
   | some d =>
     rw [hh] at h;simp only [Option.map_some,Option.some.injEq,Prod.mk.injEq] at h;rw [← h.1];exact Dr.hex_ok hh
set_option maxHeartbeats 16000000
set_option maxRecDepth 1000000
theorem Dr.text_any (b : Nat) (S : ByteArray) (g : Bool) (l : List UInt8) (w : World) (h : Dr.At b S l g w) (hs : S.size ≤ 1048576) (hT : Dr.Tabs w) :
 Calls Tryz.prog 39 #[.pointer (some ⟨b,0,none⟩)] w fun e w' => Dr.PostX b S g w (Dr.text l) e w' := by
 obtain ⟨R,hR⟩ : ∃ z,Dr.text l = z := ⟨_,rfl⟩
 rw [hR]
 have HR := Lib.hid hR
 have HNE := Lib.hid (And.intro hT (h.tabs_ne hT))
 have hlB := h.lt
 have hle0 := h.le
 have hal : Below w.heap.size w (w.alloc (.cells #[.pointer none,.slice none 0 0] 63)) := (Below.refl _ _).alloc (Nat.le_refl _) _
 have H0 := Lib.hid (show ∃ l' bs,Dr.At b S l' g (w.alloc (.cells #[.pointer none,.slice none 0 0] 63)) ∧ Dr.Kept b w (w.alloc (.cells #[.pointer none,.slice none 0 0] 63)) ∧ Dr.Bu w.heap.size w.heap.size bs (w.alloc (.cells #[.pointer none,.slice none 0 0] 63)) ∧ Dr.Txt l bs l' ∧ bs.length + 4 * l'.length ≤ 4 * l.length from
   ⟨l,[],h.below hal,Dr.Kept.of_below hal,Dr.Bu.fresh w,by unfold Dr.Txt; cases Dr.text l <;> simp,by simp⟩)
 obtain ⟨B,hB⟩ : ∃ z,w.heap.size = z := ⟨_,rfl⟩
 have HBE := Lib.hid hB
 clear h hT hR hal
 go_enter Tryz.func39,Tryz.ntmps39
 go_wp2_with fail
 rw [hB] at H0
 go_loopw [] (fun wr => ∃ l' bs,Dr.At b S l' g wr ∧ Dr.Kept b w wr ∧ Dr.Bu B B bs wr ∧ Dr.Txt l bs l' ∧ bs.length + 4 * l'.length ≤ 4 * l.length) (fun wr => Dr.left b S wr)
 case atStart => exact H0.out
 case round =>
  obtain ⟨l',bs,hA,hK,hBu,hTx,hbl⟩ := hrel
  clear H0
  have hTr : Dr.Tabs wr := Dr.tabs_kept HNE.out.1 HNE.out.2.1 HNE.out.2.2 hK
  have hAle := hA.le
  have hb41 : bs.length ≤ 4194304 := by omega
  have hbB : b < B := by rw [← hB]; exact hlB
  have HG := Lib.hid (fun (bts r3 : List UInt8) (hstep : Dr.txt1 l' = .go bts r3) (hb4 : bts.length ≤ 4) (W : World) (hAt : Dr.At b S r3 g W) (hK2 : Dr.Kept b w W) (hB2 : Dr.Bu B B (bs ++ bts) W) =>
    show (∃ l' bs,Dr.At b S l' g W ∧ Dr.Kept b w W ∧ Dr.Bu B B bs W ∧ Dr.Txt l bs l' ∧ bs.length + 4 * l'.length ≤ 4 * l.length) ∧ Dr.left b S W < Dr.left b S wr from by
     have hlt := Dr.txt1_lt hstep
     exact ⟨⟨r3,bs ++ bts,hAt,hK2,hB2,hTx.step hstep,by rw [List.length_append]; omega⟩,by rw [hAt.left,hA.left]; exact hlt⟩)
  have HX := Lib.hid (fun (hno : Dr.txt1 l' = .no) (W : World) (hK2 : Dr.Kept b w W) => show Dr.PostX b S g w R Dr.dead W from by
    rw [← HR.out,hTx.dead hno]
    exact ⟨rfl,hK2⟩)
  have HZ := Lib.hid (fun (r3 : List UInt8) (hno : Dr.txt1 l' = .stop r3) (W : World) (hAt : Dr.At b S r3 g W) (hK2 : Dr.Kept b w W) => show Dr.PostX b S g w R (.returned (.string ⟨bs.toArray⟩)) W from by
    rw [← HR.out,hTx.stop hno]
    exact ⟨rfl,hAt,hK2⟩)
  have HBL := Lib.hid (fun (w1 W : World) (hK1 : Dr.Kept b w w1) (hb : Below B w1 W) => show Dr.Kept b w W from hK1.belowB (hB.symm ▸ hb))
  cases hn : Dr.next l' with
  | none =>
    have KF := Dr.next_none b S l' g wr hA hn hTr
    have hno : Dr.txt1 l' = .no := by unfold Dr.txt1; rw [hn]
    have HE0 := Lib.hid (fun (w1 : World) (hb1 : Below wr.heap.size wr w1) => HX.out hno w1 (hK.trans (Dr.Kept.of_below hb1)))
    clear hA hK hBu hTx hbl hTr hAle hn hno HG HX HZ HBL hB hb41 hbB hlB hle0
    go_wp2_with fail
    refine KF.mono ?_
    rintro x w1 ⟨rfl,hb1⟩
    have HE := Lib.hid (HE0.out w1 hb1)
    clear HE0 hb1
    unfold Dr.dead at *
    go_wp2_with fail
    exact ⟨rfl,HE.out⟩
  | some x =>
    obtain ⟨c,r⟩ := x
    have KN := Dr.next_ok b S l' g c r wr hA (by omega) hn hTr
    have hok := Dr.next_ok32 hn
    have HW1 := Lib.hid (fun (w1 : World) (hA1 : Dr.At b S r g w1) (hK1 : Dr.Kept b wr w1) => show Dr.Kept b w w1 ∧ Dr.Bu B B bs w1 ∧ Dr.Tabs w1 from ⟨hK.trans hK1,hBu.kept hK1 hbB,Dr.tabs_kept HNE.out.1 HNE.out.2.1 HNE.out.2.2 (hK.trans hK1)⟩)
    have hsz : S.size ≤ 9223372036854775807 := by omega
    clear hA hK hBu hTx hbl hTr hAle hB hlB hle0
    have htx : Dr.txt1 l' = (if c = 34 then .stop r
      else if c = 92 then
       (match Dr.next r with
       | none => .no
       | some (c2,r2) =>
         if c2 = 120 then (match Dr.esc r2 with | none => .no | some (d,r3) => .go (Lib.encodeRune d) r3)
         else (match Dr.unesc c2 with | none => .no | some b => .go [b] r2))
      else if c = 13 then (match Dr.ret r with | none => .no | some r2 => .go [10] r2)
      else if (decide (c = 133) || decide (c = 8232)) = true then .go [10] r
      else .go (Lib.encodeRune c) r) := by unfold Dr.txt1; rw [hn]; rfl
    clear hn
    by_cases h34 : c = 34
    · rw [if_pos h34] at htx;have HTX := Lib.hid htx;subst h34;clear htx;go_wp2_with fail;refine KN.mono ?_;rintro x w1 ⟨rfl,hA1,hK1⟩;obtain ⟨hK2,hB2,hT2⟩ := HW1.out w1 hA1 hK1;have KW := Lib.hid hB2.string;have HE0 := Lib.hid (fun (W : World) (hb : Below B w1 W) => HZ.out _ HTX.out W (hA1.belowB hb hbB) (HBL.out w1 W hK2 hb));clear HW1 hA1 hK1 hK2 hB2 hT2 HG HX HZ HBL HTX hok hbB hb41;go_wp2_with fail;refine KW.out.mono ?_;rintro x w2 ⟨rfl,hb3⟩;have HE := Lib.hid (HE0.out w2 hb3);clear HE0 hb3 KW;go_wp2_with fail;go_ret;exact HE.out
    have e34 : (c == 34) = false := beq_eq_false_iff_ne.2 h34
    rw [if_neg h34] at htx
    by_cases h92 : c = 92
    · rw [if_pos h92] at htx;subst h92;cases hn2 : Dr.next r with
      | none =>
        rw [hn2] at htx;have HTX := Lib.hid (show Dr.txt1 l' = .no from htx);clear htx h34;go_wp2_with fail;refine KN.mono ?_;rintro x w1 ⟨rfl,hA1,hK1⟩;obtain ⟨hK2,hB2,hT2⟩ := HW1.out w1 hA1 hK1;have KP := Lib.hid (Dr.next_none b S r g w1 hA1 hn2 hT2);have HE0 := Lib.hid (fun (w2 : World) (hb2 : Below w1.heap.size w1 w2) => HX.out HTX.out w2 (hK2.trans (Dr.Kept.of_below hb2)));clear HW1 hA1 hK1 hK2 hB2 hT2 HG HX HZ HBL HTX hok hbB hb41 hn2;go_wp2_with fail;refine KP.out.mono ?_;rintro x w2 ⟨rfl,hb2⟩;have HE := Lib.hid (HE0.out w2 hb2);clear HE0 hb2 KP;unfold Dr.dead at *;go_wp2_with fail;exact ⟨rfl,HE.out⟩
      | some x2 =>
        obtain ⟨c2,r2⟩ := x2;rw [hn2] at htx;have htx1 : Dr.txt1 l' = if c2 = 120 then (match Dr.esc r2 with | none => .no | some (d,r3) => .go (Lib.encodeRune d) r3) else (match Dr.unesc c2 with | none => .no | some b => .go [b] r2) := htx;clear htx;have hok2 := Dr.next_ok32 hn2;have KN2 := Lib.hid (fun (w1 : World) (hA1 : Dr.At b S r g w1) (hT2 : Dr.Tabs w1) => Dr.next_ok b S r g c2 r2 w1 hA1 hsz hn2 hT2);by_cases h120 : c2 = 120
        · rw [if_pos h120] at htx1;subst h120;have KE := Lib.hid (fun (w2 : World) (hA2 : Dr.At b S r2 g w2) (hT3 : Dr.Tabs w2) => Dr.escape_any b S g r2 w2 hA2 hsz hT3);cases hE : Dr.esc r2 with
          | none =>
            rw [hE] at htx1 KE;have HTX := Lib.hid (show Dr.txt1 l' = .no from htx1);clear htx1 h34 hn2 hE;go_wp2_with fail;refine KN.mono ?_;rintro x w1 ⟨rfl,hA1,hK1⟩;obtain ⟨hK2,hB2,hT2⟩ := HW1.out w1 hA1 hK1;have KP := Lib.hid (KN2.out w1 hA1 hT2);have HE0 := Lib.hid (fun (w2 : World) (hA2 : Dr.At b S r2 g w2) (hK3 : Dr.Kept b w1 w2) => show Calls Tryz.prog 68 #[.pointer (some ⟨b,0,none⟩)] w2 (fun e w' => Dr.PostE b S g w2 none e w') ∧ ∀ w3 (hK4 : Dr.Kept b w2 w3),Dr.PostX b S g w R Dr.dead w3 from
              ⟨KE.out w2 hA2 (Dr.tabs_kept HNE.out.1 HNE.out.2.1 HNE.out.2.2 (hK2.trans hK3)),fun w3 hK4 => HX.out HTX.out w3 ((hK2.trans hK3).trans hK4)⟩)
            clear HW1 hA1 hK1 hK2 hB2 hT2 HG HX HZ HBL HTX hok hbB hb41 KN2 KE hok2;go_wp2_with fail;refine KP.out.mono ?_;rintro x w2 ⟨rfl,hA2,hK3⟩;obtain ⟨KQ,HE1⟩ := HE0.out w2 hA2 hK3;have KQ := Lib.hid KQ;have HE1 := Lib.hid HE1;clear HE0 hA2 hK3 KP;go_wp2_with fail;refine KQ.out.mono ?_;rintro x w3 ⟨rfl,hK4⟩;have HE := Lib.hid (HE1.out w3 hK4);clear HE1 hK4 KQ;unfold Dr.dead at *;go_wp2_with fail;exact ⟨rfl,HE.out⟩
          | some x3 =>
            obtain ⟨d,r3⟩ := x3;rw [hE] at htx1 KE;have HTX := Lib.hid (show Dr.txt1 l' = .go (Lib.encodeRune d) r3 from htx1);have hokd := Dr.esc_ok hE;clear htx1 h34 hn2 hE;go_wp2_with fail;refine KN.mono ?_;rintro x w1 ⟨rfl,hA1,hK1⟩;obtain ⟨hK2,hB2,hT2⟩ := HW1.out w1 hA1 hK1;have KP := Lib.hid (KN2.out w1 hA1 hT2);have HE0 := Lib.hid (fun (w2 : World) (hA2 : Dr.At b S r2 g w2) (hK3 : Dr.Kept b w1 w2) => show Calls Tryz.prog 68 #[.pointer (some ⟨b,0,none⟩)] w2 (fun e w' => Dr.PostE b S g w2 (some (d,r3)) e w') ∧ ∀ w3 (hA4 : Dr.At b S r3 g w3) (hK4 : Dr.Kept b w2 w3),Dr.Bu B B bs w3 ∧ ∀ (W : World) (hb : Below B w3 W) (hBW : Dr.Bu B B (bs ++ Lib.encodeRune d) W),_ from
              ⟨KE.out w2 hA2 (Dr.tabs_kept HNE.out.1 HNE.out.2.1 HNE.out.2.2 (hK2.trans hK3)),fun w3 hA4 hK4 => ⟨(hB2.kept hK3 hbB).kept hK4 hbB,fun W hb hBW => HG.out _ _ HTX.out (Ru.encode_length d).2 W (hA4.belowB hb hbB) (HBL.out w3 W ((hK2.trans hK3).trans hK4) hb) hBW⟩⟩)
            clear HW1 hA1 hK1 hK2 hB2 hT2 HG HX HZ HBL HTX hok hbB KN2 KE hok2;go_wp2_with fail;refine KP.out.mono ?_;rintro x w2 ⟨rfl,hA2,hK3⟩;obtain ⟨KQ,HE1⟩ := HE0.out w2 hA2 hK3;have KQ := Lib.hid KQ;have HE1 := Lib.hid HE1;clear HE0 hA2 hK3 KP;go_wp2_with fail;refine KQ.out.mono ?_;rintro x w3 ⟨rfl,hA4,hK4⟩;obtain ⟨hB4,HE2⟩ := HE1.out w3 hA4 hK4;have HE2 := Lib.hid HE2;have KW := Lib.hid (hB4.rune d hokd hb41);clear HE1 hA4 hK4 KQ hB4 hb41;go_wp2_with fail;refine KW.out.mono ?_;rintro x w4 ⟨n,rfl,hB5,hb5⟩;have HE := Lib.hid (HE2.out w4 hb5 hB5);clear HE2 hB5 hb5 KW;go_wp2_with fail;exact HE.out
        · rw [if_neg h120] at htx1;have e120 : (c2 == 120) = false := beq_eq_false_iff_ne.2 h120;have KI0 := Lib.hid (fun (w2 : World) => Dr.indexD c2 hok2 w2);unfold Dr.cD at KI0;have HTX1 := Lib.hid htx1;clear htx1 h34 hn2 h120;go_wp2_with fail;refine KN.mono ?_;rintro x w1 ⟨rfl,hA1,hK1⟩;obtain ⟨hK2,hB2,hT2⟩ := HW1.out w1 hA1 hK1;have KP := Lib.hid (KN2.out w1 hA1 hT2);have HE0 := Lib.hid (fun (w2 : World) (hA2 : Dr.At b S r2 g w2) (hK3 : Dr.Kept b w1 w2) (w3 : World) (hb3 : Below w2.heap.size w2 w3) => show (Dr.unesc c2 = none → Dr.PostX b S g w R Dr.dead w3) ∧ (∀ bt,Dr.unesc c2 = some bt → Dr.Bu B B bs w3 ∧ ∀ (W : World) (hb : Below B w3 W) (hBW : Dr.Bu B B (bs ++ [bt]) W),_) from
            ⟨fun hu => HX.out (by rw [HTX1.out,hu]) w3 ((hK2.trans hK3).trans (Dr.Kept.of_below hb3)),fun bt hu => ⟨(hB2.kept hK3 hbB).kept (Dr.Kept.of_below (b := b) hb3) hbB,fun W hb hBW => HG.out [bt] r2 (by rw [HTX1.out,hu]) (by simp) W ((hA2.below hb3).belowB hb hbB) (HBL.out w3 W ((hK2.trans hK3).trans (Dr.Kept.of_below hb3)) hb) hBW⟩⟩)
          clear HW1 hA1 hK1 hK2 hB2 hT2 HG HX HZ HBL HTX1 hok hbB KN2 hok2;go_wp2_with fail;refine KP.out.mono ?_;rintro x w2 ⟨rfl,hA2,hK3⟩;obtain ⟨k,hk,KI1⟩ := KI0.out w2;have KI := Lib.hid KI1;have HE1 := Lib.hid (fun w3 hb3 => HE0.out w2 hA2 hK3 w3 hb3);clear HE0 hA2 hK3 KP KI0 KI1;rcases hk with ⟨hk,hu⟩ | ⟨hk0,hk9,hu⟩
          · subst hk;have HU := Lib.hid hu;clear hu;go_wp2_with fail;refine KI.out.mono ?_;rintro x w3 ⟨rfl,hb3⟩;have HE := Lib.hid ((HE1.out w3 hb3).1 HU.out);clear HE1 hb3 KI HU hb41;go_wp2_with fail;refine (Dr.stop_any _ _).mono ?_;rintro x w4 ⟨rfl,hw4⟩;subst hw4;unfold Dr.dead at *;go_wp2_with fail;exact ⟨rfl,HE.out⟩
          · have hk' : k = 0 ∨ k = 1 ∨ k = 2 ∨ k = 3 ∨ k = 4 ∨ k = 5 ∨ k = 6 ∨ k = 7 ∨ k = 8 := by omega
            have hin : k.toNat < Dr.escB.length := by show _ < 9; omega
            obtain ⟨bt,hbt⟩ : ∃ bt,Dr.escB[k.toNat]? = some bt := ⟨_,List.getElem?_eq_getElem hin⟩;rw [hbt] at hu;clear hk0 hk9 hin;have HU := Lib.hid hu;have HBT := Lib.hid hbt;clear hu hbt;rcases hk' with rfl | rfl | rfl | rfl | rfl | rfl | rfl | rfl | rfl;all_goals
             go_wp2_with fail;refine KI.out.mono ?_;rintro x w3 ⟨rfl,hb3⟩;obtain ⟨hB4,HE2⟩ := (HE1.out w3 hb3).2 _ HU.out;have HE2 := Lib.hid HE2;have KW := Lib.hid (fun m hm => hB4.byteI bt m hm hb41);clear HE1 hb3 KI HU hB4 hb41;obtain rfl := Option.some.inj (show some _ = some bt from HBT.out);clear HBT;go_wp2_with fail;refine (KW.out _ rfl).mono ?_;rintro x w4 ⟨rfl,hB5,hb5⟩;have HE := Lib.hid (HE2.out w4 hb5 hB5);clear HE2 hB5 hb5 KW;go_wp2_with fail;exact HE.out
    have e92 : (c == 92) = false := beq_eq_false_iff_ne.2 h92
    rw [if_neg h92] at htx
    by_cases h13 : c = 13
    · rw [if_pos h13] at htx;subst h13;by_cases hr : r = []
      · have htx2 : Dr.txt1 l' = .go [10] r := by
         rw [htx];unfold Dr.ret;rw [if_pos hr]
        have HTX := Lib.hid htx2;clear htx htx2 h34 h92;go_wp2_with fail;refine KN.mono ?_;rintro x w1 ⟨rfl,hA1,hK1⟩;obtain ⟨hK2,hB2,hT2⟩ := HW1.out w1 hA1 hK1;have KP := Lib.hid (Dr.peek_end b S g w1 (hr ▸ hA1));have hsz1 := hB2.2;have HE0 := Lib.hid (fun (w2 : World) (hb2 : Below w1.heap.size w1 w2) => show Dr.Bu B B bs w2 ∧ ∀ (W : World) (hb : Below B w2 W) (hBW : Dr.Bu B B (bs ++ [10]) W),_ from ⟨hB2.kept (Dr.Kept.of_below (b := b) hb2) hbB,fun W hb hBW => HG.out _ _ HTX.out (by simp) W ((hA1.below hb2).belowB hb hbB) (HBL.out w2 W (hK2.trans (Dr.Kept.of_below hb2)) hb) hBW⟩);clear HW1 hA1 hK1 hK2 hB2 hT2 HG HX HZ HBL HTX hok hbB hsz1;go_wp2_with fail;refine KP.out.mono ?_;rintro x w2 ⟨rfl,hb2⟩;obtain ⟨hB3,HE1⟩ := HE0.out w2 hb2;have HE1 := Lib.hid HE1;have KW := Lib.hid (hB3.byteI 10 10 rfl hb41);clear HE0 hb2 hB3 hb41;go_wp2_with fail;refine KW.out.mono ?_;rintro x w3 ⟨rfl,hB4,hb4⟩;have HE := Lib.hid (HE1.out w3 hb4 hB4);clear HE1 hB4 hb4 KW;go_wp2_with fail;exact HE.out
      cases hb : Dr.bad r with
      | true =>
        have htx2 : Dr.txt1 l' = .no := by
         rw [htx];unfold Dr.ret;rw [if_neg hr,if_pos hb]
        have HTX := Lib.hid htx2;clear htx htx2 h34 h92;go_wp2_with fail;refine KN.mono ?_;rintro x w1 ⟨rfl,hA1,hK1⟩;obtain ⟨hK2,hB2,hT2⟩ := HW1.out w1 hA1 hK1;have KP := Lib.hid (Dr.peek_bad b S r g w1 hA1 hr hb hT2);have HE0 := Lib.hid (fun (w2 : World) (hb2 : Below w1.heap.size w1 w2) => HX.out HTX.out w2 (hK2.trans (Dr.Kept.of_below hb2)));clear HW1 hA1 hK1 hK2 hB2 hT2 HG HX HZ HBL HTX hok hbB hb41 hb hr;go_wp2_with fail;refine KP.out.mono ?_;rintro x w2 ⟨rfl,hb2⟩;have HE := Lib.hid (HE0.out w2 hb2);clear HE0 hb2 KP;unfold Dr.dead at *;go_wp2_with fail;exact ⟨rfl,HE.out⟩
      | false =>
        have hwl := Dr.wd_le hr;have KP0 := fun (w1 : World) (hA1 : Dr.At b S r g w1) (hT2 : Dr.Tabs w1) => Dr.peek_ok b S r g w1 hA1 hr hb hT2;by_cases hcp : Dr.cp r = 10 ∨ Dr.cp r = 133
        · have htx2 : Dr.txt1 l' = .go [10] (r.drop (Dr.wd r)) := by
           rw [htx];unfold Dr.ret;rw [if_neg hr,if_neg (by rw [hb]; simp),if_pos (by simpa using hcp)]
          have HTX := Lib.hid htx2;have HCP := Lib.hid hcp;obtain ⟨q,hq⟩ : ∃ z,S.size - r.length = z := ⟨_,rfl⟩;have HQ := Lib.hid hq;have hsum : ∀ w1,Dr.At b S r g w1 → (q : Int) + (Dr.wd r : Int) ≤ 9223372036854775807 ∧ 0 ≤ (Dr.wd r : Int) ∧ 0 ≤ (q : Int) := fun w1 hA1 => by have := hA1.le; omega
          have HSUM := Lib.hid hsum;have HWL := Lib.hid hwl;clear htx htx2 h34 h92 hb hr hcp hq hsum hwl;go_wp2_with fail;refine KN.mono ?_;rintro x w1 ⟨rfl,hA1,hK1⟩;obtain ⟨hK2,hB2,hT2⟩ := HW1.out w1 hA1 hK1;have KP := Lib.hid (KP0 w1 hA1 hT2);obtain ⟨hs1,hs2,hs3⟩ := HSUM.out w1 hA1;have HE0 := Lib.hid (fun (w2 : World) (hb2 : Below w1.heap.size w1 w2) => show (∃ W,w2.setCell ⟨b,1,none⟩ (.int .i64 ((q : Int) + ((Dr.wd r : Nat) : Int))) = W ∧ w2.frozen? ⟨b,1,none⟩ = false ∧ w2.cell? ⟨b,1,none⟩ = some (.int .i64 (q : Int)) ∧ Dr.Bu B B bs W ∧ ∀ (W2 : World) (hb : Below B W W2) (hBW : Dr.Bu B B (bs ++ [10]) W2),_) from by
            obtain ⟨W,hW,hfz,hAt,hKW,hz⟩ := Dr.setAt (hA1.below hb2) HQ.out HWL.out ((Dr.wd r : Nat) : Int) rfl;have hc1 := (hA1.below hb2).cells.2.1;rw [HQ.out] at hc1
            exact ⟨W,hW,hfz,hc1,(hB2.kept (Dr.Kept.of_below (b := b) hb2) hbB).kept hKW hbB,fun W2 hb hBW => HG.out _ _ HTX.out (by simp) W2 (hAt.belowB hb hbB) (HBL.out W W2 ((hK2.trans (Dr.Kept.of_below hb2)).trans hKW) hb) hBW⟩)
          clear HW1 hA1 hK1 hK2 hB2 hT2 HG HX HZ HBL HTX hok hbB KP0 HQ HSUM HWL;generalize Dr.wd r = n at *;generalize Dr.cp r = c2 at *;rcases HCP.out with e | e;all_goals
           subst e;clear HCP;go_wp2_with fail;refine KP.out.mono ?_;rintro x w2 ⟨rfl,hb2⟩;obtain ⟨W,hW,hfz,hc1,hB3,HE1⟩ := HE0.out w2 hb2;have HE1 := Lib.hid HE1;have KW := Lib.hid (hB3.byteI 10 10 rfl hb41);clear HE0 hb2 hB3 hb41;go_wp2_with fail;refine KW.out.mono ?_;rintro x w3 ⟨rfl,hB4,hb4⟩;have HE := Lib.hid (HE1.out w3 hb4 hB4);clear HE1 hB4 hb4 KW;go_wp2_with fail;exact HE.out
        · have htx2 : Dr.txt1 l' = .go [10] r := by
           rw [htx];unfold Dr.ret;rw [if_neg hr,if_neg (by rw [hb]; simp),if_neg (by simpa using hcp)]
          have HTX := Lib.hid htx2;have e10 : (Dr.cp r == 10) = false := beq_eq_false_iff_ne.2 (fun e => hcp (.inl e));have e133 : (Dr.cp r == 133) = false := beq_eq_false_iff_ne.2 (fun e => hcp (.inr e));clear htx htx2 h34 h92 hb hr hcp hwl;go_wp2_with fail;refine KN.mono ?_;rintro x w1 ⟨rfl,hA1,hK1⟩;obtain ⟨hK2,hB2,hT2⟩ := HW1.out w1 hA1 hK1;have KP := Lib.hid (KP0 w1 hA1 hT2);have HE0 := Lib.hid (fun (w2 : World) (hb2 : Below w1.heap.size w1 w2) => show Dr.Bu B B bs w2 ∧ ∀ (W : World) (hb : Below B w2 W) (hBW : Dr.Bu B B (bs ++ [10]) W),_ from ⟨hB2.kept (Dr.Kept.of_below (b := b) hb2) hbB,fun W hb hBW => HG.out _ _ HTX.out (by simp) W ((hA1.below hb2).belowB hb hbB) (HBL.out w2 W (hK2.trans (Dr.Kept.of_below hb2)) hb) hBW⟩);clear HW1 hA1 hK1 hK2 hB2 hT2 HG HX HZ HBL HTX hok hbB KP0;generalize Dr.wd r = n at *;generalize Dr.cp r = c2 at *;go_wp2_with fail;refine KP.out.mono ?_;rintro x w2 ⟨rfl,hb2⟩;obtain ⟨hB3,HE1⟩ := HE0.out w2 hb2;have HE1 := Lib.hid HE1;have KW := Lib.hid (hB3.byteI 10 10 rfl hb41);clear HE0 hb2 hB3 hb41;go_wp2_with fail;refine KW.out.mono ?_;rintro x w3 ⟨rfl,hB4,hb4⟩;have HE := Lib.hid (HE1.out w3 hb4 hB4);clear HE1 hB4 hb4 KW;go_wp2_with fail;exact HE.out
    have e13 : (c == 13) = false := beq_eq_false_iff_ne.2 h13
    rw [if_neg h13] at htx
    by_cases h133 : c = 133
    · have htx2 : Dr.txt1 l' = .go [10] r := by rw [htx,if_pos (by rw [h133]; decide)]
      have HTX := Lib.hid htx2;subst h133;clear htx htx2 h34 h92 h13;go_wp2_with fail;refine KN.mono ?_;rintro x w1 ⟨rfl,hA1,hK1⟩;obtain ⟨hK2,hB2,hT2⟩ := HW1.out w1 hA1 hK1;have KW := Lib.hid (hB2.byteI 10 10 rfl hb41);have HE0 := Lib.hid (fun (W : World) (hb : Below B w1 W) (hBW : Dr.Bu B B (bs ++ [10]) W) => HG.out _ _ HTX.out (by simp) W (hA1.belowB hb hbB) (HBL.out w1 W hK2 hb) hBW);clear HW1 hA1 hK1 hK2 hB2 hT2 HG HX HZ HBL HTX hok hbB hb41;go_wp2_with fail;refine KW.out.mono ?_;rintro x w2 ⟨rfl,hB3,hb3⟩;have HE := Lib.hid (HE0.out w2 hb3 hB3);clear HE0 hB3 hb3 KW;go_wp2_with fail;exact HE.out
    by_cases h8232 : c = 8232
    · have htx2 : Dr.txt1 l' = .go [10] r := by rw [htx,if_pos (by rw [h8232]; decide)]
      have HTX := Lib.hid htx2;subst h8232;clear htx htx2 h34 h92 h13 h133;go_wp2_with fail;refine KN.mono ?_;rintro x w1 ⟨rfl,hA1,hK1⟩;obtain ⟨hK2,hB2,hT2⟩ := HW1.out w1 hA1 hK1;have KW := Lib.hid (hB2.byteI 10 10 rfl hb41);have HE0 := Lib.hid (fun (W : World) (hb : Below B w1 W) (hBW : Dr.Bu B B (bs ++ [10]) W) => HG.out _ _ HTX.out (by simp) W (hA1.belowB hb hbB) (HBL.out w1 W hK2 hb) hBW);clear HW1 hA1 hK1 hK2 hB2 hT2 HG HX HZ HBL HTX hok hbB hb41;go_wp2_with fail;refine KW.out.mono ?_;rintro x w2 ⟨rfl,hB3,hb3⟩;have HE := Lib.hid (HE0.out w2 hb3 hB3);clear HE0 hB3 hb3 KW;go_wp2_with fail;exact HE.out
    have e133 : (c == 133) = false := beq_eq_false_iff_ne.2 h133
    have e8232 : (c == 8232) = false := beq_eq_false_iff_ne.2 h8232
    rw [decide_eq_false h133,decide_eq_false h8232,Bool.or_false,if_neg (by simp)] at htx
    have HTX := Lib.hid htx
    clear h34 h92 h13 h133 h8232 htx
    go_wp2_with fail
    refine KN.mono ?_
    rintro x w1 ⟨rfl,hA1,hK1⟩
    obtain ⟨hK2,hB2,hT2⟩ := HW1.out w1 hA1 hK1
    have KW := Lib.hid (hB2.rune c hok hb41)
    have HE0 := Lib.hid (fun (W : World) (hb : Below B w1 W) (hBW : Dr.Bu B B (bs ++ Lib.encodeRune c) W) => HG.out _ _ HTX.out (Ru.encode_length c).2 W (hA1.belowB hb hbB) (HBL.out w1 W hK2 hb) hBW)
    clear HW1 hA1 hK1 hK2 hB2 hT2 HG HX HZ HBL HTX hok hbB hb41
    go_wp2_with fail
    refine KW.out.mono ?_
    rintro x w2 ⟨n,rfl,hB3,hb3⟩
    have HE := Lib.hid (HE0.out w2 hb3 hB3)
    clear HE0 hB3 hb3 KW
    go_wp2_with fail
    exact HE.out
end Go.Proofs.YteklhapffplohaaGreatDoor
