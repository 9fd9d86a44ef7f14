/-
  The reader's remark. Digits as a number, word by word: the plain law of nat.Read. nat.Value of any byte.
-/
import Derived.WalkKit
import Derived.WalkMore
import Derived.WalkLawsBesides
import Derived.Below
import Derived.Lib.Hide
import Derived.Laws.OwnMore
import Derived.StillTailTactics
import Derived.WalkSpells
import Derived.Handy
import Derived.Test.YteklhapffplohaaGreatDoorOf
import Derived.Test.YteklhapffplohaaGreatDoorOd
import Derived.Test.YteklhapffplohaaGreatDoorShelfO
import Derived.Test.YteklhapffplohaaGreatDoorOa
import Derived.Test.YteklhapffplohaaGreatDoorOe
set_option maxHeartbeats 4000000
set_option maxRecDepth 1000000
set_option linter.unusedVariables false
set_option linter.unusedSimpArgs false
namespace Go.Proofs.YteklhapffplohaaGreatDoor
open Go.RowKit
theorem Dr.hasP (l p : List UInt8) : Lib.hasPrefix l p = decide (l.take p.length = p) := by
 unfold Lib.hasPrefix;rw [Bool.eq_iff_iff,List.isPrefixOf_iff_prefix,List.prefix_iff_eq_take,decide_eq_true_eq];exact eq_comm
abbrev Dr.Tabs (w : World) : Prop := Lib.Utf8Tabs 0 1 w
theorem Dr.tabs_kept {b : Nat} {w w' : World} (h : Dr.Tabs w) (h1 : b ≠ 0) (h2 : b ≠ 1) (hk : Dr.Kept b w w') : Dr.Tabs w' := by
 have kc : ∀ {q o : Nat} {v : Value},q ≠ b → w.cell? ⟨q,o,none⟩ = some v → w'.cell? ⟨q,o,none⟩ = some v := fun {q o v} hq hc =>
  (World.cell?_of_block (hk.block q (World.block_lt_of_cell? w _ hc) hq)).trans hc
 exact ⟨fun c hc => kc (Ne.symm h1) (h.1 c hc),fun i hi => ⟨kc (Ne.symm h2) (h.2 i hi).1,kc (Ne.symm h2) (h.2 i hi).2⟩⟩
theorem Dr.At.tabs_ne {b : Nat} {S : ByteArray} {l : List UInt8} {g : Bool} {w : World} (h : Dr.At b S l g w) (hT : Dr.Tabs w) : b ≠ 0 ∧ b ≠ 1 := by
 have c0 := h.cells.1;refine ⟨?_,?_⟩
 · rintro rfl;have := (hT.1 0 (by decide)).symm.trans c0;simp at this
 · rintro rfl;have := ((hT.2 0 (by decide)).1).symm.trans c0;simp at this
def Dr.left (b : Nat) (S : ByteArray) (w : World) : Nat := S.size - (intOf ((w.cell? ⟨b,1,none⟩).getD .nilIface)).toNat
theorem Dr.At.left {b : Nat} {S : ByteArray} {l : List UInt8} {g : Bool} {w : World} (h : Dr.At b S l g w) : Dr.left b S w = l.length := by
 unfold Dr.left;rw [h.cells.2.1];have := h.le;simp [intOf];omega
def Dr.PostL (b : Nat) (S : ByteArray) (g : Bool) (w : World) (R : Option (List UInt8)) (e : Ending) (w' : World) : Prop :=
 match R with
 | none => e = Dr.dead ∧ Dr.Kept b w w'
 | some r => e = .returned (.tuple #[]) ∧ Dr.At b S r g w' ∧ Dr.Kept b w w'
theorem Dr.At.range {b : Nat} {S : ByteArray} {l : List UInt8} {g : Bool} {w : World} (h : Dr.At b S l g w) : ((S.size - l.length : Nat) : Int) ≤ (S.size : Int) ∧ 0 ≤ ((S.size - l.length : Nat) : Int) := by
 have := h.le;omega
theorem Dr.remark_next (d : Nat) (l : List UInt8) (k1 : ¬ l.take 2 = [35,124]) (k2 : ¬ l.take 2 = [124,35]) : Dr.remark d l = match Dr.next l with | none => none | some x => Dr.remark d x.2 := by
 rw [Dr.remark,dif_neg k1,dif_neg k2];unfold Dr.next;by_cases h : l = []
 · rw [dif_pos h,if_pos h]
 · rw [dif_neg h,if_neg h];cases Dr.bad l <;> simp
theorem Dr.next_drop {l r : List UInt8} {c : Int} (h : Dr.next l = some (c,r)) : r = l.drop (Dr.wd l) ∧ c = Dr.cp l ∧ l ≠ [] := by
 unfold Dr.next at h;split at h
 · cases h
 · rename_i hn;split at h
   · cases h
   · simp only [Option.some.injEq,Prod.mk.injEq] at h;exact ⟨h.2.symm,h.1.symm,hn⟩
theorem Dr.setAt {b p n : Nat} {S : ByteArray} {l : List UInt8} {g : Bool} {w : World} (h : Dr.At b S l g w) (hp : S.size - l.length = p) (hn : n ≤ l.length) (m : Int) (hm : m = (n : Int)) :
 ∃ W,w.setCell ⟨b,1,none⟩ (.int .i64 ((p : Int) + m)) = W ∧ w.frozen? ⟨b,1,none⟩ = false ∧ Dr.At b S (l.drop n) g W ∧ Dr.Kept b w W ∧ W.heap.size = w.heap.size := by
 subst hp hm
 exact h.step n hn
theorem Dr.remark_any (b : Nat) (S : ByteArray) (g : Bool) (l : List UInt8) (w : World) (h : Dr.At b S l g w) (hs : S.size ≤ 9223372036854775807) (h2 : l.take 2 = [35,124]) (hT : Dr.Tabs w) :
 Calls Tryz.prog 36 #[.pointer (some ⟨b,0,none⟩)] w fun e w' => Dr.PostL b S g w (Dr.remark 0 l) e w' := by
 obtain ⟨R,hR⟩ : ∃ z,Dr.remark 0 l = z := ⟨_,rfl⟩
 rw [hR]
 have HS0 := Lib.hid (show ∃ (d : Nat) (l' : List UInt8),(0 : Int) = (d : Int) ∧ Dr.At b S l' g w ∧ Dr.Kept b w w ∧ Dr.remark d l' = R ∧ d + l'.length ≤ S.size ∧ (1 ≤ d ∨ l'.take 2 = [35,124]) from ⟨0,l,rfl,h,Dr.Kept.refl _ _,hR,by have := h.le; omega,.inr h2⟩)
 have HT := Lib.hid (And.intro hT (h.tabs_ne hT))
 have hsz := hs
 clear h h2 hT hR
 go_enter Tryz.func36,Tryz.ntmps36
 go_wp2_with fail
 go_loopw [2] (fun t wr => ∃ (d : Nat) (l' : List UInt8),t = .int .i64 (d : Int) ∧ Dr.At b S l' g wr ∧ Dr.Kept b w wr ∧ Dr.remark d l' = R ∧ d + l'.length ≤ S.size ∧ (1 ≤ d ∨ l'.take 2 = [35,124])) (fun _ wr => Dr.left b S wr)
 case atStart =>
  obtain ⟨d,l',e,q⟩ := HS0.out
  exact ⟨d,l',by rw [e],q⟩
 case round =>
  obtain ⟨d,l',rfl,hA,hK,hR,hd,h1⟩ := hrel
  clear HS0
  have hTr : Dr.Tabs wr := Dr.tabs_kept HT.out.1 HT.out.2.1 HT.out.2.2 hK
  have HTr := Lib.hid hTr
  have KN := Lib.hid (fun (c : Int) (r : List UInt8) (hn : Dr.next l' = some (c,r)) (w1 : World) (hb : Below wr.heap.size wr w1) => Dr.next_ok b S l' g c r w1 (hA.below hb) hs hn (Utf8Tabs_below hTr hb))
  have KF := Lib.hid (fun (hn : Dr.next l' = none) (w1 : World) (hb : Below wr.heap.size wr w1) => Dr.next_none b S l' g w1 (hA.below hb) hn (Utf8Tabs_below hTr hb))
  have KH := fun (p : ByteArray) (w' : World) => Tryz.strings_HasPrefix ⟨l'.toArray⟩ p w'
  obtain ⟨c0,c1,c2⟩ := hA.cells
  obtain ⟨hp1,hp2⟩ := hA.range
  have hsub := hA.sub
  have hbl := hA.lt
  have HA := Lib.hid hA
  have HK := Lib.hid hK
  obtain ⟨p,hp⟩ : ∃ z,S.size - l'.length = z := ⟨_,rfl⟩
  have HP := Lib.hid hp
  have HM := Lib.hid hA.left
  rw [hp] at c1 hp1 hp2 hsub
  have HS := Lib.hid (fun (w' : World) (hb : Below wr.heap.size wr w') => (show w'.cell? ⟨b,0,none⟩ = some (.string S) ∧ w'.cell? ⟨b,1,none⟩ = some (.int .i64 (p : Int)) from ⟨(hb.cell (p := ⟨b,0,none⟩) hbl).trans c0,(hb.cell (p := ⟨b,1,none⟩) hbl).trans c1⟩))
  have HD := Lib.hid hd
  have HR := Lib.hid hR
  have HO := Lib.hid h1
  clear hTr hA hK hR hp h1 hbl c2 hd
  have hb1 : Below wr.heap.size wr wr.drew := Below.drew (Below.refl _ _)
  have hlen : p + l'.length = S.size := by have := HA.out.le; have := HP.out; omega
  by_cases k1 : l'.take 2 = [35,124]
  · have hl2 := Dr.take_two k1;have KH1 := Lib.hid (fun w' => KH ⟨#[35,124]⟩ w');simp only [Dr.hasP,List.length_cons,List.length_nil,decide_eq_true k1] at KH1;have HR2 : Hid (Dr.remark (d + 1) (l'.drop 2) = R) := Lib.hid (by rw [← HR.out]; conv => rhs; rw [Dr.remark,dif_pos k1]);have hlen2 : (l'.drop 2).length = l'.length - 2 := List.length_drop;obtain ⟨W,hW,hfz,hAt,hKW,hz⟩ := Dr.setAt (HA.out.below hb1) HP.out hl2 2 rfl;have hd2 : ((d : Int) + 1) ≤ 9223372036854775807 ∧ (p : Int) + 2 ≤ 9223372036854775807 := by have := HD.out; omega
    obtain ⟨hd3,hd4⟩ := hd2;have HE := Lib.hid (show (∃ (d' : Nat) (l'' : List UInt8),Value.int .i64 ((d : Int) + 1) = .int .i64 (d' : Int) ∧ Dr.At b S l'' g W ∧ Dr.Kept b w W ∧ Dr.remark d' l'' = R ∧ d' + l''.length ≤ S.size ∧ (1 ≤ d' ∨ l''.take 2 = [35,124])) ∧ Dr.left b S W < Dr.left b S wr from
      ⟨⟨d + 1,l'.drop 2,rfl,hAt,(HK.out.trans (Dr.Kept.of_below hb1)).trans hKW,HR2.out,by have := HD.out; omega,.inl (by omega)⟩,by rw [hAt.left,HM.out]; omega⟩)
    clear KH hAt hKW hz hlen2 k1 hl2;go_wp2_with fail;have hkeep := HS.out wr.drew hb1;go_region_held3 (fun w' => w'.cell? ⟨b,0,none⟩ = some (.string S) ∧ w'.cell? ⟨b,1,none⟩ = some (.int .i64 (p : Int)))
     (first | exact hkeep)
     (first
       | (go_at_call 35
          refine (KH1.out _).mono ?_
          rintro x w2 ⟨rfl,rfl⟩))
    obtain ⟨d0,d1⟩ := hkeep;generalize wr.drew = w1 at *;go_wp2_with fail;exact HE.out
  have hd1 : 1 ≤ d := HO.out.resolve_right k1
  by_cases k2 : l'.take 2 = [124,35]
  · have hl2 := Dr.take_two k2;have KH1 := Lib.hid (fun w' => KH ⟨#[35,124]⟩ w');have KH2 := Lib.hid (fun w' => KH ⟨#[124,35]⟩ w');simp only [Dr.hasP,List.length_cons,List.length_nil,decide_eq_true k2,decide_eq_false k1] at KH1 KH2;have HR2 : Hid ((if d = 1 then some (l'.drop 2) else Dr.remark (d - 1) (l'.drop 2)) = R) := Lib.hid (by rw [← HR.out]; conv => rhs; rw [Dr.remark,dif_neg k1,dif_pos k2]);have hlen2 : (l'.drop 2).length = l'.length - 2 := List.length_drop;have hb2 : Below wr.heap.size wr wr.drew.drew := Below.drew hb1;obtain ⟨W,hW,hfz,hAt,hKW,hz⟩ := Dr.setAt (HA.out.below hb2) HP.out hl2 2 rfl;have hKall := (HK.out.trans (Dr.Kept.of_below hb2)).trans hKW;have hd2 : (p : Int) + 2 ≤ 9223372036854775807 ∧ (d : Int) ≤ 9223372036854775807 ∧ 1 ≤ (d : Int) := by have := HD.out; omega
    obtain ⟨hd3,hd4,hd5⟩ := hd2;have hkeep1 := HS.out wr.drew hb1;have hkeep2 := HS.out wr.drew.drew hb2;by_cases e1 : d = 1
    · subst e1;rw [if_pos rfl] at HR2;have HE := Lib.hid (show Dr.PostL b S g w R (.returned (.tuple #[])) W by rw [← HR2.out]; exact ⟨rfl,hAt,hKall⟩);clear KH hAt hKW hz hlen2 k1 k2 hl2 hKall HR2 HS;go_wp2_with fail;go_region_held3 (fun w' => w'.cell? ⟨b,0,none⟩ = some (.string S) ∧ w'.cell? ⟨b,1,none⟩ = some (.int .i64 (p : Int)))
       (first | exact hkeep1)
       (first
         | (go_at_call 35
            refine (KH1.out _).mono ?_
            rintro x w2 ⟨rfl,rfl⟩))
      go_wp2_with fail;go_region_held3 (fun w' => w'.cell? ⟨b,0,none⟩ = some (.string S) ∧ w'.cell? ⟨b,1,none⟩ = some (.int .i64 (p : Int)))
       (first | exact hkeep2)
       (first
         | (go_at_call 35
            refine (KH2.out _).mono ?_
            rintro x w2 ⟨rfl,rfl⟩))
      obtain ⟨d0,d1⟩ := hkeep2;clear hkeep1;generalize wr.drew.drew = w1 at *;go_wp2_with fail;first | go_end0 | refine bodyPost_ret (results_none rfl _ _ _) rfl ?_
      exact HE.out
    · rw [if_neg e1] at HR2;have he1 : ((d : Int) - 1 == 0) = false := beq_eq_false_iff_ne.2 (by omega);have he2 : ¬ ((d : Int) - 1 = 0) := by omega
      have HE := Lib.hid (show (∃ (d' : Nat) (l'' : List UInt8),Value.int .i64 ((d : Int) - 1) = .int .i64 (d' : Int) ∧ Dr.At b S l'' g W ∧ Dr.Kept b w W ∧ Dr.remark d' l'' = R ∧ d' + l''.length ≤ S.size ∧ (1 ≤ d' ∨ l''.take 2 = [35,124])) ∧ Dr.left b S W < Dr.left b S wr from
        ⟨⟨d - 1,l'.drop 2,by rw [show ((d - 1 : Nat) : Int) = (d : Int) - 1 by omega],hAt,hKall,HR2.out,by have := HD.out; omega,.inl (by omega)⟩,by rw [hAt.left,HM.out]; omega⟩)
      clear KH hAt hKW hz hlen2 k1 k2 hl2 hKall HR2 HS;go_wp2_with fail;go_region_held3 (fun w' => w'.cell? ⟨b,0,none⟩ = some (.string S) ∧ w'.cell? ⟨b,1,none⟩ = some (.int .i64 (p : Int)))
       (first | exact hkeep1)
       (first
         | (go_at_call 35
            refine (KH1.out _).mono ?_
            rintro x w2 ⟨rfl,rfl⟩))
      go_wp2_with fail;go_region_held3 (fun w' => w'.cell? ⟨b,0,none⟩ = some (.string S) ∧ w'.cell? ⟨b,1,none⟩ = some (.int .i64 (p : Int)))
       (first | exact hkeep2)
       (first
         | (go_at_call 35
            refine (KH2.out _).mono ?_
            rintro x w2 ⟨rfl,rfl⟩))
      obtain ⟨d0,d1⟩ := hkeep2;clear hkeep1;generalize wr.drew.drew = w1 at *;go_wp2_with fail;exact HE.out
  have KH1 := Lib.hid (fun w' => KH ⟨#[35,124]⟩ w')
  have KH2 := Lib.hid (fun w' => KH ⟨#[124,35]⟩ w')
  simp only [Dr.hasP,List.length_cons,List.length_nil,decide_eq_false k1,decide_eq_false k2] at KH1 KH2
  clear KH
  have HN := Lib.hid (Dr.remark_next d l' k1 k2)
  clear k1 k2
  have hb2 : Below wr.heap.size wr wr.drew.drew := Below.drew hb1
  go_wp2_with fail
  have hkeep := HS.out wr.drew hb1
  go_region_held3 (fun w' => w'.cell? ⟨b,0,none⟩ = some (.string S) ∧ w'.cell? ⟨b,1,none⟩ = some (.int .i64 (p : Int)))
   (first | exact hkeep)
   (first
     | (go_at_call 35
        refine (KH1.out _).mono ?_
        rintro x w2 ⟨rfl,rfl⟩))
  go_wp2_with fail
  have hkeep := HS.out wr.drew.drew hb2
  go_region_held3 (fun w' => w'.cell? ⟨b,0,none⟩ = some (.string S) ∧ w'.cell? ⟨b,1,none⟩ = some (.int .i64 (p : Int)))
   (first | exact hkeep)
   (first
     | (go_at_call 35
        refine (KH2.out _).mono ?_
        rintro x w2 ⟨rfl,rfl⟩))
  go_wp2_with fail
  cases hn : Dr.next l' with
  | none =>
    refine (KF.out hn _ hb2).mono ?_
    rintro x w3 ⟨rfl,hb3⟩
    have HE : Hid (Dr.PostL b S g w R Dr.dead w3) := Lib.hid (by
      rw [← HR.out,HN.out,hn]
      exact ⟨rfl,HK.out.trans (Dr.Kept.of_below (hb2.trans (hb3.mono hb2.size)))⟩)
    clear hb3 hn
    unfold Dr.dead at *
    go_wp2_with fail
    exact ⟨rfl,HE.out⟩
  | some x =>
    obtain ⟨c,r⟩ := x
    refine (KN.out c r hn _ hb2).mono ?_
    rintro x w3 ⟨rfl,hAt,hK3⟩
    have hlt := Dr.next_lt hn
    have HE := Lib.hid (show (∃ (d' : Nat) (l'' : List UInt8),Value.int .i64 (d : Int) = .int .i64 (d' : Int) ∧ Dr.At b S l'' g w3 ∧ Dr.Kept b w w3 ∧ Dr.remark d' l'' = R ∧ d' + l''.length ≤ S.size ∧ (1 ≤ d' ∨ l''.take 2 = [35,124])) ∧ Dr.left b S w3 < Dr.left b S wr from
      ⟨⟨d,r,rfl,hAt,(HK.out.trans (Dr.Kept.of_below hb2)).trans hK3,by rw [← HR.out,HN.out,hn],by have := HD.out; omega,.inl hd1⟩,by rw [hAt.left,HM.out]; omega⟩)
    clear hn hAt hK3 hlt
    go_wp2_with fail
    exact HE.out
theorem Dr.natV_snoc (rx : Nat) (l : List UInt8) (x : UInt8) : Dr.natV rx (l ++ [x]) = Dr.natV rx l * rx + Dr.val x := by simp [Dr.natV]
theorem Dr.natV_le (rx : Nat) (hrx : 1 ≤ rx) : ∀ (t a : List UInt8),Dr.natV rx a ≤ Dr.natV rx (a ++ t)
 | [],a => by simp
 | x :: t,a => by
   have h1 := Dr.natV_le rx hrx t (a ++ [x]);rw [List.append_assoc] at h1;refine Nat.le_trans ?_ h1;rw [Dr.natV_snoc];have := Nat.mul_le_mul_left (Dr.natV rx a) hrx;omega
theorem Dr.natV_take_le (rx : Nat) (hrx : 1 ≤ rx) (l : List UInt8) (k : Nat) : Dr.natV rx (l.take k) ≤ Dr.natV rx l := by
 have h := Dr.natV_le rx hrx (l.drop k) (l.take k);rwa [List.take_append_drop] at h
theorem Dr.mul_step {a ws : List Nat} {i c rx d : Nat} (h : Nt.val (ws.take i) + 4294967296 ^ i * c = Nt.val (a.take i) * rx + d) (hi : i < ws.length) :
 Nt.val ((ws.set i ((c + a.getD i 0 * rx) % 4294967296)).take (i + 1)) + 4294967296 ^ (i + 1) * ((c + a.getD i 0 * rx) / 4294967296) = Nt.val (a.take (i + 1)) * rx + d := by
 rw [Nt.val_set_take _ _ _ hi,Nt.val_take_step a,Nat.pow_succ]
 have e := Nat.div_add_mod (c + a.getD i 0 * rx) 4294967296
 generalize (c + a.getD i 0 * rx) / 4294967296 = q at *
 generalize (c + a.getD i 0 * rx) % 4294967296 = m at *
 generalize a.getD i 0 = x at *
 generalize 4294967296 ^ i = P at *
 have e1 : P * m + P * 4294967296 * q = P * c + P * x * rx := by
  rw [Nat.mul_assoc,← Nat.mul_add,show m + 4294967296 * q = c + x * rx by omega,Nat.mul_add,Nat.mul_assoc]
 rw [Nat.add_mul]
 omega
theorem Dr.mul_carry {c x rx : Nat} (hc : c < rx) (hx : x < 4294967296) : (c + x * rx) / 4294967296 < rx := by
 rw [Nat.div_lt_iff_lt_mul (by omega)];have h1 : x * rx ≤ 4294967295 * rx := Nat.mul_le_mul_right _ (by omega);have h2 : rx * 4294967296 = 4294967295 * rx + rx := by omega
 omega
theorem Dr.mul_small {c x rx : Nat} (hc : c < rx) (hx : x < 4294967296) (hr : rx ≤ 36) : x * rx < 18446744073709551616 ∧ c + x * rx < 18446744073709551616 := by
 have h1 : x * rx ≤ 4294967295 * rx := Nat.mul_le_mul_right _ (by omega);omega
theorem Dr.mul_end0 {us : List Nat} {N M : Nat} (hw : Nt.Wd us) (hl : us.length = (Nt.dig N).length) (hv : Nt.val us = M) (hN : N ≤ M) : us = Nt.dig M := by
 have h := Nt.dig_val us hw (fun hne hz => by
   have hpos := List.length_pos_iff.2 hne;have hN0 : 0 < N := Nt.dig_len_pos.1 (by omega);have h1 := Nt.dig_pow_le hN0;have h2 : Nt.val us = Nt.val (us.take (us.length - 1)) := by
    have e := Nt.val_take_succ us (us.length - 1) (by omega);rw [Nat.sub_add_cancel (by omega),List.take_length,hz] at e;simpa using e
   have h3 := Nt.val_lt _ (hw.take (us.length - 1));rw [List.length_take,Nat.min_eq_left (by omega)] at h3;rw [hl] at h2 h3
   omega)
 rw [← h,hv]
theorem Dr.mul_end1 {us : List Nat} {c M : Nat} (hw : Nt.Wd us) (hc : 0 < c) (hc2 : c < 4294967296) (hv : Nt.val us + 4294967296 ^ us.length * c = M) : us ++ [c] = Nt.dig M := by
 have h := Nt.dig_val (us ++ [c]) (fun x hx => by
   rcases List.mem_append.1 hx with h | h
   · exact hw x h
   · simp at h; omega) (fun _ => by
     rw [List.length_append,List.length_singleton,Nat.add_sub_cancel];simp
     omega)
 rw [← h,Nt.val_append,← hv];simp [Nt.val]
def Dr.cV : ByteArray := ⟨#[48,49,50,51,52,53,54,55,56,57,97,98,99,100,101,102,103,104,105,106,107,108,109,110,111,112,113,114,115,116,117,118,119,120,121,122]⟩
theorem Dr.tab36 : ∀ n : Fin 256,bits .or .u8 (n.val : Int) 32 = ((n.val ||| 32 : Nat) : Int) ∧ (n.val ||| 32) < 256 ∧
 ((10 ≤ Lib.indexByte Dr.cV.data.toList (UInt8.ofNat (n.val ||| 32)) ∧ Lib.indexByte Dr.cV.data.toList (UInt8.ofNat (n.val ||| 32)) = (Dr.val (UInt8.ofNat n.val) : Int) ∧ ((n.val ||| 32) ≠ n.val ∨ ((n.val ||| 32) = n.val ∧ 97 ≤ n.val))) ∨
  (Lib.indexByte Dr.cV.data.toList (UInt8.ofNat (n.val ||| 32)) < 10 ∧ 48 ≤ n.val ∧ n.val ≤ 57 ∧ Dr.val (UInt8.ofNat n.val) = n.val - 48) ∨
  (Lib.indexByte Dr.cV.data.toList (UInt8.ofNat (n.val ||| 32)) < 10 ∧ (n.val < 48 ∨ 57 < n.val) ∧ Dr.val (UInt8.ofNat n.val) = 99)) := by decide +kernel
theorem Dr.Value_any (x : UInt8) (w : World) : Calls Tryz.prog 155 #[.int .u8 (x.toNat : Int)] w fun e w' => e = .returned (.int .i64 (Dr.val x : Int)) ∧ w = w' := by
 have ht := Dr.tab36 ⟨x.toNat,x.toNat_lt⟩;simp only [UInt8.ofNat_toNat] at ht;have hx := x.toNat_lt;obtain ⟨c,hc⟩ : ∃ z : Int,(x.toNat : Int) = z := ⟨_,rfl⟩;obtain ⟨d,hd⟩ : ∃ z : Int,((x.toNat ||| 32 : Nat) : Int) = z := ⟨_,rfl⟩;have KI : ∀ w',Calls Tryz.prog 95 #[.string Dr.cV,.int .u8 d] w' fun e w'' => e = .returned (.int .i64 (Lib.indexByte Dr.cV.data.toList (UInt8.ofNat (x.toNat ||| 32)))) ∧ w'' = w' := fun w' => by
  refine (Tryz.strings_IndexByte Dr.cV d w').mono ?_;rintro e w'' ⟨rfl,rfl⟩;rw [← hd];exact ⟨rfl,rfl⟩
 obtain ⟨k,hk⟩ : ∃ z,Lib.indexByte Dr.cV.data.toList (UInt8.ofNat (x.toNat ||| 32)) = z := ⟨_,rfl⟩;rw [hk] at KI ht;obtain ⟨ho,hlt,hcase⟩ := ht;rw [hc,hd] at ho;unfold Dr.cV at KI;have KI2 := Lib.hid KI;clear KI hk;rw [hc];have hc0 : 0 ≤ c := by omega
 have hc1 : c < 256 := by omega
 rcases hcase with ⟨h1,h2,h3⟩ | ⟨h1,h2,h3,h4⟩ | ⟨h1,h2,h4⟩
 · have e1 : decide (10 ≤ k) = true := decide_eq_true h1;have hk2 := Lib.hid h2;rcases h3 with h3 | ⟨h3,h5⟩
   · have e2 : (d != c) = true := bne_iff_ne.2 (by omega);clear h2 h3 hlt hc hd hx;go_enter Tryz.func155,Tryz.ntmps155;go_wp2_with fail;refine (KI2.out _).mono ?_;rintro x2 w2 ⟨rfl,hw2⟩;subst hw2;go_wp2_with fail;go_ret;exact ⟨congrArg (fun z => Ending.returned (Value.int .i64 z)) hk2.out,rfl⟩
   · have e2 : (d != c) = false := by rw [bne_eq_false_iff_eq]; omega
     have e3 : 97 ≤ c := by omega
     clear h2 h3 hlt hc hd hx h5;go_enter Tryz.func155,Tryz.ntmps155;go_wp2_with fail;refine (KI2.out _).mono ?_;rintro x2 w2 ⟨rfl,hw2⟩;subst hw2;go_wp2_with fail;go_ret;exact ⟨congrArg (fun z => Ending.returned (Value.int .i64 z)) hk2.out,rfl⟩
 · have e1 : decide (10 ≤ k) = false := decide_eq_false (by omega);have e2 : 48 ≤ c := by omega
   have e3 : c ≤ 57 := by omega
   have HV := Lib.hid (show ((Dr.val x : Nat) : Int) = c - 48 by omega);clear h2 h3 h4 hlt hc hd hx;go_enter Tryz.func155,Tryz.ntmps155;go_wp2_with fail;refine (KI2.out _).mono ?_;rintro x2 w2 ⟨rfl,hw2⟩;subst hw2;go_wp2_with fail;go_ret;exact ⟨congrArg (fun z => Ending.returned (Value.int .i64 z)) HV.out.symm,rfl⟩
 · have e1 : decide (10 ≤ k) = false := decide_eq_false (by omega);have HV := Lib.hid (show ((Dr.val x : Nat) : Int) = 99 by omega);have h2' : c < 48 ∨ (48 ≤ c ∧ 57 < c) := by omega
   clear h2 h4 hlt hc hd hx;rcases h2' with e2 | ⟨e2,e3⟩;all_goals
    go_enter Tryz.func155,Tryz.ntmps155;go_wp2_with fail;refine (KI2.out _).mono ?_;rintro x2 w2 ⟨rfl,hw2⟩;subst hw2;go_wp2_with fail;go_ret;exact ⟨congrArg (fun z => Ending.returned (Value.int .i64 z)) HV.out.symm,rfl⟩
def Dr.PostN (w : World) (R : Option Nat) (e : Ending) (w' : World) : Prop :=
 match R with
 | none => e = .returned (.tuple #[.slice none 0 0,.int .i64 4]) ∧ Below w.heap.size w w'
 | some n => ∃ v,e = .returned (.tuple #[v,.int .i64 0]) ∧ Nt.N w' v n ∧ Below w.heap.size w w'
theorem Dr.natR_long {rx : Nat} {l : List UInt8} (h : 16384 < l.length) : Dr.natR rx l = none := by unfold Dr.natR; rw [if_pos h]
theorem Dr.natR_wide {rx : Nat} (hrx : 1 ≤ rx) {l : List UInt8} (k : Nat) (h : 512 < (Nt.dig (Dr.natV rx (l.take k))).length) : Dr.natR rx l = none := by
 unfold Dr.natR;split
 · rfl
 · rw [if_pos (Nat.lt_of_lt_of_le h (Nt.dig_len_mono (Dr.natV_take_le rx hrx l k)))]
theorem Dr.natR_some {rx : Nat} {l : List UInt8} (h1 : ¬ 16384 < l.length) (h2 : ¬ 512 < (Nt.dig (Dr.natV rx l)).length) : Dr.natR rx l = some (Dr.natV rx l) := by
 unfold Dr.natR;rw [if_neg h1,if_neg h2]
theorem Dr.vs_set (us : List Nat) (k x : Nat) : (Nt.vs us).set k (.int .u32 (x : Int)) = Nt.vs (us.set k x) := by simp [Nt.vs,List.map_set]
set_option maxHeartbeats 8000000 in
theorem Dr.natRead (s : ByteArray) (rx : Nat) (hr1 : 2 ≤ rx) (hr2 : rx ≤ 36) (hs : s.size ≤ 9223372036854775807) (h0 : 1 ≤ s.size) (hall : ∀ k (h : k < s.size),Dr.val (s[k]'h) < rx) (w : World) :
 Calls Tryz.prog 156 #[.string s,.int .i64 (rx : Int)] w fun e w' => Dr.PostN w (Dr.natR rx s.data.toList) e w' := by
 obtain ⟨R,hR⟩ : ∃ z,Dr.natR rx s.data.toList = z := ⟨_,rfl⟩
 rw [hR]
 have HR := Lib.hid hR
 have hlen : s.data.toList.length = s.size := by simp
 have HLEN := Lib.hid hlen
 have HALL := Lib.hid hall
 have hne1 : s.toList.isEmpty = false := by
  rw [ByteArray.toList_eq,List.isEmpty_eq_false_iff];intro e;rw [e] at hlen;simp at hlen;omega
 have hne2 : ¬ s.toList = [] := by
  intro e;rw [e] at hne1;cases hne1
 have hr1I : 2 ≤ (rx : Int) := by omega
 have hr2I : (rx : Int) ≤ 36 := by omega
 obtain ⟨i0,hi0,hz0,hz1,hz2⟩ := info_parts Nt.infoWord
 clear hR hall hlen
 go_enter Tryz.func156,Tryz.ntmps156
 go_wp2_with fail
 go_loop [22] (fun i => ∃ k : Nat,k ≤ s.size ∧ i = .int .i64 (k : Int)) (fun i => s.size - (intOf i).toNat)
 case atStart => exact ⟨0,Nat.zero_le _,rfl⟩
 case round =>
  obtain ⟨k,hk,rfl⟩ := hrel
  by_cases hlt : k < s.size
  · have KV := fun w' => Dr.Value_any (s[k]'hlt) w';have hv := HALL.out k hlt;obtain ⟨v,hv2⟩ : ∃ z,Dr.val (s[k]'hlt) = z := ⟨_,rfl⟩;rw [hv2] at KV hv;have hvd : decide (rx ≤ v) = false := decide_eq_false (by omega);have KV2 := Lib.hid KV;clear KV hv2;go_wp2_with (first | (go_at_call 155; refine (KV2.out _).mono ?_; rintro x w2 ⟨rfl,hw2⟩; subst hw2));exact ⟨⟨k + 1,hlt,rfl⟩,by simp [intOf]; omega⟩
  · have hnk : ¬ ((k : Int) < (s.size : Int)) := by omega
    by_cases hbig : 16384 < s.size
    · have HE := Lib.hid (show Dr.PostN w R (.returned (.tuple #[.slice none 0 0,.int .i64 4])) w from by
       rw [← HR.out,Dr.natR_long (by rw [HLEN.out]; exact hbig)]
       exact ⟨rfl,Below.refl _ _⟩)
      have hbigI : 16384 < (s.size : Int) := by omega
      clear hi0 hz0 hz1 hz2;go_wp2_with fail;go_ret2;exact HE.out
    have hbigI : (s.size : Int) ≤ 16384 := by omega
    have hbigN : s.size ≤ 16384 := by omega
    have HBIG := Lib.hid hbig;obtain ⟨B,hB⟩ : ∃ z,w.heap.size = z := ⟨_,rfl⟩;have HB := Lib.hid hB;have H0 := Lib.hid (show ∃ (ki : Nat) (ds : List Nat),ki ≤ s.size ∧ Value.int .i64 (0 : Int) = .int .i64 (ki : Int) ∧ ds = Nt.dig (Dr.natV rx (s.data.toList.take ki)) ∧ ds.length ≤ 512 ∧ w.ownsRow B 57 1 (.slice none 0 0) ds.length (Nt.vs ds) ∧ Below B w w from
      ⟨0,[],Nat.zero_le _,rfl,by rw [List.take_zero]; exact Nt.dig_zero.symm,by decide,World.ownsRow_nil w B _ _,Below.refl _ _⟩)
    clear hB hk hbig;go_wp2_with fail;clear hlt hnk;go_loopw [7,37] (fun v7 ci wr => ∃ (ki : Nat) (ds : List Nat),ki ≤ s.size ∧ ci = .int .i64 (ki : Int) ∧ ds = Nt.dig (Dr.natV rx (s.data.toList.take ki)) ∧ ds.length ≤ 512 ∧ wr.ownsRow B 57 1 v7 ds.length (Nt.vs ds) ∧ Below B w wr) (fun _ ci _ => s.size - (intOf ci).toNat);case atStart => exact H0.out
    case round =>
     obtain ⟨ki,ds,hki,rfl,hds,hdl,hown,hbw⟩ := hrel;clear H0;by_cases hlt : ki < s.size
     · have KV := fun w' => Dr.Value_any (s[ki]'hlt) w';have hv := HALL.out ki hlt;obtain ⟨d,hd⟩ : ∃ z,Dr.val (s[ki]'hlt) = z := ⟨_,rfl⟩;have htake : s.data.toList.take (ki + 1) = s.data.toList.take ki ++ [s[ki]'hlt] := by
        rw [List.take_succ_eq_append_getElem (by simpa using hlt)]; rfl
       have hM : Dr.natV rx (s.data.toList.take (ki + 1)) = Dr.natV rx (s.data.toList.take ki) * rx + d := by rw [htake,Dr.natV_snoc,hd]
       rw [hd] at KV hv;obtain ⟨N,hN⟩ : ∃ z,Dr.natV rx (s.data.toList.take ki) = z := ⟨_,rfl⟩;rw [hN] at hds hM;have HM := Lib.hid hM;have HN0 := Lib.hid hN;have HDS := Lib.hid hds;have hNM : N ≤ N * rx + d := Nat.le_trans (Nat.le_mul_of_pos_right N (by omega)) (Nat.le_add_right _ _);obtain ⟨M,hMM⟩ : ∃ z,N * rx + d = z := ⟨_,rfl⟩;have HMM := Lib.hid hMM;have HNM := Lib.hid (show N ≤ M by rw [← hMM]; exact hNM);have hval0 : Nt.val ds = N := by rw [hds,Nt.val_dig]
       have HVAL0 := Lib.hid hval0;have HWD0 := Lib.hid (show Nt.Wd ds by rw [hds]; exact Nt.dig_wd N);have HDN := Lib.hid (show ds.length = (Nt.dig N).length by rw [hds]);obtain ⟨n,hn⟩ : ∃ n,ds.length = n := ⟨_,rfl⟩;have HLN := Lib.hid hn;rw [hn] at hdl hown;have hsl : ∃ ad cap,u7 = .slice ad n cap := by
        rcases hown.2 with ⟨e1,e2⟩ | ⟨g,cap,cur,e1,_⟩
        · exact ⟨none,0,by rw [e1,e2]⟩
        · exact ⟨_,_,e1⟩
       obtain ⟨ad,cap,rfl⟩ := hsl;have KV2 := Lib.hid KV;have hdI : (d : Int) < 36 := by omega
       have hd0 : 0 ≤ (d : Int) := by omega
       have g0 : IntKind.u64.wrap (d : Int) = (d : Int) := by rw [IntKind.wrap_u64]; omega
       have HI := Lib.hid (show ∃ (j c : Nat) (us : List Nat),j ≤ n ∧ Value.int .i64 (0 : Int) = .int .i64 (j : Int) ∧ Value.int .u64 (d : Int) = .int .u64 (c : Int) ∧ c < rx ∧ us.length = n ∧ Nt.Wd us ∧ (∀ t,j ≤ t → us.getD t 0 = ds.getD t 0) ∧ Nt.val (us.take j) + 4294967296 ^ j * c = Nt.val (ds.take j) * rx + d ∧ wr.ownsRow B 57 1 (.slice ad n cap) n (Nt.vs us) ∧ Below B w wr from
         ⟨0,d,ds,Nat.zero_le _,rfl,rfl,hv,hn,HWD0.out,fun _ _ => rfl,by simp [Nt.val],hown,hbw⟩)
       clear hM hN hds hNM hMM hval0 hn KV hd htake hown hbw;go_wp2_with (first | (go_at_call 155; refine (KV2.out _).mono ?_; rintro x w2 ⟨rfl,hw2⟩; subst hw2));go_loopw [9,47] (fun cv ji wr2 => ∃ (j c : Nat) (us : List Nat),j ≤ n ∧ ji = .int .i64 (j : Int) ∧ cv = .int .u64 (c : Int) ∧ c < rx ∧ us.length = n ∧ Nt.Wd us ∧ (∀ t,j ≤ t → us.getD t 0 = ds.getD t 0) ∧ Nt.val (us.take j) + 4294967296 ^ j * c = Nt.val (ds.take j) * rx + d ∧ wr2.ownsRow B 57 1 (.slice ad n cap) n (Nt.vs us) ∧ Below B w wr2) (fun _ ji _ => n - (intOf ji).toNat);case atStart => exact HI.out
       case round =>
        obtain ⟨j,c,us,hj,rfl,rfl,hc,hul,hud,hut,huv,hown,hbw⟩ := hrel;clear HI KV2 g0;obtain ⟨wi,hwi⟩ : ∃ z,z = wr := ⟨_,rfl⟩;have HUL := Lib.hid hul;have HUD := Lib.hid hud;have HUT := Lib.hid hut;have HUV := Lib.hid huv;have HBW := Lib.hid hbw;clear hul hud hut huv hbw hwi;by_cases hlt2 : j < n
        · have hT : ∃ T,ad = some ⟨T,0,none⟩ ∧ B ≤ T := by
           rcases hown.2 with ⟨e1,e2⟩ | ⟨g,cap,cur,e2,e1,_⟩
           · omega
           · simp only [Value.slice.injEq] at e2;exact ⟨g,e2.1,e1⟩
          obtain ⟨T,rfl,hBT⟩ := hT;have hin : (Nt.vs us)[j]? = some (.int .u32 (us.getD j 0 : Nat)) := by
           rw [List.getD_eq_getElem?_getD,Nt.vs,List.getElem?_map,List.getElem?_eq_getElem (by rw [HUL.out]; exact hlt2)];rfl
          have c1 := hown.cellAt j (by omega);rw [hin] at c1;have hx : us.getD j 0 < 4294967296 := HUD.out.getD j;have hxd : us.getD j 0 = ds.getD j 0 := HUT.out j (Nat.le_refl _);have hstep := Dr.mul_step (a := ds) (ws := us) (i := j) (c := c) (rx := rx) (d := d) HUV.out (by rw [HUL.out]; exact hlt2);rw [← hxd] at hstep;obtain ⟨x,hxx⟩ : ∃ z,us.getD j 0 = z := ⟨_,rfl⟩;rw [hxx] at hx hstep c1;have hcar := Dr.mul_carry hc hx;obtain ⟨hsm1,hsm2⟩ := Dr.mul_small hc hx hr2;obtain ⟨p,hp⟩ : ∃ p,x * rx = p := ⟨_,rfl⟩;have g3 : IntKind.u64.wrap ((x : Int) * (rx : Int)) = (p : Int) := by
           rw [IntKind.wrap_u64,← Int.natCast_mul,hp]; omega
          rw [hp] at hstep hcar hsm1 hsm2;obtain ⟨t,ht⟩ : ∃ t,c + p = t := ⟨_,rfl⟩;have g4 : IntKind.u64.wrap ((c : Int) + (p : Int)) = (t : Int) := by rw [IntKind.wrap_u64]; omega
          rw [ht] at hstep hcar hsm2;obtain ⟨lo,hlo⟩ : ∃ lo,t % 4294967296 = lo := ⟨_,rfl⟩;obtain ⟨hi,hhi⟩ : ∃ hi,t / 4294967296 = hi := ⟨_,rfl⟩;have hloI : (t : Int) % 4294967296 = (lo : Int) := by rw [← hlo]; rfl
          have hhiI : (t : Int) / 4294967296 = (hi : Int) := by rw [← hhi]; rfl
          have hlol : lo < 4294967296 := by omega
          have g1 : IntKind.u64.wrap (x : Int) = (x : Int) := by rw [IntKind.wrap_u64]; omega
          have g2 : IntKind.u64.wrap (rx : Int) = (rx : Int) := by rw [IntKind.wrap_u64]; omega
          have g5 : IntKind.u32.wrap (t : Int) = (lo : Int) := by rw [IntKind.wrap_u32]; exact hloI
          rw [hlo,hhi] at hstep;rw [hhi] at hcar;have hst := hown.stored j (.int .u32 (lo : Int));rw [Dr.vs_set] at hst;have hfz := hown.frozenAt j;have hbs : Below B w (wr.setCell ⟨T,j,none⟩ (.int .u32 (lo : Int))) := HBW.out.setCell (p := ⟨T,j,none⟩) hBT _;obtain ⟨W,hW⟩ : ∃ W,wr.setCell ⟨T,j,none⟩ (.int .u32 (lo : Int)) = W := ⟨_,rfl⟩;rw [hW] at hst hbs;have HE := Lib.hid (show (∃ (j' c' : Nat) (us' : List Nat),j' ≤ n ∧ Value.int .i64 ((j : Int) + 1) = .int .i64 (j' : Int) ∧ Value.int .u64 (hi : Int) = .int .u64 (c' : Int) ∧ c' < rx ∧ us'.length = n ∧ Nt.Wd us' ∧ (∀ t,j' ≤ t → us'.getD t 0 = ds.getD t 0) ∧ Nt.val (us'.take j') + 4294967296 ^ j' * c' = Nt.val (ds.take j') * rx + d ∧ W.ownsRow B 57 1 (.slice (some ⟨T,0,none⟩) n cap) n (Nt.vs us') ∧ Below B w W) from
            ⟨j + 1,hi,us.set j lo,hlt2,rfl,rfl,hcar,by rw [List.length_set]; exact HUL.out,HUD.out.set _ _ hlol,fun t ht => by rw [Nt.getD_set_ne us j t lo (by omega)]; exact HUT.out t (by omega),hstep,hst.1,hbs⟩)
          have hjn : (j : Int) < (n : Int) := by omega
          have hj0 : 0 ≤ (j : Int) := by omega
          have hn512 : (n : Int) ≤ 512 := by omega
          clear hp ht hlo hhi hstep hcar hst hbs hown hin hxd hxx hx hsm1 hsm2 HUL HUD HUT HUV HBW;go_wp2_with fail;exact ⟨HE.out,by simp [intOf]; omega⟩
        · have hjn : j = n := by omega
          have huv := HUV.out;rw [hjn,List.take_of_length_le (by rw [HUL.out]; exact Nat.le_refl _),List.take_of_length_le (by rw [HLN.out]; exact Nat.le_refl _),HVAL0.out,HMM.out] at huv;have hnj : ¬ j < n := hlt2;have hmeas : s.size - (ki + 1) < s.size - ki := by omega
          by_cases hc0 : c = 0
          · rw [hc0,Nat.mul_zero,Nat.add_zero] at huv;have hdig := Dr.mul_end0 HUD.out (by rw [HUL.out,← HLN.out]; exact HDN.out) huv HNM.out;have hnl : us.length = n := HUL.out;have HE := Lib.hid (show (∃ (ki' : Nat) (ds' : List Nat),ki' ≤ s.size ∧ Value.int .i64 ((ki : Int) + 1) = .int .i64 (ki' : Int) ∧ ds' = Nt.dig (Dr.natV rx (s.data.toList.take ki')) ∧ ds'.length ≤ 512 ∧ wr.ownsRow B 57 1 (.slice ad n cap) ds'.length (Nt.vs ds') ∧ Below B w wr) from
              ⟨ki + 1,us,hlt,rfl,by rw [HM.out,HMM.out]; exact hdig,by omega,by rw [hnl]; exact hown,HBW.out⟩)
            have hn512 : (n : Int) ≤ 512 := by omega
            subst hc0;clear hown hdig hnl huv hjn HUL HUD HUT HUV HBW hmeas;go_wp2_with fail;exact ⟨HE.out,by simp [intOf]; omega⟩
          · have hc1 : 0 < c := by omega
            have hcI : 0 < (c : Int) := by omega
            have hc32 : c < 4294967296 := by omega
            have g1 : IntKind.u32.wrap (c : Int) = (c : Int) := by rw [IntKind.wrap_u32]; omega
            have hdig := Dr.mul_end1 (M := M) HUD.out hc1 hc32 (by rw [HUL.out]; exact huv);have hBz : B ≤ wr.heap.size := by have h1 := HBW.out.size; have h2 := HB.out; omega
            have HDG := Lib.hid (show us ++ [c] = Nt.dig (Dr.natV rx (s.data.toList.take (ki + 1))) by rw [HM.out,HMM.out]; exact hdig);have HLL := Lib.hid (show (us ++ [c]).length = n + 1 by rw [List.length_append,HUL.out]; rfl);have HVS := Lib.hid (show Nt.vs us ++ [Value.int .u32 (c : Int)] = Nt.vs (us ++ [c]) by simp [Nt.vs]);have hnews : ∀ j u,([Value.int .u32 (c : Int)] : List Value)[j]? = some u → (wr.alloc (.cells #[.int .u32 (c : Int)] 57)).cell? ((⟨wr.heap.size,0,none⟩ : Addr).add j) = some u := by
             intro j u hj;match j,hj with
             | 0,hj => simp at hj; subst hj; simp [Addr.add]
            have HNEW := Lib.hid hnews;have hown1 := hown.alloc (.cells #[.int .u32 (c : Int)] 57);have HB1 := Lib.hid (HBW.out.alloc hBz (.cells #[.int .u32 (c : Int)] 57));clear hdig huv hjn HUL HUD HUT HUV HBW hnews hc0;by_cases h512 : n = 512
            · subst h512;have HE0 := Lib.hid (fun (W : World) (hb : Below B w W) => show Dr.PostN w R (.returned (.tuple #[.slice none 0 0,.int .i64 4])) W from by
                rw [← HR.out,Dr.natR_wide (by omega) (ki + 1) (by rw [← HDG.out,HLL.out]; decide)]
                exact ⟨rfl,HB.out ▸ hb⟩)
              go_wp2_with (at_builtin; refine wpList_append_own _ rfl _ _ 22 rfl B 57 i0 (.int .u32 0) 1 4 Tryz.underlying22 hi0 hz0 hz1 hz2 rfl (by decide) _ _ _ rfl hown1 ⟨wr.heap.size,0,none⟩ 1 1 [.int .u32 (c : Int)] rfl rfl HNEW.out (fun u hu => by simp at hu; subst hu; rfl) (by decide) (by decide) (by simp; omega) ?_);intro v9 w9 hown9 hgr9 _;have hb9 := HB1.out.grown hgr9 (by simp; omega) (fun k hk => (hown1.lt k hk).1);have HE := Lib.hid (HE0.out w9 hb9);have hs9 : ∃ ad cap,v9 = .slice ad (512 + 1) cap := by
               rcases hown9.2 with ⟨e1,e2⟩ | ⟨g,cap,cur,e1,_⟩
               · omega
               · exact ⟨_,_,e1⟩
              obtain ⟨ad9,cap9,rfl⟩ := hs9;clear hown9 hgr9 hb9 HE0 hown1 hown;go_wp2_with fail;go_ret2;exact HE.out
            · have hn1 : n + 1 ≤ 512 := by omega
              have hn1I : (n : Int) + 1 ≤ 512 := by omega
              have HE0 := Lib.hid (fun (v' : Value) (W : World) (hb : Below B w W) (ho : W.ownsRow B 57 1 v' (n + 1) (Nt.vs us ++ [Value.int .u32 (c : Int)])) => show (∃ (ki' : Nat) (ds' : List Nat),ki' ≤ s.size ∧ Value.int .i64 ((ki : Int) + 1) = .int .i64 (ki' : Int) ∧ ds' = Nt.dig (Dr.natV rx (s.data.toList.take ki')) ∧ ds'.length ≤ 512 ∧ W.ownsRow B 57 1 v' ds'.length (Nt.vs ds') ∧ Below B w W) from
                ⟨ki + 1,us ++ [c],hlt,rfl,HDG.out,by rw [HLL.out]; exact hn1,by rw [HLL.out,← HVS.out]; exact ho,hb⟩)
              clear h512;go_wp2_with (at_builtin; refine wpList_append_own _ rfl _ _ 22 rfl B 57 i0 (.int .u32 0) 1 4 Tryz.underlying22 hi0 hz0 hz1 hz2 rfl (by decide) _ _ _ rfl hown1 ⟨wr.heap.size,0,none⟩ 1 1 [.int .u32 (c : Int)] rfl rfl HNEW.out (fun u hu => by simp at hu; subst hu; rfl) (by unfold maxLen; omega) (by omega) (by simp; omega) ?_);intro v9 w9 hown9 hgr9 _;have hb9 := HB1.out.grown hgr9 (by simp; omega) (fun k hk => (hown1.lt k hk).1);have HE := Lib.hid (HE0.out v9 w9 hb9 hown9);have hs9 : ∃ ad cap,v9 = .slice ad (n + 1) cap := by
               rcases hown9.2 with ⟨e1,e2⟩ | ⟨g,cap,cur,e1,_⟩
               · omega
               · exact ⟨_,_,e1⟩
              obtain ⟨ad9,cap9,rfl⟩ := hs9;clear hown9 hgr9 hb9 HE0 hown1 hown;go_wp2_with fail;exact ⟨HE.out,by simp [intOf]; omega⟩
     · have hke : ki = s.size := by omega
       have htk : s.data.toList.take ki = s.data.toList := List.take_of_length_le (by rw [HLEN.out]; omega);rw [htk] at hds;have hle : (Nt.dig (Dr.natV rx s.data.toList)).length ≤ 512 := by rw [← hds]; exact hdl
       have hx := Dr.natR_some (rx := rx) (l := s.data.toList) (by rw [HLEN.out]; exact HBIG.out) (by omega);rw [HR.out] at hx;have hin := Nt.In.of_own hown;rw [hds] at hin;have HE := Lib.hid (show Dr.PostN w R (.returned (.tuple #[u7,.int .i64 0])) wr from by
         rw [hx]
         exact ⟨u7,rfl,hin,HB.out ▸ hbw⟩)
       have hnk : ¬ ki < s.size := hlt;clear hds hle hx hin hown hbw htk hke;go_wp2_with fail;go_ret2;exact HE.out
def Dr.XA (b : Nat) (s : ByteArray) (rx : Nat) (u : Int) (w : World) : Prop := w.heap[b]? = some (.cells #[.string s,.int .i64 (rx : Int),.int .i64 u] 126 (0,0))
theorem Dr.XA.lt {b : Nat} {s : ByteArray} {rx : Nat} {u : Int} {w : World} (h : Dr.XA b s rx u w) : b < w.heap.size := (Array.getElem?_eq_some_iff.1 h).1
theorem Dr.XA.below {b : Nat} {s : ByteArray} {rx : Nat} {u : Int} {w w' : World} (h : Dr.XA b s rx u w) (hb : Below w.heap.size w w') : Dr.XA b s rx u w' := (hb.block b h.lt).trans h
theorem Dr.XA.cells {b : Nat} {s : ByteArray} {rx : Nat} {u : Int} {w : World} (h : Dr.XA b s rx u w) : w.cell? ⟨b,0,none⟩ = some (.string s) ∧ w.cell? ⟨b,1,none⟩ = some (.int .i64 (rx : Int)) ∧ w.cell? ⟨b,2,none⟩ = some (.int .i64 u) :=
 ⟨Lib.cell_of_heap h 0,Lib.cell_of_heap h 1,Lib.cell_of_heap h 2⟩
theorem Dr.XA.setS {b : Nat} {s : ByteArray} {rx : Nat} {u : Int} {w : World} (h : Dr.XA b s rx u w) (s' : ByteArray) : ∃ W,w.setCell ⟨b,0,none⟩ (.string s') = W ∧ w.frozen? ⟨b,0,none⟩ = false ∧ Dr.XA b s' rx u W ∧ Dr.Kept b w W ∧ W.heap.size = w.heap.size :=
 ⟨_,rfl,Rt.frozen_of h 0,Rt.setCells h 0 _,⟨rfl,rfl,rfl,by simp,fun q hq hne => heap_setCell_other w ⟨b,0,none⟩ q _ (fun e => hne (by simp [e]))⟩,by simp⟩
theorem Dr.XA.setR {b : Nat} {s : ByteArray} {rx : Nat} {u : Int} {w : World} (h : Dr.XA b s rx u w) (rx' : Nat) : ∃ W,w.setCell ⟨b,1,none⟩ (.int .i64 (rx' : Int)) = W ∧ w.frozen? ⟨b,1,none⟩ = false ∧ Dr.XA b s rx' u W ∧ Dr.Kept b w W ∧ W.heap.size = w.heap.size :=
 ⟨_,rfl,Rt.frozen_of h 1,Rt.setCells h 1 _,⟨rfl,rfl,rfl,by simp,fun q hq hne => heap_setCell_other w ⟨b,1,none⟩ q _ (fun e => hne (by simp [e]))⟩,by simp⟩
theorem Dr.XA.setU {b : Nat} {s : ByteArray} {rx : Nat} {u : Int} {w : World} (h : Dr.XA b s rx u w) (u' : Int) : ∃ W,w.setCell ⟨b,2,none⟩ (.int .i64 u') = W ∧ w.frozen? ⟨b,2,none⟩ = false ∧ Dr.XA b s rx u' W ∧ Dr.Kept b w W ∧ W.heap.size = w.heap.size :=
 ⟨_,rfl,Rt.frozen_of h 2,Rt.setCells h 2 _,⟨rfl,rfl,rfl,by simp,fun q hq hne => heap_setCell_other w ⟨b,2,none⟩ q _ (fun e => hne (by simp [e]))⟩,by simp⟩
theorem Dr.N_kept {b : Nat} {w w' : World} {v : Value} {n : Nat} (h : Nt.N w v n) (hk : Dr.Kept b w w') (hne : ∀ q off l c,v = .slice (some ⟨q,off,none⟩) l c → 0 < (Nt.dig n).length → q ≠ b) : Nt.N w' v n := by
 rcases h with h | h | ⟨h0,q,off,cap,hv,hc,hl,hcell⟩
 · exact .inl h
 · exact .inr (.inl h)
 · exact .inr (.inr ⟨h0,q,off,cap,hv,hc,Nat.lt_of_lt_of_le hl hk.size,fun j hj => (World.cell?_of_block (hk.block q hl (hne q off _ cap hv h0))).trans (hcell j hj)⟩)
theorem Dr.N_off {b : Nat} {s : ByteArray} {rx : Nat} {u : Int} {w : World} {v : Value} {n : Nat} (h : Nt.N w v n) (hx : Dr.XA b s rx u w) : ∀ q off l c,v = .slice (some ⟨q,off,none⟩) l c → 0 < (Nt.dig n).length → q ≠ b := by
 intro q off l c hv h0 e;subst e;rcases h with ⟨h,_⟩ | ⟨_,_,_,h⟩ | ⟨_,q',off',cap,hv',hc,hl,hcell⟩
 · rw [h] at hv; cases hv
 · rw [h] at h0; exact absurd h0 (by decide)
 · rw [hv] at hv';simp only [Value.slice.injEq,Option.some.injEq,Addr.mk.injEq,and_true] at hv';obtain ⟨⟨rfl,rfl⟩,_,_⟩ := hv';have hc0 := hcell 0 h0;have e2 := Rt.cell_of hx (off + 0);rw [e2] at hc0;have hm := Array.mem_of_getElem? hc0;simp at hm
def Dr.PostD (b rx : Nat) (w : World) (s : ByteArray) (u : Int) (R : Option (Nat × List UInt8 × Int)) (e : Ending) (w' : World) : Prop :=
 match R with
 | none => e = .returned (.tuple #[.slice none 0 0,.bool false]) ∧ Dr.XA b s rx u w' ∧ Dr.Kept b w w'
 | some (n,r,u') => ∃ v s',e = .returned (.tuple #[v,.bool true]) ∧ Nt.N w' v n ∧ s'.data.toList = r ∧ Dr.XA b s' rx u' w' ∧ Dr.Kept b w w'
theorem Dr.takeWhile_all {p : UInt8 → Bool} : ∀ {l : List UInt8} {k : Nat},(∀ j (h : j < l.length),j < k → p (l[j]'h) = true) → (k = l.length ∨ ∃ h : k < l.length,p (l[k]'h) = false) → l.takeWhile p = l.take k ∧ l.dropWhile p = l.drop k
 | [],k,h1,h2 => by simp
 | x :: l,0,h1,h2 => by
   rcases h2 with h2 | ⟨h,h2⟩
   · simp at h2
   · simp at h2;simp [h2]
 | x :: l,k + 1,h1,h2 => by
   have hx : p x = true := h1 0 (by simp) (by omega);have ih := Dr.takeWhile_all (p := p) (l := l) (k := k) (fun j hj hjk => by have := h1 (j + 1) (by simp; omega) (by omega); simpa using this) (by
     rcases h2 with h2 | ⟨h,h2⟩
     · left; simpa using h2
     · right; exact ⟨by simpa using h,by simpa using h2⟩)
   rw [List.takeWhile_cons,List.dropWhile_cons,if_pos hx,if_pos hx];exact ⟨by rw [ih.1]; rfl,by rw [ih.2]; rfl⟩
theorem Dr.ext0 (s : ByteArray) (k : Nat) : (s.extract 0 k).data.toList = s.data.toList.take k := by
 rw [ByteArray.data_extract,Array.toList_extract];simp [List.extract_eq_take_drop]
theorem Dr.extE (s : ByteArray) (k : Nat) : (s.extract k s.size).data.toList = s.data.toList.drop k := by
 rw [ByteArray.data_extract,Array.toList_extract];simp only [List.extract_eq_take_drop];refine List.take_of_length_le ?_;rw [List.length_drop];have : s.data.toList.length = s.size := by simp
 omega
theorem Dr.get_list (s : ByteArray) (k : Nat) (h : k < s.size) : s[k]'h = s.data.toList[k]'(by simpa using h) := rfl
set_option maxHeartbeats 16000000 in
theorem Dr.digs_any (b rx : Nat) (s : ByteArray) (u : Int) (w : World) (h : Dr.XA b s rx u w) (hr1 : 2 ≤ rx) (hr2 : rx ≤ 36) (hs : s.size ≤ 1048576) :
 Calls Tryz.prog 142 #[.pointer (some ⟨b,0,none⟩)] w fun e w' => Dr.PostD b rx w s u (Dr.digs rx s.data.toList u) e w' := by
 obtain ⟨R,hR⟩ : ∃ z,Dr.digs rx s.data.toList u = z := ⟨_,rfl⟩
 rw [hR]
 unfold Dr.digs at hR
 have HR := Lib.hid hR
 have hlen : s.data.toList.length = s.size := by simp
 have HLEN := Lib.hid hlen
 have H0 := Lib.hid (show ∃ k : Nat,k ≤ s.size ∧ Value.int .i64 (0 : Int) = .int .i64 (k : Int) ∧ (∀ j (hj : j < s.data.toList.length),j < k → Dr.isDig rx (s.data.toList[j]'hj) = true) ∧ Dr.XA b s rx u w ∧ Below w.heap.size w w from
   ⟨0,Nat.zero_le _,rfl,fun j _ hj => absurd hj (Nat.not_lt_zero _),h,Below.refl _ _⟩)
 clear h hR hlen
 go_enter Tryz.func142,Tryz.ntmps142
 go_wp2_with fail
 go_loopw [4] (fun ni wr => ∃ k : Nat,k ≤ s.size ∧ ni = .int .i64 (k : Int) ∧ (∀ j (hj : j < s.data.toList.length),j < k → Dr.isDig rx (s.data.toList[j]'hj) = true) ∧ Dr.XA b s rx u wr ∧ Below w.heap.size w wr) (fun ni _ => s.size - (intOf ni).toNat)
 case atStart => exact H0.out
 case round =>
  obtain ⟨k,hk,rfl,hdig,hA,hbw⟩ := hrel
  clear H0
  obtain ⟨c0,c1,c2⟩ := hA.cells
  have hb1 : Below wr.heap.size wr wr.drew := Below.drew (Below.refl _ _)
  have hbw1 : Below w.heap.size w wr.drew := hbw.drew
  have hA1 := hA.below hb1
  have hkeep : wr.drew.cell? ⟨b,0,none⟩ = some (.string s) ∧ wr.drew.cell? ⟨b,1,none⟩ = some (.int .i64 (rx : Int)) := ⟨hA1.cells.1,hA1.cells.2.1⟩
  have HDIG := Lib.hid hdig
  have HN := Lib.hid (fun (hk0 : k = 0) (hend : k = s.data.toList.length ∨ ∃ h : k < s.data.toList.length,Dr.isDig rx (s.data.toList[k]'h) = false) => show Dr.PostD b rx w s u R (.returned (.tuple #[.slice none 0 0,.bool false])) wr.drew from by
    have ht := Dr.takeWhile_all hdig hend;rw [← HR.out,ht.1,hk0,List.take_zero,if_pos rfl]
    exact ⟨rfl,hA1,Dr.Kept.of_below hbw1⟩)
  have hkI : (k : Int) ≤ (s.size : Int) := by omega
  have hk0I : 0 ≤ (k : Int) := by omega
  have hk1I : (k : Int) + 1 ≤ 9223372036854775807 := by omega
  by_cases hlt : k < s.size
  · have KV := fun w' => Dr.Value_any (s[k]'hlt) w';obtain ⟨v,hv⟩ : ∃ z,Dr.val (s[k]'hlt) = z := ⟨_,rfl⟩;have hdk : Dr.isDig rx (s.data.toList[k]'(by simpa using hlt)) = decide (v < rx) := by
     unfold Dr.isDig;rw [← Dr.get_list s k hlt,hv]
    rw [hv] at KV;have KV2 := Lib.hid KV;have HDK := Lib.hid hdk;by_cases hvr : v < rx
    · have hvd : decide (v < rx) = true := decide_eq_true hvr;have HE := Lib.hid (show ∃ k' : Nat,k' ≤ s.size ∧ Value.int .i64 ((k : Int) + 1) = .int .i64 (k' : Int) ∧ (∀ j (hj : j < s.data.toList.length),j < k' → Dr.isDig rx (s.data.toList[j]'hj) = true) ∧ Dr.XA b s rx u wr.drew ∧ Below w.heap.size w wr.drew from
        ⟨k + 1,hlt,rfl,fun j hj hjk => by
          by_cases e : j = k
          · subst e; rw [hdk]; exact hvd
          · exact hdig j hj (by omega),hA1,hbw1⟩)
      clear KV hv hdk hdig hA hbw hb1 hbw1 hA1 HN c2;go_wp2_with fail;go_region_held3 (fun w' => w'.cell? ⟨b,0,none⟩ = some (.string s) ∧ w'.cell? ⟨b,1,none⟩ = some (.int .i64 (rx : Int)))
       (first | exact hkeep)
       (first
         | (go_at_call 155
            refine (KV2.out _).mono ?_
            rintro x w2 ⟨rfl,rfl⟩))
      go_wp2_with fail;exact ⟨HE.out,by simp [intOf]; omega⟩
    · have hvd : decide (v < rx) = false := decide_eq_false hvr;have hend : k = s.data.toList.length ∨ ∃ h : k < s.data.toList.length,Dr.isDig rx (s.data.toList[k]'h) = false := .inr ⟨by rw [HLEN.out]; exact hlt,by rw [HDK.out]; exact hvd⟩;by_cases h0 : k = 0
      · have HE := Lib.hid (HN.out h0 hend);subst h0;clear KV hv hdk hA hbw hb1 hbw1 hA1 c2 HN hdig;go_wp2_with fail;go_region_held3 (fun w' => w'.cell? ⟨b,0,none⟩ = some (.string s) ∧ w'.cell? ⟨b,1,none⟩ = some (.int .i64 (rx : Int)))
         (first | exact hkeep)
         (first
           | (go_at_call 155
              refine (KV2.out _).mono ?_
              rintro x w2 ⟨rfl,rfl⟩))
        go_wp2_with fail;go_ret2;exact HE.out
      have hk0 : ((k : Int) == 0) = false := beq_eq_false_iff_ne.2 (by omega);have htw := Dr.takeWhile_all hdig hend;obtain ⟨s1,hs1⟩ : ∃ z,s.extract 0 k = z := ⟨_,rfl⟩;obtain ⟨s2,hs2⟩ : ∃ z,s.extract k s.size = z := ⟨_,rfl⟩;have hs1l : s1.data.toList = s.data.toList.take k := by rw [← hs1]; exact Dr.ext0 s k
      have hs2l : s2.data.toList = s.data.toList.drop k := by rw [← hs2]; exact Dr.extE s k
      have hs1z : s1.size = k := by
       have e : s1.data.toList.length = s1.size := by simp
       rw [hs1l,List.length_take,HLEN.out] at e;omega
      have hne : ¬ s.data.toList.take k = [] := by
       intro e;have hl9 := congrArg List.length e;rw [List.length_take,HLEN.out,List.length_nil] at hl9;omega
      have HF0 := Lib.hid (fun (hnr : Dr.natR rx s1.data.toList = none) (W : World) (hX : Dr.XA b s2 rx 4 W) (hKW : Dr.Kept b w W) => show Dr.PostD b rx w s u R (.returned (.tuple #[.slice none 0 0,.bool true])) W from by
        rw [← HR.out,htw.1,htw.2,if_neg hne,← hs1l,hnr,← hs2l]
        exact ⟨_,s2,rfl,Nt.N.zero W,rfl,hX,hKW⟩)
      have HF1 := Lib.hid (fun (n : Nat) (hnr : Dr.natR rx s1.data.toList = some n) (sl : Value) (W : World) (hNW : Nt.N W sl n) (hX : Dr.XA b s2 rx u W) (hKW : Dr.Kept b w W) => show Dr.PostD b rx w s u R (.returned (.tuple #[sl,.bool true])) W from by
        rw [← HR.out,htw.1,htw.2,if_neg hne,← hs1l,hnr,← hs2l]
        exact ⟨sl,s2,rfl,hNW,rfl,hX,hKW⟩)
      have KR := Lib.hid (fun (w' : World) => Dr.natRead s1 rx hr1 hr2 (by omega) (by omega) (fun j hj => by
        have h1 := hdig j (by rw [HLEN.out]; omega) (by omega);unfold Dr.isDig at h1;have e : s1[j]'hj = s.data.toList[j]'(by rw [HLEN.out]; omega) := by
         rw [Dr.get_list s1 j hj];simp only [hs1l,List.getElem_take]
        rw [e]
        exact of_decide_eq_true h1) w')
      have hA2 := hA1.below (w' := wr.drew.drew) (Below.drew (Below.refl _ _));have hbw2 : Below w.heap.size w wr.drew.drew := hbw1.drew;have hkeep2 : wr.drew.drew.cell? ⟨b,0,none⟩ = some (.string s) ∧ wr.drew.drew.cell? ⟨b,1,none⟩ = some (.int .i64 (rx : Int)) := ⟨hA2.cells.1,hA2.cells.2.1⟩;have HA2 := Lib.hid (And.intro hA2 hbw2);have KR2 := KR.out wr.drew.drew;cases hnr : Dr.natR rx s1.data.toList with
      | none =>
        rw [hnr] at KR2;have KR3 := Lib.hid (show Calls Tryz.prog 156 #[.string s1,.int .i64 (rx : Int)] wr.drew.drew (fun e w' => e = .returned (.tuple #[.slice none 0 0,.int .i64 4]) ∧ Below wr.drew.drew.heap.size wr.drew.drew w') from KR2);have HF2 := Lib.hid (HF0.out hnr);clear KV hv hdk hA hbw hb1 hbw1 hA1 c2 hs1l hs2l hs1z hne htw HN HF0 HF1 KR KR2 hA2 hbw2 hnr h0 hend hdig;go_wp2_with fail;go_region_held3 (fun w' => w'.cell? ⟨b,0,none⟩ = some (.string s) ∧ w'.cell? ⟨b,1,none⟩ = some (.int .i64 (rx : Int)))
         (first | exact hkeep)
         (first
           | (go_at_call 155
              refine (KV2.out _).mono ?_
              rintro x w2 ⟨rfl,rfl⟩))
        go_wp2_with fail;go_region_held3 (fun w' => w'.cell? ⟨b,0,none⟩ = some (.string s) ∧ w'.cell? ⟨b,1,none⟩ = some (.int .i64 (rx : Int)))
         (first | exact hkeep2 | exact hkeep3)
         (first
           | (go_at_call 156
              refine KR3.out.mono ?_
              rintro x w3 ⟨rfl,hb3⟩
              have hA3 := HA2.out.1.below hb3
              have hK3 := (Dr.Kept.of_below (b := b) (HA2.out.2.trans (hb3.mono HA2.out.2.size)))
              have hkeep3 : w3.cell? ⟨b,0,none⟩ = some (.string s) ∧ w3.cell? ⟨b,1,none⟩ = some (.int .i64 (rx : Int)) := ⟨hA3.cells.1,hA3.cells.2.1⟩))
        obtain ⟨d0,d1,d2⟩ := hA3.cells;obtain ⟨W1,hW1,hfz1,hX1,hKW1,hz1⟩ := hA3.setU 4;obtain ⟨e0,e1,e2⟩ := hX1.cells;obtain ⟨W2,hW2,hfz2,hX2,hKW2,hz2⟩ := hX1.setS s2;have HE := Lib.hid (HF2.out W2 hX2 ((hK3.trans hKW1).trans hKW2));clear hA3 hK3 hX1 hX2 hKW1 hKW2 hz1 hz2 hkeep3 HF2 HA2 hb3;go_wp2_with fail;go_ret2;exact HE.out
      | some n =>
        rw [hnr] at KR2;have KR3 := Lib.hid (show Calls Tryz.prog 156 #[.string s1,.int .i64 (rx : Int)] wr.drew.drew (fun e w' => ∃ v,e = .returned (.tuple #[v,.int .i64 0]) ∧ Nt.N w' v n ∧ Below wr.drew.drew.heap.size wr.drew.drew w') from KR2);have HF2 := Lib.hid (HF1.out n hnr);clear KV hv hdk hA hbw hb1 hbw1 hA1 c2 hs1l hs2l hs1z hne htw HN HF0 HF1 KR KR2 hA2 hbw2 hnr h0 hend hdig;go_wp2_with fail;go_region_held3 (fun w' => w'.cell? ⟨b,0,none⟩ = some (.string s) ∧ w'.cell? ⟨b,1,none⟩ = some (.int .i64 (rx : Int)))
         (first | exact hkeep)
         (first
           | (go_at_call 155
              refine (KV2.out _).mono ?_
              rintro x w2 ⟨rfl,rfl⟩))
        go_wp2_with fail;go_region_held3 (fun w' => w'.cell? ⟨b,0,none⟩ = some (.string s) ∧ w'.cell? ⟨b,1,none⟩ = some (.int .i64 (rx : Int)))
         (first | exact hkeep2 | exact hkeep3)
         (first
           | (go_at_call 156
              refine KR3.out.mono ?_
              rintro x w3 ⟨sl,rfl,hN3,hb3⟩
              have hA3 := HA2.out.1.below hb3
              have hK3 := (Dr.Kept.of_below (b := b) (HA2.out.2.trans (hb3.mono HA2.out.2.size)))
              have hkeep3 : w3.cell? ⟨b,0,none⟩ = some (.string s) ∧ w3.cell? ⟨b,1,none⟩ = some (.int .i64 (rx : Int)) := ⟨hA3.cells.1,hA3.cells.2.1⟩))
        obtain ⟨d0,d1,d2⟩ := hA3.cells;obtain ⟨W2,hW2,hfz2,hX2,hKW2,hz2⟩ := hA3.setS s2;have HE := Lib.hid (HF2.out sl W2 (Dr.N_kept hN3 hKW2 (Dr.N_off hN3 hA3)) hX2 (hK3.trans hKW2));clear hA3 hK3 hX2 hKW2 hz2 hkeep3 HF2 HA2 hb3 hN3;go_wp2_with fail;go_ret2;exact HE.out
  · have hend : k = s.data.toList.length ∨ ∃ h : k < s.data.toList.length,Dr.isDig rx (s.data.toList[k]'h) = false := .inl (by rw [HLEN.out]; omega);have hg : decide (k < s.size) = false := decide_eq_false hlt;by_cases h0 : k = 0
    · have HE := Lib.hid (HN.out h0 hend);subst h0;clear hA hbw hb1 hbw1 hA1 c2 hkeep HN;go_wp2_with fail;go_region;go_wp2_with fail;go_ret2;exact HE.out
    have hk0 : ((k : Int) == 0) = false := beq_eq_false_iff_ne.2 (by omega);have htw := Dr.takeWhile_all hdig hend;obtain ⟨s1,hs1⟩ : ∃ z,s.extract 0 k = z := ⟨_,rfl⟩;obtain ⟨s2,hs2⟩ : ∃ z,s.extract k s.size = z := ⟨_,rfl⟩;have hs1l : s1.data.toList = s.data.toList.take k := by rw [← hs1]; exact Dr.ext0 s k
    have hs2l : s2.data.toList = s.data.toList.drop k := by rw [← hs2]; exact Dr.extE s k
    have hs1z : s1.size = k := by
     have e : s1.data.toList.length = s1.size := by simp
     rw [hs1l,List.length_take,HLEN.out] at e;omega
    have hne : ¬ s.data.toList.take k = [] := by
     intro e;have hl9 := congrArg List.length e;rw [List.length_take,HLEN.out,List.length_nil] at hl9;omega
    have HF0 := Lib.hid (fun (hnr : Dr.natR rx s1.data.toList = none) (W : World) (hX : Dr.XA b s2 rx 4 W) (hKW : Dr.Kept b w W) => show Dr.PostD b rx w s u R (.returned (.tuple #[.slice none 0 0,.bool true])) W from by
      rw [← HR.out,htw.1,htw.2,if_neg hne,← hs1l,hnr,← hs2l]
      exact ⟨_,s2,rfl,Nt.N.zero W,rfl,hX,hKW⟩)
    have HF1 := Lib.hid (fun (n : Nat) (hnr : Dr.natR rx s1.data.toList = some n) (sl : Value) (W : World) (hNW : Nt.N W sl n) (hX : Dr.XA b s2 rx u W) (hKW : Dr.Kept b w W) => show Dr.PostD b rx w s u R (.returned (.tuple #[sl,.bool true])) W from by
      rw [← HR.out,htw.1,htw.2,if_neg hne,← hs1l,hnr,← hs2l]
      exact ⟨sl,s2,rfl,hNW,rfl,hX,hKW⟩)
    have KR := Lib.hid (fun (w' : World) => Dr.natRead s1 rx hr1 hr2 (by omega) (by omega) (fun j hj => by
      have h1 := hdig j (by rw [HLEN.out]; omega) (by omega);unfold Dr.isDig at h1;have e : s1[j]'hj = s.data.toList[j]'(by rw [HLEN.out]; omega) := by
       rw [Dr.get_list s1 j hj];simp only [hs1l,List.getElem_take]
      rw [e]
      exact of_decide_eq_true h1) w')
    have hA2 := hA1.below (w' := wr.drew.drew) (Below.drew (Below.refl _ _));have hbw2 : Below w.heap.size w wr.drew.drew := hbw1.drew;have hkeep2 : wr.drew.drew.cell? ⟨b,0,none⟩ = some (.string s) ∧ wr.drew.drew.cell? ⟨b,1,none⟩ = some (.int .i64 (rx : Int)) := ⟨hA2.cells.1,hA2.cells.2.1⟩;have HA2 := Lib.hid (And.intro hA2 hbw2);have KR2 := KR.out wr.drew.drew;cases hnr : Dr.natR rx s1.data.toList with
    | none =>
      rw [hnr] at KR2;have KR3 := Lib.hid (show Calls Tryz.prog 156 #[.string s1,.int .i64 (rx : Int)] wr.drew.drew (fun e w' => e = .returned (.tuple #[.slice none 0 0,.int .i64 4]) ∧ Below wr.drew.drew.heap.size wr.drew.drew w') from KR2);have HF2 := Lib.hid (HF0.out hnr);clear hA hbw hb1 hbw1 hA1 c2 hkeep hs1l hs2l hs1z hne htw HN HF0 HF1 KR KR2 hA2 hbw2 hnr h0 hend hdig;go_wp2_with fail;go_region;go_wp2_with fail;go_region_held3 (fun w' => w'.cell? ⟨b,0,none⟩ = some (.string s) ∧ w'.cell? ⟨b,1,none⟩ = some (.int .i64 (rx : Int)))
       (first | exact hkeep2 | exact hkeep3)
       (first
         | (go_at_call 156
            refine KR3.out.mono ?_
            rintro x w3 ⟨rfl,hb3⟩
            have hA3 := HA2.out.1.below hb3
            have hK3 := (Dr.Kept.of_below (b := b) (HA2.out.2.trans (hb3.mono HA2.out.2.size)))
            have hkeep3 : w3.cell? ⟨b,0,none⟩ = some (.string s) ∧ w3.cell? ⟨b,1,none⟩ = some (.int .i64 (rx : Int)) := ⟨hA3.cells.1,hA3.cells.2.1⟩))
      obtain ⟨d0,d1,d2⟩ := hA3.cells;obtain ⟨W1,hW1,hfz1,hX1,hKW1,hz1⟩ := hA3.setU 4;obtain ⟨e0,e1,e2⟩ := hX1.cells;obtain ⟨W2,hW2,hfz2,hX2,hKW2,hz2⟩ := hX1.setS s2;have HE := Lib.hid (HF2.out W2 hX2 ((hK3.trans hKW1).trans hKW2));clear hA3 hK3 hX1 hX2 hKW1 hKW2 hz1 hz2 hkeep3 HF2 HA2 hb3;go_wp2_with fail;go_ret2;exact HE.out
    | some n =>
      rw [hnr] at KR2;have KR3 := Lib.hid (show Calls Tryz.prog 156 #[.string s1,.int .i64 (rx : Int)] wr.drew.drew (fun e w' => ∃ v,e = .returned (.tuple #[v,.int .i64 0]) ∧ Nt.N w' v n ∧ Below wr.drew.drew.heap.size wr.drew.drew w') from KR2);have HF2 := Lib.hid (HF1.out n hnr);clear hA hbw hb1 hbw1 hA1 c2 hkeep hs1l hs2l hs1z hne htw HN HF0 HF1 KR KR2 hA2 hbw2 hnr h0 hend hdig;go_wp2_with fail;go_region;go_wp2_with fail;go_region_held3 (fun w' => w'.cell? ⟨b,0,none⟩ = some (.string s) ∧ w'.cell? ⟨b,1,none⟩ = some (.int .i64 (rx : Int)))
       (first | exact hkeep2 | exact hkeep3)
       (first
         | (go_at_call 156
            refine KR3.out.mono ?_
            rintro x w3 ⟨sl,rfl,hN3,hb3⟩
            have hA3 := HA2.out.1.below hb3
            have hK3 := (Dr.Kept.of_below (b := b) (HA2.out.2.trans (hb3.mono HA2.out.2.size)))
            have hkeep3 : w3.cell? ⟨b,0,none⟩ = some (.string s) ∧ w3.cell? ⟨b,1,none⟩ = some (.int .i64 (rx : Int)) := ⟨hA3.cells.1,hA3.cells.2.1⟩))
      obtain ⟨d0,d1,d2⟩ := hA3.cells;obtain ⟨W2,hW2,hfz2,hX2,hKW2,hz2⟩ := hA3.setS s2;have HE := Lib.hid (HF2.out sl W2 (Dr.N_kept hN3 hKW2 (Dr.N_off hN3 hA3)) hX2 (hK3.trans hKW2));clear hA3 hK3 hX2 hKW2 hz2 hkeep3 HF2 HA2 hb3 hN3;go_wp2_with fail;go_ret2;exact HE.out
theorem Dr.drop_one (x : UInt8) (r : List UInt8) (s : ByteArray) (h : s.data.toList = x :: r) : (s.extract 1 s.size).data.toList = r := by rw [Dr.extE,h]; rfl
theorem Dr.sign_any (b rx : Nat) (s : ByteArray) (u : Int) (w : World) (h : Dr.XA b s rx u w) (hs : s.size ≤ 1048576) :
 Calls Tryz.prog 123 #[.pointer (some ⟨b,0,none⟩)] w fun e w' => ∃ s',e = .returned (.tuple #[.bool (Dr.sign s.data.toList).1,.bool (Dr.sign s.data.toList).2.1]) ∧ s'.data.toList = (Dr.sign s.data.toList).2.2 ∧ Dr.XA b s' rx u w' ∧ Dr.Kept b w w' := by
 have hlen : s.data.toList.length = s.size := by simp
 obtain ⟨l,hl⟩ : ∃ l,s.data.toList = l := ⟨_,rfl⟩
 rw [hl] at hlen ⊢
 have HL := Lib.hid hl
 have hA1 := h
 obtain ⟨c0,c1,c2⟩ := h.cells
 cases l with
 | nil =>
   have hse : s.toList.isEmpty = true := by rw [ByteArray.toList_eq,hl]; rfl
   have hse2 : s.toList = [] := by rw [ByteArray.toList_eq,hl]
   have HE := Lib.hid (show Dr.XA b s rx u w ∧ Dr.Kept b w w from ⟨hA1,Dr.Kept.refl _ _⟩)
   clear hl hlen hA1 h
   go_enter Tryz.func123,Tryz.ntmps123
   go_wp2_with fail
   go_ret2
   exact ⟨s,rfl,HL.out,HE.out⟩
 | cons x r =>
   have hpos : 0 < s.size := by rw [← hlen]; simp
   have hx : s[0]'hpos = x := by
    rw [Dr.get_list s 0 hpos];simp only [hl,List.getElem_cons_zero]
   have hse : s.toList.isEmpty = false := by rw [ByteArray.toList_eq,hl]; rfl
   have hse2 : ¬ s.toList = [] := by rw [ByteArray.toList_eq,hl]; simp
   have hposI : 0 < (s.size : Int) := by omega
   have h1I : 1 ≤ (s.size : Int) := by omega
   obtain ⟨v,hv⟩ : ∃ z,(s[0]'hpos).toNat = z := ⟨_,rfl⟩
   have hxv : x.toNat = v := by rw [← hx]; exact hv
   obtain ⟨s2,hs2⟩ : ∃ z,s.extract 1 s.size = z := ⟨_,rfl⟩
   have hs2l : s2.data.toList = r := by rw [← hs2]; exact Dr.drop_one x r s hl
   obtain ⟨W,hW,hfz,hX,hKW,hz⟩ := hA1.setS s2
   have HY := Lib.hid (show s2.data.toList = r ∧ Dr.XA b s2 rx u W ∧ Dr.Kept b w W from ⟨hs2l,hX,hKW⟩)
   have HE := Lib.hid (show s.data.toList = x :: r ∧ Dr.XA b s rx u w ∧ Dr.Kept b w w from ⟨hl,hA1,Dr.Kept.refl _ _⟩)
   have hsg : (x = 43 ∧ Dr.sign (x :: r) = (false,true,r)) ∨ (x = 45 ∧ Dr.sign (x :: r) = (true,true,r)) ∨ ((x ≠ 43 ∧ x ≠ 45) ∧ Dr.sign (x :: r) = (false,false,x :: r)) := by
    by_cases e1 : x = 43
    · subst e1; exact .inl ⟨rfl,rfl⟩
    · by_cases e2 : x = 45
      · subst e2; exact .inr (.inl ⟨rfl,rfl⟩)
      · refine .inr (.inr ⟨⟨e1,e2⟩,?_⟩);unfold Dr.sign;split
        · rename_i q e; simp only [List.cons.injEq] at e; exact absurd e.1 e1
        · rename_i q e; simp only [List.cons.injEq] at e; exact absurd e.1 e2
        · rfl
   clear hl hlen hA1 h hs2l hX hKW hz hx c1 c2
   rcases hsg with ⟨e,hsg⟩ | ⟨e,hsg⟩ | ⟨⟨e1,e2⟩,hsg⟩
   · rw [hsg];have hv43 : v = 43 := by rw [← hxv,e]; rfl
     subst hv43;clear hsg hxv e;go_enter Tryz.func123,Tryz.ntmps123;go_wp2_with fail;go_ret2;exact ⟨s2,rfl,HY.out⟩
   · rw [hsg];have hv45 : v = 45 := by rw [← hxv,e]; rfl
     subst hv45;clear hsg hxv e;go_enter Tryz.func123,Tryz.ntmps123;go_wp2_with fail;go_ret2;exact ⟨s2,rfl,HY.out⟩
   · rw [hsg];have e3 : ((v : Int) == 43) = false := beq_eq_false_iff_ne.2 (fun e => e1 (UInt8.toNat.inj (by show x.toNat = 43; omega)));have e4 : ((v : Int) == 45) = false := beq_eq_false_iff_ne.2 (fun e => e2 (UInt8.toNat.inj (by show x.toNat = 45; omega)));clear hsg hxv e1 e2 hW hfz;go_enter Tryz.func123,Tryz.ntmps123;go_wp2_with fail;go_ret2;exact ⟨s,rfl,HE.out⟩
theorem Dr.unit_any (b rx : Nat) (s : ByteArray) (u : Int) (w : World) (h : Dr.XA b s rx u w) :
 Calls Tryz.prog 124 #[.pointer (some ⟨b,0,none⟩)] w fun e w' => e = .returned (.bool (Dr.unit s.data.toList)) ∧ w = w' := by
 obtain ⟨c0,c1,c2⟩ := h.cells
 have e1 : (s.toList == [105]) = decide (s.data.toList = [105]) := by
  rw [ByteArray.toList_eq,Bool.eq_iff_iff,beq_iff_eq,decide_eq_true_eq]
 have e2 : (s.toList == [73]) = decide (s.data.toList = [73]) := by
  rw [ByteArray.toList_eq,Bool.eq_iff_iff,beq_iff_eq,decide_eq_true_eq]
 unfold Dr.unit
 cases h1 : decide (s.data.toList = [105]) with
 | true =>
   rw [h1] at e1
   clear h1 h e2
   go_enter Tryz.func124,Tryz.ntmps124
   go_wp2_with fail
   go_ret
   exact ⟨rfl,rfl⟩
 | false =>
   rw [h1] at e1
   cases h2 : decide (s.data.toList = [73]) with
   | true =>
     rw [h2] at e2
     clear h1 h2 h
     go_enter Tryz.func124,Tryz.ntmps124
     go_wp2_with fail
     go_ret
     exact ⟨rfl,rfl⟩
   | false =>
     rw [h2] at e2
     clear h1 h2 h
     go_enter Tryz.func124,Tryz.ntmps124
     go_wp2_with fail
     go_ret
     exact ⟨rfl,rfl⟩
theorem Bl.infoByte : (Tryz.prog.info? 5).map (fun i => (i.zero,i.size,i.bytes)) = some (some (.int .u8 0),1,1) := by kernel_rfl
theorem Bl.sizeBuilder : (Tryz.prog.info? 63).map (·.size) = some 2 := by kernel_rfl
theorem Bl.lies : liesAt Tryz.prog Tryz.prog.depth 63 (2 / Tryz.prog.cellsOf 63) 0 63 1 = true := by kernel_rfl
theorem Bl.copyCheck_used (b : Nat) (w : World) (h0 : w.cell? ⟨b,0,none⟩ = some (.pointer (some ⟨b,0,none⟩))) :
 Calls Tryz.prog 84 #[.pointer (some ⟨b,0,none⟩)] w fun e w' => e = .returned (.tuple #[]) ∧ w' = w := by
 obtain ⟨j,hj,_⟩ := Option.map_eq_some_iff.1 Bl.sizeBuilder
 go_enter Tryz.func84,Tryz.ntmps84
 go_wp2
 rw [Lib.run_neq_ptr_same w _ Tryz.underlying61 hj]
 go_wp2
 go_end0
 exact ⟨rfl,rfl⟩
theorem Bl.copyCheck_fresh (b : Nat) (w : World) (h0 : w.cell? ⟨b,0,none⟩ = some (.pointer none)) (hsh : w.shape? b = some (63,2)) (hfz : w.frozen? ⟨b,0,none⟩ = false) :
 Calls Tryz.prog 84 #[.pointer (some ⟨b,0,none⟩)] w fun e w' => e = .returned (.tuple #[]) ∧ w' = w.setCell ⟨b,0,none⟩ (.pointer (some ⟨b,0,none⟩)) := by
 obtain ⟨j,hj,hjs⟩ := Option.map_eq_some_iff.1 Bl.sizeBuilder
 go_enter Tryz.func84,Tryz.ntmps84
 go_wp2
 rw [Lib.run_to_unsafe w ⟨b,0,none⟩ Tryz.underlying61 Tryz.underlying135 hj (by rw [hjs]; decide) hsh (Nat.zero_lt_succ 1)]
 simp only [Result.andThen]
 rw [Oper.upon_value]
 go_wp2
 rw [run_callFunc_extern Tryz.func114 (by kernel_rfl) (by kernel_rfl) (by kernel_rfl) (e := Extern.AbiNoEscape.same) (by kernel_rfl)]
 rw [Lib.run_noEscape]
 simp only [Result.andThen]
 rw [Oper.upon_value]
 go_wp2
 rw [Lib.run_from_unsafe w ⟨b,0,none⟩ Tryz.underlying135 Tryz.underlying61 hj hsh Bl.lies]
 simp only [Result.andThen]
 rw [Oper.upon_value]
 go_wp2
 go_end0
 exact ⟨rfl,rfl⟩
theorem Bl.copyCheck (B b : Nat) (bs : List Value) (w : World) (h : Lib.IsBuilderF 63 5 B b bs w) :
 Calls Tryz.prog 84 #[.pointer (some ⟨b,0,none⟩)] w fun e w' => e = .returned (.tuple #[]) ∧ (Lib.BuilderAtF 63 5 B b (.pointer (some ⟨b,0,none⟩)) bs w' ∧ Below B w w' ∧ Lib.OthersKept 5 (some b) w w') := by
 rcases h with h | h
 · refine (Bl.copyCheck_fresh b w h.cell0 h.shape h.frozen0).mono ?_;rintro e w' ⟨rfl,rfl⟩;exact ⟨rfl,h.used _,(Below.refl B w).setCell (p := ⟨b,0,none⟩) h.1 _,(Lib.OthersKept.refl _ _ w).setCell ⟨b,0,none⟩ rfl _⟩
 · refine (Bl.copyCheck_used b w h.cell0).mono ?_;rintro e w' ⟨rfl,rfl⟩;exact ⟨rfl,h,Below.refl B _,Lib.OthersKept.refl _ _ _⟩
theorem Bl.writeString (B b : Nat) (bs : List Value) (s : ByteArray) (w : World) (h : Lib.IsBuilderF 63 5 B b bs w) (hlen : bs.length + s.size ≤ 140737488355328) (hBw : B ≤ w.heap.size) :
 Calls Tryz.prog 56 #[.pointer (some ⟨b,0,none⟩),.string s] w fun e w' => e = .returned (.tuple #[.int .i64 s.size,.nilIface]) ∧ (Lib.BuilderAtF 63 5 B b (.pointer (some ⟨b,0,none⟩)) (bs ++ Lib.strCells s) w' ∧ Below B w w' ∧ Lib.OthersKept 5 (some b) w w') := by
 obtain ⟨i0,hi,hz0,hz1,hz2⟩ := info_parts Bl.infoByte
 go_enter Tryz.func56,Tryz.ntmps56
 go_wp2_with (go_at_call 84; refine (Bl.copyCheck B b bs _ h).mono ?_)
 rintro e w1 ⟨rfl,h1,hb1,hk1⟩
 obtain ⟨hB,v,hbk,hown,hne⟩ := h1
 have c0 : w1.cell? ⟨b,0,none⟩ = some (.pointer (some ⟨b,0,none⟩)) := by rw [Lib.cell_of_heap hbk]; rfl
 have c1 : w1.cell? ⟨b,1,none⟩ = some v := by rw [Lib.cell_of_heap hbk]; rfl
 go_wp2_with (at_builtin; refine Lib.wpList_append_own_stringF _ rfl _ _ 27 9 rfl B 5 i0 Tryz.underlying27 Tryz.underlying9 hi hz0 hz1 hz2 _ _ _ rfl hown s rfl ?c3 ?c4 ?c5 ?_)
 case c3 => unfold maxLen; omega
 case c4 => omega
 case c5 => have := hb1.size; omega
 intro v' w2 hown' hgrow _
 have hlt : b < w1.heap.size := by
  rcases Nat.lt_or_ge b w1.heap.size with h' | h'
  · exact h'
  · simp [Array.getElem?_eq_none h'] at hbk
 have hb2 : w2.heap[b]? = some (.cells #[.pointer (some ⟨b,0,none⟩),v] 63 (0,0)) := by
  rw [hgrow.block b hlt (fun e => hne e.symm)];exact hbk
 have d0 : w2.cell? ⟨b,0,none⟩ = some (.pointer (some ⟨b,0,none⟩)) := by rw [Lib.cell_of_heap hb2]; rfl
 have d1 : w2.cell? ⟨b,1,none⟩ = some v := by rw [Lib.cell_of_heap hb2]; rfl
 have f1 : w2.frozen? ⟨b,1,none⟩ = false := Lib.frozen_of_heap hb2 1
 obtain ⟨ao,n',cap,rfl⟩ : ∃ ao n' cap,v' = .slice ao n' cap := by
  rcases hown'.2 with ⟨hv,_⟩ | ⟨g,cap,cur,fz,hv,_⟩
  · exact ⟨_,_,_,hv⟩
  · exact ⟨_,_,_,hv⟩
 go_wp2
 go_ret2
 refine ⟨rfl,?_,?_,(hk1.grown hgrow (Lib.ownsRowF_kind hown)).setCell ⟨b,1,none⟩ rfl _⟩
 · exact Lib.BuilderAtF.put (T := 63) (e := 5) hB hb2 (bs' := bs ++ Lib.strCells s) (by simpa [Lib.strCells_length] using hown') (by decide)
 · exact (hb1.grown hgrow (by have := hb1.size; omega) (fun k hk => (hown.lt k hk).1)).setCell (p := ⟨b,1,none⟩) hB _
theorem Bl.writeRune (B b : Nat) (bs : List Value) (r : Int) (hr0 : -2147483648 ≤ r) (hr1 : r ≤ 2147483647) (w : World) (h : Lib.IsBuilderF 63 5 B b bs w) (hlen : bs.length + 4 ≤ 140737488355328) (hBw : B ≤ w.heap.size) :
 Calls Tryz.prog 67 #[.pointer (some ⟨b,0,none⟩),.int .i32 r] w fun e w' => e = .returned (.tuple #[.int .i64 (Lib.runeCells r).length,.nilIface]) ∧ (Lib.BuilderAtF 63 5 B b (.pointer (some ⟨b,0,none⟩)) (bs ++ Lib.runeCells r) w' ∧ Below B w w' ∧ Lib.OthersKept 5 (some b) w w') := by
 have hk4 := Lib.runeCells_le r
 go_enter Tryz.func67,Tryz.ntmps67
 go_wp2_with (go_at_call 84; refine (Bl.copyCheck B b bs _ h).mono ?_)
 rintro e w1 ⟨rfl,h1,hb1,hk1⟩
 obtain ⟨hB,v,hbk,hown,hne⟩ := h1
 obtain ⟨ao,cap,rfl⟩ : ∃ ao cap,v = .slice ao bs.length cap := by
  rcases hown.2 with ⟨hv,h0⟩ | ⟨g,cap,cur,fz,hv,_⟩
  · exact ⟨none,0,by rw [hv,h0]⟩
  · exact ⟨_,_,hv⟩
 have c0 : w1.cell? ⟨b,0,none⟩ = some (.pointer (some ⟨b,0,none⟩)) := by rw [Lib.cell_of_heap hbk]; rfl
 have c1 : w1.cell? ⟨b,1,none⟩ = some (.slice ao bs.length cap) := by rw [Lib.cell_of_heap hbk]; rfl
 go_wp2_with (go_at_call 94; refine (Tryz.utf8_AppendRune_row B _ bs.length bs r hr0 hr1 _ hown hlen (by have := hb1.size; omega)).mono ?_)
 rintro e w2 ⟨v',rfl,hown',o,hgrow⟩
 have hlt : b < w1.heap.size := by
  rcases Nat.lt_or_ge b w1.heap.size with h' | h'
  · exact h'
  · simp [Array.getElem?_eq_none h'] at hbk
 have hb2 : w2.heap[b]? = some (.cells #[.pointer (some ⟨b,0,none⟩),.slice ao bs.length cap] 63 (0,0)) := by
  rw [hgrow.block b (by simp; omega) (fun e => hne e.symm),Lib.alloc_old w1 _ b hlt];exact hbk
 have d0 : w2.cell? ⟨b,0,none⟩ = some (.pointer (some ⟨b,0,none⟩)) := by rw [Lib.cell_of_heap hb2]; rfl
 have d1 : w2.cell? ⟨b,1,none⟩ = some (.slice ao bs.length cap) := by rw [Lib.cell_of_heap hb2]; rfl
 have f1 : w2.frozen? ⟨b,1,none⟩ = false := Lib.frozen_of_heap hb2 1
 obtain ⟨g,cap',rfl⟩ : ∃ g cap',v' = .slice (some ⟨g,0,none⟩) (bs.length + (Lib.runeCells r).length) cap' := by
  rcases hown'.2 with ⟨_,h0⟩ | ⟨g,cap',cur,fz,hv,_⟩
  · omega
  · exact ⟨g,cap',hv⟩
 go_wp2
 go_ret2
 refine ⟨?_,?_,?_,((hk1.alloc _).grown hgrow (Lib.ownsRowF_kind (hown.alloc _))).setCell ⟨b,1,none⟩ rfl _⟩
 · have e : ((bs.length : Int) + ((Lib.runeCells r).length : Int) - (bs.length : Int)) = ((Lib.runeCells r).length : Int) := by omega
   simp [e]
 · exact Lib.BuilderAtF.put (T := 63) (e := 5) hB hb2 (bs' := bs ++ Lib.runeCells r) (by simpa using hown') (by decide)
 · exact ((hb1.alloc (by have := hb1.size; omega) _).grown hgrow (by have := hb1.size; simp; omega) (fun k hk => (hown.lt k hk).1)).setCell (p := ⟨b,1,none⟩) hB _
theorem Bl.writeByte (B b : Nat) (bs : List Value) (c : Int) (w : World) (h : Lib.IsBuilderF 63 5 B b bs w) (hlen : bs.length + 1 ≤ 140737488355328) (hBw : B ≤ w.heap.size) :
 Calls Tryz.prog 61 #[.pointer (some ⟨b,0,none⟩),.int .u8 c] w fun e w' => e = .returned .nilIface ∧ (Lib.BuilderAtF 63 5 B b (.pointer (some ⟨b,0,none⟩)) (bs ++ [.int .u8 c]) w' ∧ Below B w w') := by
 obtain ⟨i0,hi,hz0,hz1,hz2⟩ := info_parts Bl.infoByte
 go_enter Tryz.func61,Tryz.ntmps61
 go_wp2_with (go_at_call 84; refine (Bl.copyCheck B b bs _ h).mono ?_)
 rintro e w1 ⟨rfl,h1,hb1,hk1⟩
 obtain ⟨hB,v,hbk,hown,hne⟩ := h1
 have c0 : w1.cell? ⟨b,0,none⟩ = some (.pointer (some ⟨b,0,none⟩)) := by rw [Lib.cell_of_heap hbk]; rfl
 have c1 : w1.cell? ⟨b,1,none⟩ = some v := by rw [Lib.cell_of_heap hbk]; rfl
 go_wp2_with (at_builtin; refine wpList_append_ownF _ rfl _ _ 27 rfl B 5 i0 (.int .u8 0) 1 1 Tryz.underlying27 hi hz0 hz1 hz2 rfl (by decide) _ _ _ rfl (hown.alloc _) ⟨w1.heap.size,0,none⟩ 1 1 [.int .u8 c] rfl rfl ?c1 ?c2 ?c3 ?c4 ?c5 ?_)
 case c1 =>
  intro j u hj
  match j,hj with
  | 0,hj => simp at hj; subst hj; simp [Addr.add]
 case c2 => intro u hu; simp at hu; subst hu; rfl
 case c3 => unfold maxLen; omega
 case c4 => omega
 case c5 => have := hb1.size; simp; omega
 intro v' w2 hown' hgrow _
 have hlt : b < w1.heap.size := (Array.getElem?_eq_some_iff.1 hbk).1
 have hb2 : w2.heap[b]? = some (.cells #[.pointer (some ⟨b,0,none⟩),v] 63 (0,0)) := by
  rw [hgrow.block b (by simp; omega) (fun e => hne e.symm),Lib.alloc_old w1 _ b hlt];exact hbk
 have d0 : w2.cell? ⟨b,0,none⟩ = some (.pointer (some ⟨b,0,none⟩)) := by rw [Lib.cell_of_heap hb2]; rfl
 have d1 : w2.cell? ⟨b,1,none⟩ = some v := by rw [Lib.cell_of_heap hb2]; rfl
 have f1 : w2.frozen? ⟨b,1,none⟩ = false := Lib.frozen_of_heap hb2 1
 obtain ⟨g,cap,rfl⟩ : ∃ g cap,v' = .slice (some ⟨g,0,none⟩) (bs.length + 1) cap := by
  rcases hown'.2 with ⟨_,h0⟩ | ⟨g,cap,cur,fz,hv,_⟩
  · omega
  · exact ⟨g,cap,hv⟩
 go_wp2
 go_ret
 refine ⟨rfl,?_,?_⟩
 · exact Lib.BuilderAtF.put (T := 63) (e := 5) hB hb2 (bs' := bs ++ [.int .u8 c]) (by simpa using hown') (by decide)
 · exact ((hb1.alloc (by have := hb1.size; omega) _).grown hgrow (by have := hb1.size; simp; omega) (fun k hk => (hown.lt k hk).1)).setCell (p := ⟨b,1,none⟩) hB _
def Dr.Bu (B k : Nat) (bs : List UInt8) (w : World) : Prop := Lib.IsBuilderF 63 5 B k (Lib.byteCells bs) w ∧ B ≤ w.heap.size
theorem Dr.Bu.fresh (w : World) : Dr.Bu w.heap.size w.heap.size [] (w.alloc (.cells #[.pointer none,.slice none 0 0] 63)) :=
 ⟨.inl ⟨Nat.le_refl _,.slice none 0 0,heap_alloc_new w _,World.ownsRowF_of (World.ownsRow_nil _ _ _ _),by simp [Value.ownBlock]⟩,by simp⟩
theorem Dr.Bu.kept {B k b : Nat} {bs : List UInt8} {w w' : World} (h : Dr.Bu B k bs w) (hk : Dr.Kept b w w') (hb : b < B) : Dr.Bu B k bs w' := by
 obtain ⟨h,hB⟩ := h;have go : ∀ p,Lib.BuilderAtF 63 5 B k p (Lib.byteCells bs) w → Lib.BuilderAtF 63 5 B k p (Lib.byteCells bs) w' := fun p hp => by
  obtain ⟨h1,v,h2,h3,h4⟩ := hp;have hlt : k < w.heap.size := (Array.getElem?_eq_some_iff.1 h2).1;refine ⟨h1,v,(hk.block k hlt (by omega)).trans h2,h3.kept (row := some b) ⟨hk.os,hk.tape,hk.output,hk.size,fun q hq hne => hk.block q hq (fun e => hne (by rw [e]))⟩ ?_,h4⟩;cases hv : v.ownBlock with
  | none => exact .inl rfl
  | some q =>
    refine .inr (fun e => ?_);have := (h3.lt q hv).1;cases e;omega
 exact ⟨h.imp (go _) (go _),Nat.le_trans hB hk.size⟩
theorem Dr.Kept.belowB {b : Nat} {w w1 w2 : World} (h : Dr.Kept b w w1) (hb : Below w.heap.size w1 w2) : Dr.Kept b w w2 :=
 ⟨hb.os.trans h.os,hb.tape.trans h.tape,hb.output.trans h.output,Nat.le_trans h.size hb.size,fun q hq hne => (hb.block q hq).trans (h.block q hq hne)⟩
theorem Dr.At.belowB {b B : Nat} {S : ByteArray} {l : List UInt8} {g : Bool} {w w' : World} (h : Dr.At b S l g w) (hb : Below B w w') (hB : b < B) : Dr.At b S l g w' := ⟨(hb.block b hB).trans h.blk,h.suf,h.le⟩
theorem Dr.Bu.rune {B k : Nat} {bs : List UInt8} {w : World} (h : Dr.Bu B k bs w) (r : Int) (hr : Ru.okR r) (hl : bs.length ≤ 4194304) :
 Calls Tryz.prog 67 #[.pointer (some ⟨k,0,none⟩),.int .i32 r] w fun e w' => ∃ n : Int,e = .returned (.tuple #[.int .i64 n,.nilIface]) ∧ Dr.Bu B k (bs ++ Lib.encodeRune r) w' ∧ Below B w w' := by
 refine (Bl.writeRune B k (Lib.byteCells bs) r (by unfold Ru.okR at hr; omega) (by unfold Ru.okR at hr; omega) w h.1 (by simp [Lib.byteCells]; omega) h.2).mono ?_
 rintro e w' ⟨rfl,h1,h2,_⟩
 refine ⟨_,rfl,⟨.inr ?_,Nat.le_trans h.2 h2.size⟩,h2⟩
 rw [Lib.byteCells_append,Lib.byteCells_encodeRune]
 exact h1
theorem Dr.Bu.byte {B k : Nat} {bs : List UInt8} {w : World} (h : Dr.Bu B k bs w) (c : UInt8) (hl : bs.length ≤ 4194304) :
 Calls Tryz.prog 61 #[.pointer (some ⟨k,0,none⟩),.int .u8 (c.toNat : Int)] w fun e w' => e = .returned .nilIface ∧ Dr.Bu B k (bs ++ [c]) w' ∧ Below B w w' := by
 refine (Bl.writeByte B k (Lib.byteCells bs) (c.toNat : Int) w h.1 (by simp [Lib.byteCells]; omega) h.2).mono ?_
 rintro e w' ⟨rfl,h1,h2⟩
 refine ⟨rfl,⟨.inr ?_,Nat.le_trans h.2 h2.size⟩,h2⟩
 rw [Lib.byteCells_append]
 exact h1
theorem Dr.Bu.str {B k : Nat} {bs : List UInt8} {w : World} (h : Dr.Bu B k bs w) (t : List UInt8) (hl : bs.length + t.length ≤ 4194304) :
 Calls Tryz.prog 56 #[.pointer (some ⟨k,0,none⟩),.string ⟨t.toArray⟩] w fun e w' => ∃ n : Int,e = .returned (.tuple #[.int .i64 n,.nilIface]) ∧ Dr.Bu B k (bs ++ t) w' ∧ Below B w w' := by
 refine (Bl.writeString B k (Lib.byteCells bs) ⟨t.toArray⟩ w h.1 (by simp [Lib.byteCells,ByteArray.size]; omega) h.2).mono ?_
 rintro e w' ⟨rfl,h1,h2,_⟩
 refine ⟨_,rfl,⟨.inr ?_,Nat.le_trans h.2 h2.size⟩,h2⟩
 rw [Lib.byteCells_append]
 have e : Lib.strCells ⟨t.toArray⟩ = Lib.byteCells t := by simp [Lib.strCells,Lib.byteCells]
 rw [← e]
 exact h1
theorem Dr.Bu.string {B k : Nat} {bs : List UInt8} {w : World} (h : Dr.Bu B k bs w) :
 Calls Tryz.prog 31 #[.pointer (some ⟨k,0,none⟩)] w fun e w' => e = .returned (.string ⟨bs.toArray⟩) ∧ Below B w w' :=
 (Tryz.Builder_String_any_f B k bs w h.1 h.2).mono fun e w' ⟨h1,h2,h3⟩ => ⟨h1,h3⟩
end Go.Proofs.YteklhapffplohaaGreatDoor
