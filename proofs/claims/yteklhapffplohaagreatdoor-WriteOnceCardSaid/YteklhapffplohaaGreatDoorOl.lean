/-
  exact.Int; a number and nought. Eleven cells stored at a place of a row that the call has made; a datum with a hole. Data whose nodes are sound; a datum with a hole.
-/
import Derived.Deep.LoopGhost
import Derived.Lib.Walk
import Derived.Sort.WalkB12
import Derived.Lib.SlicesMore
import Derived.Laws.IdiomStrings
import Derived.WalkKit
import Derived.WalkSpells
import Derived.WalkLawsBesides
import Derived.Handy
import Derived.BigCall
import Derived.Lib.Hide
import Derived.Lib.RuneCount
import Derived.Test.YteklhapffplohaaGreatDoorOk
import Derived.Test.YteklhapffplohaaGreatDoorOa
import Derived.Test.YteklhapffplohaaGreatDoorOb
import Derived.Test.YteklhapffplohaaGreatDoorOd
import Derived.Test.YteklhapffplohaaGreatDoorShelfO
import Derived.Test.YteklhapffplohaaGreatDoorOj
set_option maxHeartbeats 4000000
set_option maxRecDepth 1000000
set_option linter.unusedVariables false
set_option linter.unusedSimpArgs false
namespace Go.Proofs.YteklhapffplohaaGreatDoor
open Go.RowKit
structure Rt.Snd (s : Bool) (t b : Nat) : Prop where
 l1 : (Nt.dig t).length ≤ 512
 l2 : (Nt.dig b).length ≤ 512
 pos : 0 < b
 cop : Nat.gcd t b = 1
 sgn : t = 0 → s = false
theorem Rt.Snd.sound {s : Bool} {t b : Nat} (h : Rt.Snd s t b) : Rt.sound s (Nt.dig t) (Nt.dig b) = true := by
 unfold Rt.sound;rw [Nt.sound_dig,Nt.sound_dig,Nt.val_dig,Nt.val_dig];have hb := Nt.dig_len_pos.2 h.pos;have h1 := h.l1;have h2 := h.l2;have h3 := h.cop;have h4 : (!(decide ((Nt.dig t).length = 0) && s)) = true := by
  rcases Nat.eq_zero_or_pos t with h0 | h0
  · rw [h.sgn h0]; simp
  · have := Nt.dig_len_pos.2 h0;have h5 : ¬ (Nt.dig t).length = 0 := by omega
    simp [h5]
 have h5 : ¬ (Nt.dig b).length = 0 := by omega
 rw [h4];simp [h1,h2,h3,h5]
theorem Rt.Snd.of {s : Bool} {t b : List Nat} (h1 : Nt.Wd t) (h2 : Nt.Wd b) (h : Rt.sound s t b = true) : t = Nt.dig (Nt.val t) ∧ b = Nt.dig (Nt.val b) ∧ Rt.Snd s (Nt.val t) (Nt.val b) := by
 unfold Rt.sound at h;simp only [Bool.and_eq_true,decide_eq_true_eq] at h;obtain ⟨⟨⟨⟨a1,a2⟩,a3⟩,a4⟩,a5⟩ := h;obtain ⟨et,lt⟩ := Nt.sound_eq h1 a1;obtain ⟨eb,lb⟩ := Nt.sound_eq h2 a2;refine ⟨et,eb,by rw [← et]; exact lt,by rw [← eb]; exact lb,?_,a5,fun h0 => ?_⟩
 · rcases Nat.eq_zero_or_pos (Nt.val b) with h0 | h0
   · rw [h0,Nt.dig_zero] at eb;rw [eb] at a3;exact absurd rfl a3
   · exact h0
 · rw [h0,Nt.dig_zero] at et;rw [et] at a4;simpa using a4
theorem Rt.GN.of_Q {w : World} {v : Value} {s s2 : Bool} {t b t2 b2 : Nat} (h : Rt.Q w v s t b s2 t2 b2) (h1 : Rt.Snd s t b) (h2 : Rt.Snd s2 t2 b2) : Rt.GN w v s (Nt.dig t) (Nt.dig b) s2 (Nt.dig t2) (Nt.dig b2) := by
 obtain ⟨tv1,bv1,tv2,bv2,e,hn1,hd1,hn2,hd2⟩ := h;exact ⟨⟨tv1,bv1,tv2,bv2,e,hn1,hd1,hn2,hd2⟩,⟨Nt.dig_wd _,Nt.dig_wd _,Nat.le_trans h1.l1 (by decide),Nat.le_trans h1.l2 (by decide)⟩,⟨Nt.dig_wd _,Nt.dig_wd _,Nat.le_trans h2.l1 (by decide),Nat.le_trans h2.l2 (by decide)⟩⟩
theorem Rt.SoundAt.of_Q {w : World} {v : Value} {s s2 : Bool} {t b t2 b2 : Nat} (h : Rt.Q w v s t b s2 t2 b2) (h1 : Rt.Snd s t b) (h2 : Rt.Snd s2 t2 b2) : Rt.SoundAt w v :=
 Rt.SoundAt.of (Rt.GN.of_Q h h1 h2) (by unfold Rt.soundN; rw [h1.sound,h2.sound]; rfl)
end Go.Proofs.YteklhapffplohaaGreatDoor
namespace Go.Proofs.YteklhapffplohaaGreatDoor
open Go.RowKit
end Go.Proofs.YteklhapffplohaaGreatDoor
namespace Go.Proofs.YteklhapffplohaaGreatDoor
open Go.RowKit
mutual
def Tr.good : Tr → Prop
 | .mk h l => h.shape l.length = true ∧ Tr.goodL l
def Tr.goodL : List Tr → Prop
 | [] => True
 | t :: ts => Tr.good t ∧ Tr.goodL ts
end
theorem Tr.good_mk {h : Tr.Hd} {l : List Tr} : Tr.good (.mk h l) ↔ h.shape l.length = true ∧ Tr.goodL l := by rw [Tr.good]
theorem Tr.goodL_cons {t : Tr} {ts : List Tr} : Tr.goodL (t :: ts) ↔ Tr.good t ∧ Tr.goodL ts := by rw [Tr.goodL]
theorem Tr.goodL_nil : Tr.goodL [] := by rw [Tr.goodL]; trivial
theorem Tr.goodL_at : ∀ (l : List Tr),Tr.goodL l → ∀ (k : Nat) (t : Tr),l[k]? = some t → Tr.good t
 | [],_,k,t,h => by simp at h
 | x :: ts,hg,0,t,h => by
   obtain rfl : x = t := by simpa using h
   exact (Tr.goodL_cons.1 hg).1
 | x :: ts,hg,k + 1,t,h => Tr.goodL_at ts (Tr.goodL_cons.1 hg).2 k t (by simpa using h)
mutual
theorem Tr.snd_good : ∀ (t : Tr) (d : Nat) (left : Int),(Tr.snd t d left).1 = true → Tr.good t
 | .mk h l,d,left,hs => by
   by_cases hb : left - 1 < 0 ∨ 200 < d ∨ h.shape l.length = false
   · rw [Tr.snd_bad hb] at hs; cases hs
   · have hsh : h.shape l.length = true := by
      cases e : h.shape l.length with
      | true => rfl
      | false => exact absurd (Or.inr (Or.inr e)) hb
     rw [Tr.good_mk];refine ⟨hsh,?_⟩;by_cases hk : h.k = 8
     · have hl := Tr.Hd.shape_pair hsh hk;match l,hl with
       | [a,b],_ =>
         rw [Tr.snd_pair hb hk] at hs;split at hs
         · rename_i h1;exact Tr.goodL_cons.2 ⟨Tr.snd_good a _ _ h1,Tr.goodL_cons.2 ⟨Tr.snd_good b _ _ hs,Tr.goodL_nil⟩⟩
         · cases hs
     · rw [Tr.snd_list hb hk] at hs;exact Tr.sndL_good l _ _ hs
theorem Tr.sndL_good : ∀ (l : List Tr) (d : Nat) (left : Int),(Tr.sndL l d left).1 = true → Tr.goodL l
 | [],d,left,_ => Tr.goodL_nil
 | t :: ts,d,left,hs => by
   rw [Tr.sndL_cons] at hs;split at hs
   · rename_i h1;exact Tr.goodL_cons.2 ⟨Tr.snd_good t _ _ h1,Tr.sndL_good ts _ _ hs⟩
   · cases hs
end
theorem Tr.sound_good {t : Tr} (h : Tr.sound t = true) : Tr.good t := Tr.snd_good t _ _ h
mutual
theorem Tr.snd_left : ∀ (t : Tr) (d : Nat) (left : Int),(Tr.snd t d left).1 = true → (Tr.snd t d left).2 = left - Tr.size t
 | .mk h l,d,left,hs => by
   by_cases hb : left - 1 < 0 ∨ 200 < d ∨ h.shape l.length = false
   · rw [Tr.snd_bad hb] at hs; cases hs
   · have hsh : h.shape l.length = true := by
      cases e : h.shape l.length with
      | true => rfl
      | false => exact absurd (Or.inr (Or.inr e)) hb
     rw [Tr.size_mk];by_cases hk : h.k = 8
     · have hl := Tr.Hd.shape_pair hsh hk;match l,hl with
       | [a,b],_ =>
         rw [Tr.snd_pair hb hk] at hs ⊢;split at hs
         · rename_i h1;rw [if_pos h1,Tr.snd_left b _ _ hs,Tr.snd_left a _ _ h1,Tr.sizeL_cons,Tr.sizeL_cons,Tr.sizeL_nil];omega
         · cases hs
     · rw [Tr.snd_list hb hk] at hs ⊢;rw [Tr.sndL_left l _ _ hs];omega
theorem Tr.sndL_left : ∀ (l : List Tr) (d : Nat) (left : Int),(Tr.sndL l d left).1 = true → (Tr.sndL l d left).2 = left - Tr.sizeL l
 | [],d,left,_ => by rw [Tr.sndL_nil,Tr.sizeL_nil]; simp
 | t :: ts,d,left,hs => by
   rw [Tr.sndL_cons] at hs ⊢;split at hs
   · rename_i h1;rw [if_pos h1,Tr.sndL_left ts _ _ hs,Tr.snd_left t _ _ h1,Tr.sizeL_cons];omega
   · cases hs
end
theorem Tr.sound_size {t : Tr} (h : Tr.sound t = true) : Tr.size t ≤ 20000 := by
 have h1 := Tr.snd_left t 1 20000 h;have h2 := (Tr.snd_le t 1 20000 (by decide)).2 h;omega
end Go.Proofs.YteklhapffplohaaGreatDoor
namespace Go.Proofs.YteklhapffplohaaGreatDoor
open Go.RowKit
end Go.Proofs.YteklhapffplohaaGreatDoor
namespace Go.Proofs.YteklhapffplohaaGreatDoor
open Go.RowKit
theorem Tx.norm_fr (ws : List Nat) (b off l cap : Nat) (w : World) (h : Nt.In w (.slice (some ⟨b,off,none⟩) l cap) ws) (hw : Nt.Wd ws) (hl : ws.length ≤ 4611686018427387904) : Calls Tryz.prog 145 #[.slice (some ⟨b,off,none⟩) l cap] w fun e w' => ∃ v',e = .returned v' ∧ Nt.N w' v' (Nt.val ws) ∧ Nt.Fr b v' ∧ Below w.heap.size w w' := by
 obtain ⟨ad,cap2,e⟩ := h.slice;simp only [Value.slice.injEq] at e;obtain ⟨rfl,rfl,rfl⟩ := e;refine (Nt.norm_eq ws _ cap w h hw hl).mono fun e w' ⟨he,hb⟩ => ⟨_,he,?_,?_,hb⟩
 · unfold Nt.N;have := (h.below hb (Nat.le_refl _)).takeN _ (Nt.take_dig hw).1;rwa [(Nt.take_dig hw).2] at this
 · intro b2 off2 l2 c2 e2;simp only [Value.slice.injEq,Option.some.injEq,Addr.mk.injEq] at e2;omega
theorem Tx.short_fr (a : List Nat) (d : Nat) (v : Value) (w : World) (h : Nt.In w v a) (ha : Nt.Wd a) (hl : a.length ≤ 500000) (hd0 : 0 < d) (hd : d < 4294967296) : Calls Tryz.prog 133 #[v,.int .u32 d] w fun e w' => ∃ v',e = .returned (.tuple #[v',.int .u32 (Nt.val a % d : Nat)]) ∧ Nt.N w' v' (Nt.val a / d) ∧ Nt.Fr w.heap.size v' ∧ Below w.heap.size w w' := by
 obtain ⟨ad,cap,rfl⟩ := h.slice;have H := Lib.hid h;have HA := Lib.hid ha;have hmk := Nt.make a.length w (by omega);clear h ha;obtain ⟨T,hT⟩ : ∃ T,w.heap.size = T := ⟨_,rfl⟩;obtain ⟨w2,hw2⟩ : ∃ z,w.alloc (.cells (Nt.row (List.replicate a.length 0)) 57) = z := ⟨_,rfl⟩;have q2 : w2.heap[T]? = some (.cells (Nt.row (List.replicate a.length 0)) 57 (0,0)) := by rw [← hw2,← hT]; exact heap_alloc_new w _
 have hb2 : Below w.heap.size w w2 := hw2 ▸ (Below.refl _ _).alloc (Nat.le_refl _) _;rw [hT,hw2] at hmk;have HT := Lib.hid hT;have HB2 := Lib.hid hb2;have HQ2 := Lib.hid q2;clear hT hw2 hb2 q2;go_enter Tryz.func133,Tryz.ntmps133;go_wp2_with fail;go_loopw [7,8] (fun rv i wr => ∃ (k r : Nat) (ws : List Nat),i = .int .i64 ((k : Int) - 1) ∧ rv = .int .u64 r ∧ k ≤ a.length ∧ r < d ∧ ws.length = a.length ∧ Nt.Wd ws ∧ Nt.val (a.drop k) = d * Nt.val (ws.drop k) + r ∧ wr.heap[T]? = some (.cells (Nt.row ws) 57 (0,0)) ∧ Below w.heap.size w wr) (fun _ i _ => (intOf i + 1).toNat);case atStart => exact ⟨a.length,0,List.replicate a.length 0,by first | rfl | go_num | (simp; try omega),rfl,Nat.le_refl _,hd0,by simp,Nt.Wd.zeros _,by rw [List.drop_length,List.drop_eq_nil_of_le (by simp)]; simp [Nt.val],HQ2.out,HB2.out⟩
 case round =>
  obtain ⟨k,r,ws,rfl,rfl,hk,hr,hwl,hwd,hval,hq,hbw⟩ := hrel;obtain ⟨wo,hwo⟩ : ∃ z,z = wr := ⟨_,rfl⟩;subst hwo;have HWD := Lib.hid hwd;have HV := Lib.hid hval;have HQ := Lib.hid hq;have HBW := Lib.hid hbw;have HWL := Lib.hid hwl;clear hwd hval hq hbw hwl;rcases k with _ | k
  · have hval := HV.out;rw [List.drop_zero,List.drop_zero] at hval;have hq : Nt.val ws = Nt.val a / d := by
     rw [hval,Nat.mul_add_div hd0,Nat.div_eq_of_lt hr,Nat.add_zero]
    have hm : r = Nt.val a % d := by
     rw [hval,Nat.mul_add_mod,Nat.mod_eq_of_lt hr]
    have hin : Nt.In wo (.slice (some ⟨T,0,none⟩) a.length a.length) ws := by
     have := Nt.In.of_row HQ.out;rw [HWL.out] at this;exact this
    have KN := Tx.norm_fr ws T 0 _ _ wo hin HWD.out (by have := HWL.out; omega);rw [hq] at KN;have HM := Lib.hid hm;have hrw : (r : Int) % 4294967296 = (r : Int) := by omega
    clear hval hq hm hin;go_wp2_with fail;refine KN.mono ?_;rintro z w8 ⟨v8,rfl,hn8,hf8,hb8⟩;have HN8 := Lib.hid (And.intro hn8 hf8);have HB8 := Lib.hid (HBW.out.trans (hb8.mono HBW.out.size));clear hn8 hf8 hb8;go_wp2_with fail;go_ret2;exact ⟨_,by rw [← HM.out]; rfl,HN8.out.1,HN8.out.2.mono (by rw [HT.out]; exact Nat.le_refl _),HB8.out⟩
  · have hk1 : (((k + 1 : Nat) : Int) - 1) = (k : Int) := by omega
    rw [hk1];have hkk : k < a.length := by omega
    obtain ⟨b1,o1,rfl,_,hcap1,hbl1,hcell1⟩ := (H.out.below HBW.out (Nat.le_refl _)).at (by omega);have c1 := hcell1 k hkk;have hxb := HA.out.getD k;have hstep := Nt.short_step (a := a) (ws := ws) (i := k) (r := r) (d := d) HV.out hd0 hkk (by have := HWL.out; omega);have hqlt := Nt.short_lt (a := a.getD k 0) (r := r) (d := d) hxb hr;have HSTEP := Lib.hid hstep;clear hcell1 hstep;generalize a.getD k 0 = x at *;have hj := Nt.join64 r x (by omega) hxb;obtain ⟨N,hN⟩ : ∃ N,4294967296 * r + x = N := ⟨_,rfl⟩;rw [hN] at HSTEP hqlt hj;have hNl : N < 18446744073709551616 := by omega
    have hsh : ((r : Int) * 4294967296) % 18446744073709551616 = (r : Int) * 4294967296 := by omega
    obtain ⟨q,hq⟩ : ∃ q,N / d = q := ⟨_,rfl⟩;obtain ⟨m,hm⟩ : ∃ m,N % d = m := ⟨_,rfl⟩;rw [hq] at HSTEP hqlt;rw [hm] at HSTEP;have hml : m < d := hm ▸ Nat.mod_lt _ hd0;have hqI : (N : Int) / (d : Int) = (q : Int) := by rw [← hq]; rfl
    have hmI : (N : Int) % (d : Int) = (m : Int) := by rw [← hm]; rfl
    have hqw : (q : Int) % 4294967296 = (q : Int) := by omega
    obtain ⟨W,hW,e1,e2,hQ9,hB9,hS9⟩ := Nt.store HQ.out k q (by have := HWL.out; omega) HBW.out (by have := HT.out; omega);have hdz : ((d : Int) == 0) = false := by simp; omega
    have HQL := Lib.hid hqlt;have HQ9 := Lib.hid hQ9;have HB9 := Lib.hid hB9;have HML := Lib.hid hml;clear hN hq hm hqlt hQ9 hB9 hml hS9;go_wp2_with fail;go_roundw;case rel => exact ⟨k,m,_,by first | rfl | go_num | (simp; try omega),by first | rfl | rw [hmI],by omega,HML.out,by rw [List.length_set]; exact HWL.out,HWD.out.set _ _ HQL.out,HSTEP.out,HQ9.out,HB9.out⟩
    case measure => simp [intOf]
def Tx.dg (d : Nat) : UInt8 := UInt8.ofNat (48 + d)
def Tx.lo (n : Nat) : List UInt8 := if h : n < 10 then [Tx.dg n] else Tx.dg (n % 10) :: Tx.lo (n / 10)
termination_by n
decreasing_by omega
def Tx.dec (n : Nat) : List UInt8 := (Tx.lo n).reverse
theorem Tx.lo_small {n : Nat} (h : n < 10) : Tx.lo n = [Tx.dg n] := by rw [Tx.lo,dif_pos h]
theorem Tx.lo_big {n : Nat} (h : ¬ n < 10) : Tx.lo n = Tx.dg (n % 10) :: Tx.lo (n / 10) := by rw [Tx.lo,dif_neg h]
theorem Tx.lo_pos (n : Nat) : 0 < (Tx.lo n).length := by
 by_cases h : n < 10
 · rw [Tx.lo_small h]; simp
 · rw [Tx.lo_big h]; simp
theorem Tx.lo_len : ∀ (k n : Nat),n < 2 ^ k → (Tx.lo n).length ≤ k + 1
 | 0,n,h => by
   rw [Tx.lo_small (by simp at h; omega)];simp
 | k + 1,n,h => by
   by_cases h10 : n < 10
   · rw [Tx.lo_small h10]; simp
   · rw [Tx.lo_big h10,List.length_cons];have := Tx.lo_len k (n / 10) (by
       rw [Nat.pow_succ] at h
       omega)
     omega
theorem Tx.lo_len_dig {n k : Nat} (h : (Nt.dig n).length ≤ k) : (Tx.lo n).length ≤ 32 * k + 1 := Tx.lo_len (32 * k) n (by
  refine Nat.lt_of_lt_of_le (Nt.dig_lt_pow n) ?_;refine Nat.le_trans (Nat.pow_le_pow_right (by decide) h) ?_;have e : (2 : Nat) ^ 32 = 4294967296 := by decide
  rw [Nat.pow_mul,e]
  exact Nat.le_refl _)
theorem Tx.dg_inj {a b : Nat} (ha : a < 10) (hb : b < 10) (h : Tx.dg a = Tx.dg b) : a = b := by
 have h2 : (Tx.dg a).toNat = (Tx.dg b).toNat := by rw [h]
 unfold Tx.dg at h2;simp only [UInt8.toNat_ofNat'] at h2;omega
theorem Tx.lo_inj : ∀ (a b : Nat),Tx.lo a = Tx.lo b → a = b := by
 intro a;induction a using Nat.strongRecOn with
 | ind a ih =>
   intro b h;by_cases ha : a < 10
   · by_cases hb : b < 10
     · rw [Tx.lo_small ha,Tx.lo_small hb] at h;simp only [List.cons.injEq,and_true] at h;exact Tx.dg_inj ha hb h
     · rw [Tx.lo_small ha,Tx.lo_big hb] at h;simp only [List.cons.injEq] at h;have := Tx.lo_pos (b / 10);rw [← h.2] at this;simp at this
   · by_cases hb : b < 10
     · rw [Tx.lo_big ha,Tx.lo_small hb] at h;simp only [List.cons.injEq] at h;have := Tx.lo_pos (a / 10);rw [h.2] at this;simp at this
     · rw [Tx.lo_big ha,Tx.lo_big hb] at h;simp only [List.cons.injEq] at h;have h1 := Tx.dg_inj (Nat.mod_lt _ (by decide)) (Nat.mod_lt _ (by decide)) h.1;have h2 := ih (a / 10) (by omega) (b / 10) h.2;omega
theorem Tx.dec_inj {a b : Nat} (h : Tx.dec a = Tx.dec b) : a = b := Tx.lo_inj a b (List.reverse_inj.1 h)
end Go.Proofs.YteklhapffplohaaGreatDoor
namespace Go.Proofs.YteklhapffplohaaGreatDoor
open Go.RowKit Go.Lib Go.Sort
def Tx.enc (n : Int) : Value := .int .u8 n
theorem Tx.Reverse_arr (blk off cap : Nat) (d : Array Int) (w : World) (hH : Holds Tx.enc w blk off d) (hsz : d.size ≤ 9223372036854775807) :
 Calls Tryz.prog 134 #[.slice (some ⟨blk,off,none⟩) d.size cap] w fun e w' => e = .returned (.tuple #[]) ∧ ∃ n,w' = putRow Tx.enc (Sort.ahead w n) blk off d.reverse := by
 go_enter Tryz.func134,Tryz.ntmps134
 go_wp2
 go_loopg [2,3] d.size (fun k s2 s3 wr => ∃ (i jn : Nat) (jz : Int) (dk : Array Int) (n : Nat),s2 = .int .i64 i ∧ s3 = .int .i64 jz ∧ ((i : Int) < jz → jz = jn ∧ jn < d.size) ∧ (¬ (i : Int) < jz → ¬ i < jn) ∧ jn - i ≤ k ∧
   dk.size = d.size ∧ wr = putRow Tx.enc (Sort.ahead w n) blk off dk ∧ reverseLoop i jn dk = reverseLoop 0 (d.size - 1) d)
 case atStart => exact ⟨0,d.size - 1,(d.size : Int) - 1,d,0,rfl,by first | rfl | go_num | (simp; try omega),fun h => ⟨by omega,by omega⟩,fun h => by omega,by omega,rfl,(putRow_self Tx.enc w blk off d hH).symm,rfl⟩
 case round =>
  obtain ⟨i,jn,jz,dk,n,rfl,rfl,h1,h2,hk,hds,hwr,heq⟩ := hrel
  by_cases hlt : (i : Int) < jz
  · obtain ⟨rfl,hjn⟩ := h1 hlt;have hij : i < jn := by omega
    have hHk : Holds Tx.enc wr blk off dk := by rw [hwr]; exact holds_putRow Tx.enc _ blk off d dk (holds_ahead Tx.enc w n blk off d hH) hds
    obtain ⟨ci,fi⟩ := hHk i (by omega);obtain ⟨cj,fj⟩ := hHk jn (by omega);have A := Lib.hid (show wr = putRow Tx.enc (Sort.ahead w n) blk off dk from hwr);have q1 : ((i : Int) < (d.size : Int)) := by omega
    have q2 : ((jn : Int) < (d.size : Int)) := by omega
    clear hwr hHk hH h1 h2;unfold Tx.enc at ci cj;go_wp2_with fail;go_region;go_wp2;go_roundg (jn - 1 - (i + 1));case measure => omega
    case rel =>
     rw [reverseLoop,if_pos hij] at heq;exact ⟨i + 1,jn - 1,(jn : Int) - 1,swp dk i jn,n + 1,by first | rfl | go_num | (simp; try omega),by first | rfl | go_num | (simp; try omega),fun h => ⟨by omega,by omega⟩,fun h => by omega,Nat.le_refl _,by rw [size_swp]; exact hds,
       swap_world Tx.enc (by omega) (by omega) A.out (by first | rfl | simp [Tx.enc,getElem!_pos,show jn < dk.size by omega]) (by first | rfl | simp [Tx.enc,getElem!_pos,show i < dk.size by omega]),heq⟩
  · have hnot := h2 hlt;go_wp2;go_end0;refine ⟨rfl,n,?_⟩;rw [reverseLoop,if_neg hnot] at heq;rw [← Lib.reverseLoop_reverse,← heq]
theorem Tx.Reverse_own (l : List UInt8) (v : Value) (w : World) (B : Nat) (h : w.ownsRow B 5 1 v l.length (By.bv l)) (h0 : 0 < l.length) :
 Calls Tryz.prog 134 #[v] w fun e w' => e = .returned (.tuple #[]) ∧ w'.ownsRow B 5 1 v l.length (By.bv l.reverse) ∧ w.grownBy w' v.ownBlock := by
 obtain ⟨hlen,h⟩ := h
 rcases h with ⟨_,e⟩ | ⟨g,cap,cur,rfl,hB,hg,hnc,hcm,hcs,htake⟩
 · omega
 have key : ∀ (j : Nat) (hj : j < l.length),cur[j]? = some (.int .u8 (l[j].toNat : Nat)) := by
  intro j hj;have e1 : (cur.toList.take (l.length * 1))[j]? = (By.bv l)[j]? := by rw [htake]
  rw [List.getElem?_take,if_pos (by omega),Array.getElem?_toList] at e1;rw [e1];simp [By.bv,hj]
 obtain ⟨d,hd⟩ : ∃ d : Array Int,d = (l.map (fun b => (b.toNat : Int))).toArray := ⟨_,rfl⟩
 have hds : d.size = l.length := by rw [hd]; simp
 have hda : ∀ (j : Nat) (hj : j < l.length),d[j]! = (l[j].toNat : Int) := by
  intro j hj;rw [hd,getElem!_pos _ j (by simpa using hj)];simp
 have hH : Holds Tx.enc w g 0 d := by
  intro j hj;rw [hds] at hj;refine ⟨?_,by simp [World.frozen?,hg]⟩;rw [hda j hj];have : w.cell? ⟨g,0 + j,none⟩ = cur[0 + j]? := by simp [World.cell?,hg]
  rw [this,Nat.zero_add,key j hj];rfl
 have K := Tx.Reverse_arr g 0 cap d w hH (by rw [hds]; simp only [maxLen] at hcm; omega)
 rw [hds] at K
 refine K.mono ?_
 rintro e w' ⟨rfl,n,rfl⟩
 have hg' : (putRow Tx.enc (Sort.ahead w n) g 0 d.reverse).heap[g]? = some (.cells (putCells Tx.enc 0 d.reverse cur) 5 (0,0)) := by
  show (w.heap.modify g _)[g]? = _;rw [Array.getElem?_modify,if_pos rfl,hg];rfl
 refine ⟨rfl,⟨by simp [By.bv],.inr ⟨g,cap,_,rfl,hB,hg',hnc,hcm,?_,?_⟩⟩,?_⟩
 · simp [putCells,hcs]
 · apply List.ext_getElem?;intro k;rw [List.getElem?_take];by_cases hk : k < l.length
   · rw [if_pos (by omega),Array.getElem?_toList];have e1 : (putCells Tx.enc 0 d.reverse cur)[k]? = some (Tx.enc d.reverse[k]!) := by
      unfold putCells;rw [Array.getElem?_mapIdx,key k hk];simp [hds,hk]
     rw [e1,getElem!_pos _ k (by simpa [hds] using hk)];have e2 : d.reverse[k]'(by simpa [hds] using hk) = (l.reverse[k]'(by simpa using hk)).toNat := by
      subst hd;simp
     rw [e2];simp [By.bv,hk,Tx.enc]
   · rw [if_neg (by omega)];simp [By.bv];omega
 · refine ⟨rfl,rfl,rfl,by simp,fun k hk hne => ?_⟩;show (w.heap.modify g _)[k]? = _;rw [Array.getElem?_modify,if_neg];intro e;subst e;exact hne rfl
end Go.Proofs.YteklhapffplohaaGreatDoor
namespace Go.Proofs.YteklhapffplohaaGreatDoor
open Go.RowKit
theorem Tx.infoByte : (Tryz.prog.info? 5).map (fun i => (i.zero,i.size,i.bytes)) = some (some (.int .u8 0),1,1) := by kernel_rfl
theorem Tx.check1 (ws : List Nat) (B : Nat) (ad : Option Addr) (cap : Nat) (w : World) (h : w.heap[B]? = some (.cells #[.slice ad ws.length cap] 22 (0,0))) (hI : Nt.In w (.slice ad ws.length cap) ws) (hw : Nt.Wd ws) (hs : Nt.sound ws = true) :
 Calls Tryz.prog 132 #[.slice (some ⟨B,0,none⟩) 1 1] w fun e w' => e = .returned (.int .i64 0) ∧ Below w.heap.size w w' := by
 have hl := (Nt.sound_eq hw hs).2
 have c0 : w.cell? ⟨B,0,none⟩ = some (.slice ad ws.length cap) := Rt.cell_of h 0
 have KS := Nt.Sound_same ws _ w hI hw (by omega)
 rw [hs] at KS
 clear h hI hw hs
 go_enter Tryz.func132,Tryz.ntmps132
 go_wp2_with fail
 go_loopg [7] 1 (fun g i wr => ∃ k : Nat,k + g = 1 ∧ i = .int .i64 k ∧ wr = w)
 case atStart => exact ⟨0,rfl,rfl,rfl⟩
 case round =>
  obtain ⟨k,hk,rfl,rfl⟩ := hrel
  rcases (show k = 0 ∨ k = 1 by omega) with rfl | rfl
  · go_wp2_with fail;refine KS.mono ?_;rintro x w1 ⟨rfl,hw1⟩;subst hw1;go_wp2_with fail;go_roundg 0;case measure => omega
    case rel => exact ⟨1,rfl,by first | rfl | go_num | (simp; try omega),rfl⟩
  · go_wp2_with fail;go_ret;exact ⟨rfl,Below.refl _ _⟩
theorem Tx.own_slice {w : World} {base n size : Nat} {e : TypeId} {v : Value} {xs : List Value} (h : w.ownsRow base e size v n xs) : ∃ ad cap,v = .slice ad n cap := by
 rcases h.2 with ⟨rfl,rfl⟩ | ⟨g,cap,_,rfl,_⟩
 · exact ⟨_,_,rfl⟩
 · exact ⟨_,_,rfl⟩
theorem Tx.in_grown {w w' : World} {v : Value} {ws : List Nat} {row : Option Nat} (h : Nt.In w v ws) (hg : w.grownBy w' row) (hne : ∀ b off l c,v = .slice (some ⟨b,off,none⟩) l c → some b ≠ row) : Nt.In w' v ws := by
 rcases h with h | h | ⟨h0,b,off,cap,hv,hc,hl,hcell⟩
 · exact .inl h
 · exact .inr (.inl h)
 · exact .inr (.inr ⟨h0,b,off,cap,hv,hc,Nat.lt_of_lt_of_le hl hg.size,fun j hj => hg.cell (hcell j hj) (hne b off _ _ hv)⟩)
theorem Tx.Text_any (n : Nat) (v : Value) (w : World) (h : Nt.N w v n) (hl : (Nt.dig n).length ≤ 512) :
 Calls Tryz.prog 115 #[v,.int .i64 10] w fun e w' => e = .returned (.tuple #[.string ⟨(Tx.dec n).toArray⟩,.int .i64 0]) ∧ Below w.heap.size w w' := by
 obtain ⟨ad,cap,rfl⟩ := Nt.In.slice h
 have hb0 : ∀ o,Below w.heap.size w (w.alloc o) := fun o => (Below.refl _ _).alloc (Nat.le_refl _) o
 have KC := Tx.check1 (Nt.dig n) w.heap.size ad cap (w.alloc (.cells #[.slice ad (Nt.dig n).length cap] 22)) (heap_alloc_new w _) (Nt.In.below h (hb0 _) (Nat.le_refl _)) (Nt.dig_wd n) (by rw [Nt.sound_dig]; exact decide_eq_true hl)
 have HB0 := Lib.hid (hb0 (.cells #[.slice ad (Nt.dig n).length cap] 22))
 have HN := Lib.hid h
 have HLO := Lib.hid (Tx.lo_len_dig hl)
 obtain ⟨i0,hi,hz0,hz1,hz2⟩ := info_parts Tx.infoByte
 clear h hb0
 go_enter Tryz.func115,Tryz.ntmps115
 go_wp2_with fail
 refine KC.mono ?_
 rintro x w1 ⟨rfl,hb1⟩
 have HB1 := Lib.hid (HB0.out.trans (hb1.mono HB0.out.size))
 clear hb1 KC
 go_wp2_with fail
 go_loopg [0,7] (Tx.lo n).length (fun g a o wr => ∃ (cur : Nat) (out : List UInt8),Nt.N wr a cur ∧ wr.ownsRow w.heap.size 5 1 o out.length (By.bv out) ∧ Below w.heap.size w wr ∧ cur ≤ n ∧ ((g = 0 ∧ cur = 0 ∧ out = Tx.lo n) ∨ (g = (Tx.lo cur).length ∧ out ++ Tx.lo cur = Tx.lo n ∧ (out = [] ∨ 0 < cur))))
 case atStart => exact ⟨n,[],Nt.In.below HN.out HB1.out (Nat.le_refl _),World.ownsRow_nil _ _ _ _,HB1.out,Nat.le_refl _,.inr ⟨rfl,rfl,.inl rfl⟩⟩
 case round =>
  obtain ⟨cur,out,hN,hown,hbw,hcn,hst⟩ := hrel
  obtain ⟨wo,hwo⟩ : ∃ z,z = wr := ⟨_,rfl⟩
  subst hwo
  obtain ⟨aa,ac,hv⟩ := Nt.In.slice hN
  obtain ⟨L,hL⟩ : ∃ z,z = (Nt.dig cur).length := ⟨_,rfl⟩
  rw [← hL] at hv
  subst hv
  obtain ⟨oa,oc,hv⟩ := Tx.own_slice hown
  obtain ⟨K,hK⟩ : ∃ z,z = out.length := ⟨_,rfl⟩
  rw [← hK] at hv hown
  subst hv
  have HKK := Lib.hid hK
  have HNN := Lib.hid hN
  have HOWN := Lib.hid hown
  have HBW := Lib.hid hbw
  have hlc : (Nt.dig cur).length ≤ 512 := Nat.le_trans (Nt.dig_len_mono hcn) hl
  have hol : out.length ≤ 16385 := by
   have := HLO.out;rcases hst with ⟨_,_,e⟩ | ⟨_,e,_⟩
   · rw [e]; exact this
   · rw [← e,List.length_append] at this; omega
  clear hN hown hbw
  rcases hst with ⟨hg,hc0,hout⟩ | ⟨hg,hout,hor⟩
  · subst hc0;have hd0 : L = 0 := by rw [hL,Nt.dig_zero]; rfl
    subst hd0;clear hL hlc;have hop : 0 < out.length := by rw [hout]; exact Tx.lo_pos n
    have KR := Tx.Reverse_own out _ wo w.heap.size (by rw [← hK]; exact HOWN.out) hop;rw [← hK] at KR hop hol;have HOUT := Lib.hid hout;have hne : ((K : Int) == 0) = false := beq_eq_false_iff_ne.2 (by omega);clear hout hK;go_wp2_with fail;refine KR.mono ?_;rintro x w5 ⟨rfl,hown5,hg5⟩;have HB5 := Lib.hid (Sl.below_own HBW.out HOWN.out hg5 (Nat.le_refl _) HBW.out.size);have hcv : (convert 27 9 (.slice oa K oc)).run Tryz.prog w5 = .ok (.string ⟨(Tx.dec n).toArray⟩) w5 := by
     rcases hown5.2 with ⟨_,e⟩ | ⟨g,c,cu,hv,_⟩
     · omega
     · simp only [Value.slice.injEq] at hv;obtain ⟨rfl,_,rfl⟩ := hv;have h2 := World.ownsRow.cells hown5 (g := g) rfl;have h3 := run_convert_bytes_back (P := Tryz.prog) w5 27 9 5 ⟨g,0,none⟩ oc out.reverse Tryz.underlying27 Tryz.underlying5 Tryz.underlying9 (fun j hj => h2 j _ (by
         unfold By.bv;rw [List.getElem?_map,List.getElem?_eq_getElem hj]
         rfl))
       rw [List.length_reverse,← HKK.out] at h3;rw [h3,HOUT.out];rfl
    clear hown5 hg5 KR;go_wp2_with fail;go_ret2;exact ⟨rfl,HB5.out⟩
  · have KS := Tx.short_fr (Nt.dig cur) 10 _ wo HNN.out (Nt.dig_wd cur) (by omega) (by decide) (by decide);rw [Nt.val_dig] at KS;have hol2 : K < 16386 := by
     rw [hK];have := HLO.out;rw [← hout,List.length_append] at this;have := Tx.lo_pos cur;omega
    have HST := Lib.hid (And.intro hg (And.intro hout hor));have hgo : ((L : Int) > 0) ∨ (L = 0 ∧ K = 0) := by
     rw [hL];rcases Nat.eq_zero_or_pos cur with h0 | h0
     · refine .inr ⟨?_,?_⟩
       · rw [h0,Nt.dig_zero]; rfl
       · rcases hor with h | h
         · rw [hK,h]; rfl
         · omega
     · have := Nt.dig_len_pos.2 h0;exact .inl (by omega)
    obtain ⟨r,hr⟩ : ∃ z,z = cur % 10 := ⟨_,rfl⟩;have hr10 : r < 10 := by rw [hr]; exact Nat.mod_lt _ (by decide)
    rw [← hr] at KS;have HR := Lib.hid hr;clear hg hout hor hr hL hlc hK;have FIN : Hid (∀ (o' : Value) (vq : Value) (w9 : World) (g0 : Nat),Nt.N w9 vq (cur / 10) → w9.ownsRow w.heap.size 5 1 o' (K + 1) (By.bv out ++ [.int .u8 ((48 + r : Nat) : Int)]) → Below w.heap.size w w9 →
        ∃ g',g' < gk ∧ ∃ (cur' : Nat) (out' : List UInt8),Nt.N w9 vq cur' ∧ w9.ownsRow w.heap.size 5 1 o' out'.length (By.bv out') ∧ Below w.heap.size w w9 ∧ cur' ≤ n ∧ ((g' = 0 ∧ cur' = 0 ∧ out' = Tx.lo n) ∨ (g' = (Tx.lo cur').length ∧ out' ++ Tx.lo cur' = Tx.lo n ∧ (out' = [] ∨ 0 < cur')))) := Lib.hid (fun o' vq w9 g0 a1 a2 a3 => by
      obtain ⟨hg,hout,hor⟩ := HST.out
      have hbv : By.bv (out ++ [Tx.dg r]) = By.bv out ++ [.int .u8 ((48 + r : Nat) : Int)] := by
       rw [By.bv_append];congr 1;show [Value.int .u8 ((Tx.dg r).toNat : Int)] = _;have : (Tx.dg r).toNat = 48 + r := by unfold Tx.dg; simp only [UInt8.toNat_ofNat']; omega
       rw [this]
      by_cases hlt : cur < 10
      · refine ⟨0,by rw [hg]; exact Tx.lo_pos _,cur / 10,out ++ [Tx.dg r],a1,?_,a3,by omega,.inl ⟨rfl,by omega,?_⟩⟩
        · rw [hbv,List.length_append,← HKK.out]; exact a2
        · rw [← hout,Tx.lo_small hlt,HR.out,Nat.mod_eq_of_lt hlt]
      · rw [Tx.lo_big hlt] at hout hg;refine ⟨(Tx.lo (cur / 10)).length,by rw [hg,List.length_cons]; omega,cur / 10,out ++ [Tx.dg r],a1,?_,a3,by omega,.inr ⟨rfl,?_,.inr (by omega)⟩⟩
        · rw [hbv,List.length_append,← HKK.out]; exact a2
        · rw [← hout,HR.out,List.append_assoc]; rfl)
    rcases hgo with hgo | ⟨rfl,rfl⟩
    · go_wp2_with fail;refine KS.mono ?_;rintro x w2 ⟨vq,rfl,hq,hf,hb2⟩;obtain ⟨qa,qc,rfl⟩ := Nt.In.slice hq;have HBW2 := Lib.hid (HBW.out.trans (hb2.mono HBW.out.size));have HQ := Lib.hid (And.intro hq hf);have HO2 := Lib.hid (Sl.own_below HOWN.out hb2 (Nat.le_refl _));have HLT := Lib.hid HOWN.out.lt;clear hq hf hb2 KS;rcases (show r = 0 ∨ r = 1 ∨ r = 2 ∨ r = 3 ∨ r = 4 ∨ r = 5 ∨ r = 6 ∨ r = 7 ∨ r = 8 ∨ r = 9 by omega) with rfl | rfl | rfl | rfl | rfl | rfl | rfl | rfl | rfl | rfl;all_goals
       go_wp2_with (at_builtin; refine wpList_append_own _ rfl _ _ 27 rfl w.heap.size 5 i0 (.int .u8 0) 1 1 Tryz.underlying27 hi hz0 hz1 hz2 rfl (by decide) _ _ _ rfl (HO2.out.alloc _) ⟨w2.heap.size,0,none⟩ 1 1 [_] rfl rfl (Sl.one_new _ _ _) ?c2 ?c3 ?c4 ?c5 ?_);case c2 => intro u hu; simp only [List.mem_singleton] at hu; subst hu; rfl
       case c3 => simp only [maxLen]; omega
       case c4 => omega
       case c5 => have := HBW2.out.size; simp; omega
       intro o' w3 hown3 hg3 _;have hB3 := Sl.below_own (HBW2.out.alloc HBW2.out.size _) (HO2.out.alloc _) hg3 (Nat.le_refl _) (by have := HBW2.out.size; simp; omega);have hN3 := Tx.in_grown (Nt.In.below HQ.out.1 ((Below.refl _ _).alloc (Nat.le_refl _) _) (Nat.le_refl _)) hg3 (fun b off l c e => by
         intro e2;have h1 := (HLT.out b e2.symm).2;have h2 := HQ.out.2 b off l c e
         omega)
       obtain ⟨g',hlt',hrel'⟩ := FIN.out o' _ w3 0 hN3 hown3 hB3;obtain ⟨oa',oc',rfl⟩ := Tx.own_slice hown3;have HREL := Lib.hid hrel';clear hrel' hN3 hown3 hg3 hB3;go_wp2_with fail;go_roundg g';case measure => exact hlt'
       case rel => exact HREL.out
    · go_wp2_with fail;refine KS.mono ?_;rintro x w2 ⟨vq,rfl,hq,hf,hb2⟩;obtain ⟨qa,qc,rfl⟩ := Nt.In.slice hq;have HBW2 := Lib.hid (HBW.out.trans (hb2.mono HBW.out.size));have HQ := Lib.hid (And.intro hq hf);have HO2 := Lib.hid (Sl.own_below HOWN.out hb2 (Nat.le_refl _));have HLT := Lib.hid HOWN.out.lt;clear hq hf hb2 KS;rcases (show r = 0 ∨ r = 1 ∨ r = 2 ∨ r = 3 ∨ r = 4 ∨ r = 5 ∨ r = 6 ∨ r = 7 ∨ r = 8 ∨ r = 9 by omega) with rfl | rfl | rfl | rfl | rfl | rfl | rfl | rfl | rfl | rfl;all_goals
       go_wp2_with (at_builtin; refine wpList_append_own _ rfl _ _ 27 rfl w.heap.size 5 i0 (.int .u8 0) 1 1 Tryz.underlying27 hi hz0 hz1 hz2 rfl (by decide) _ _ _ rfl (HO2.out.alloc _) ⟨w2.heap.size,0,none⟩ 1 1 [_] rfl rfl (Sl.one_new _ _ _) ?c2 ?c3 ?c4 ?c5 ?_);case c2 => intro u hu; simp only [List.mem_singleton] at hu; subst hu; rfl
       case c3 => simp only [maxLen]; omega
       case c4 => omega
       case c5 => have := HBW2.out.size; simp; omega
       intro o' w3 hown3 hg3 _;have hB3 := Sl.below_own (HBW2.out.alloc HBW2.out.size _) (HO2.out.alloc _) hg3 (Nat.le_refl _) (by have := HBW2.out.size; simp; omega);have hN3 := Tx.in_grown (Nt.In.below HQ.out.1 ((Below.refl _ _).alloc (Nat.le_refl _) _) (Nat.le_refl _)) hg3 (fun b off l c e => by
         intro e2;have h1 := (HLT.out b e2.symm).2;have h2 := HQ.out.2 b off l c e
         omega)
       obtain ⟨g',hlt',hrel'⟩ := FIN.out o' _ w3 0 hN3 hown3 hB3;obtain ⟨oa',oc',rfl⟩ := Tx.own_slice hown3;have HREL := Lib.hid hrel';clear hrel' hN3 hown3 hg3 hB3;go_wp2_with fail;go_roundg g';case measure => exact hlt'
       case rel => exact HREL.out
def Tx.str (l : List UInt8) : ByteArray := ⟨l.toArray⟩
theorem Tx.str_append (a b : List UInt8) : Tx.str a ++ Tx.str b = Tx.str (a ++ b) := by
 unfold Tx.str;apply ByteArray.ext;simp
def Tx.rat (s : Bool) (t b : Nat) : List UInt8 := (if s = true then [45] else []) ++ (Tx.dec t ++ if b = 1 then [] else 47 :: Tx.dec b)
theorem Tx.ratText_any (s : Bool) (t b : Nat) (v : Value) (w : World) (h : Rt.R w v s t b) (hb : 0 < b) (hl : (Nt.dig t).length ≤ 512 ∧ (Nt.dig b).length ≤ 512) :
 Calls Tryz.prog 86 #[v,.int .i64 10] w fun e w' => e = .returned (.string (Tx.str (Tx.rat s t b))) ∧ Below w.heap.size w w' := by
 obtain ⟨tv,bv,rfl,h1,h2⟩ := h
 obtain ⟨S,hS,hone⟩ := Rt.isOne h2 hb
 obtain ⟨ta,tc,hv⟩ := Nt.In.slice h1
 obtain ⟨L,hL⟩ : ∃ z,z = (Nt.dig t).length := ⟨_,rfl⟩
 rw [← hL] at hv
 subst hv
 obtain ⟨ba,bc,hv2⟩ := Nt.In.slice h2
 obtain ⟨M,hM⟩ : ∃ z,z = (Nt.dig b).length := ⟨_,rfl⟩
 rw [← hM] at hv2
 subst hv2
 have HB0 : Hid (∀ o,Below w.heap.size w (w.alloc o)) := Lib.hid (fun o => (Below.refl _ _).alloc (Nat.le_refl _) o)
 have KT := Lib.hid (fun w' (hb : Below w.heap.size w w') => Tx.Text_any t _ w' (Nt.In.below h1 hb (Nat.le_refl _)) hl.1)
 have KB := Lib.hid (fun w' (hb : Below w.heap.size w w') => Tx.Text_any b _ w' (Nt.In.below h2 hb (Nat.le_refl _)) hl.2)
 have hq : (w.alloc (.cells #[.bool s,.slice ta L tc,.slice ba M bc] 24)).heap[w.heap.size]? = some (.cells #[.bool s,.slice ta L tc,.slice ba M bc] 24 (0,0)) := heap_alloc_new w _
 have HF : Hid (∀ w',Below (w.heap.size + 1) (w.alloc (.cells #[.bool s,.slice ta L tc,.slice ba M bc] 24)) w' → (w'.cell? ⟨w.heap.size,0,none⟩ = some (.bool s) ∧ w'.cell? ⟨w.heap.size,1,none⟩ = some (.slice ta L tc) ∧ w'.cell? ⟨w.heap.size,2,none⟩ = some (.slice ba M bc)) ∧ Below w.heap.size w w') := Lib.hid (fun w' hb => by
   have a0 := (hb.block w.heap.size (Nat.lt_succ_self _)).trans hq
   exact ⟨Rt.cells3 a0,(HB0.out _).trans (hb.mono (Nat.le_succ _))⟩)
 have HONE : Hid (∀ w',Below w.heap.size w w' → (S = false ∧ ((M : Int) == 1) = false) ∨ ∃ bb off,ba = some ⟨bb,off,none⟩ ∧ M = 1 ∧ w'.cell? ⟨bb,off,none⟩ = some (.int .u32 b) ∧ ((b : Int) == 1) = S) := Lib.hid (fun w' hb => by
   rcases hone with ⟨ad,cap,e,e2,e3⟩ | ⟨bb,off,cap,e,e2,e3⟩
   · rw [← hM] at e2;exact .inl ⟨e3,e2⟩
   · simp only [Value.slice.injEq] at e;obtain ⟨rfl,rfl,rfl⟩ := e;rcases h2 with ⟨e,_⟩ | ⟨a,c,e,e4⟩ | ⟨h0,b3,off3,cap3,e,hc,hlt,hcell⟩
     · cases e
     · simp only [Value.slice.injEq] at e;omega
     · simp only [Value.slice.injEq,Option.some.injEq,Addr.mk.injEq] at e;obtain ⟨⟨rfl,rfl,_⟩,_,_⟩ := e
       exact .inr ⟨bb,off,rfl,rfl,(hb.cell (p := ⟨bb,off,none⟩) hlt).trans e2,e3⟩)
 have HS := Lib.hid hS
 have hz : (w.alloc (.cells #[.bool s,.slice ta L tc,.slice ba M bc] 24)).heap.size = w.heap.size + 1 := by simp
 have HZ := Lib.hid hz
 have n1 : (Tx.dec t).length ≤ 16385 := by unfold Tx.dec; rw [List.length_reverse]; exact Tx.lo_len_dig hl.1
 have n2 : (Tx.dec b).length ≤ 16385 := by unfold Tx.dec; rw [List.length_reverse]; exact Tx.lo_len_dig hl.2
 have f1 : (9223372036854775807 < 1 + (Tx.dec t).length) = False := eq_false (by omega)
 have f2 : (9223372036854775807 < 1 + (Tx.dec b).length) = False := eq_false (by omega)
 have f3 : (9223372036854775807 < (Tx.dec t).length + (1 + (Tx.dec b).length)) = False := eq_false (by omega)
 have f4 : (9223372036854775807 < 1 + (Tx.dec t).length + (1 + (Tx.dec b).length)) = False := eq_false (by omega)
 clear h1 h2 hone hL hM hq hS hz hl n1 n2
 go_enter Tryz.func86,Tryz.ntmps86
 go_wp2_with fail
 refine (KT.out _ (HB0.out _)).mono ?_
 rintro x w1 ⟨rfl,hb1⟩
 rw [HZ.out] at hb1
 have HB1 := Lib.hid hb1
 obtain ⟨⟨c0,c1,c2⟩,hbw1⟩ := HF.out _ hb1
 have hcase := HONE.out _ hbw1
 have HBW1 := Lib.hid hbw1
 have HTT : Hid (∀ (R : List UInt8),(if S = true then [] else 47 :: Tx.dec b) = R → (if s = true then [45] else []) ++ (Tx.dec t ++ R) = Tx.rat s t b) := Lib.hid (fun R e => by
   unfold Tx.rat;rw [← e,HS.out];by_cases hb1 : b = 1
   · simp [hb1]
   · simp [hb1])
 clear hb1 hbw1
 rcases hcase with ⟨rfl,hM1⟩ | ⟨bb,off,rfl,rfl,c3,hb1⟩
 · have hM2 : ((M : Int) != 1) = true := by rw [bne,hM1]; rfl
   cases s;all_goals
    go_wp2_with fail;refine (KB.out _ HBW1.out).mono ?_;rintro x w2 ⟨rfl,hb2⟩;have HB2 := Lib.hid (HBW1.out.trans (hb2.mono HBW1.out.size));clear hb2;go_wp2_with fail;go_ret;refine ⟨?_,HB2.out⟩;rw [← HTT.out _ rfl];first | rfl | (simp [Tx.str,Tx.str_append]; done) | (simp [Tx.str]; apply ByteArray.ext; simp)
 · have hb2 : ((b : Int) != 1) = !S := by rw [bne,hb1]
   cases S
   · have hb3 : ((b : Int) != 1) = true := hb2;cases s;all_goals
      go_wp2_with fail;refine (KB.out _ HBW1.out).mono ?_;rintro x w2 ⟨rfl,hb2⟩;have HB2 := Lib.hid (HBW1.out.trans (hb2.mono HBW1.out.size));clear hb2;go_wp2_with fail;go_ret;refine ⟨?_,HB2.out⟩;rw [← HTT.out _ rfl];first | rfl | (simp [Tx.str,Tx.str_append]; done) | (simp [Tx.str]; apply ByteArray.ext; simp)
   · have hb3 : ((b : Int) != 1) = false := hb2;cases s;all_goals
      go_wp2_with fail;go_ret;refine ⟨?_,HBW1.out⟩;rw [← HTT.out _ rfl];first | rfl | (simp [Tx.str,Tx.str_append]; done) | (simp [Tx.str]; apply ByteArray.ext; simp)
def Wt.raws : Bool → List UInt8 → List UInt8
 | _,[] => []
 | f,x :: xs => (if f = true then [] else [32]) ++ (Tx.dec x.toNat ++ Wt.raws false xs)
def Wt.mag (t b : Nat) : List UInt8 := Tx.dec t ++ if b = 1 then [] else 47 :: Tx.dec b
def Wt.cnum (s1 : Bool) (t1 b1 : Nat) (s2 : Bool) (t2 b2 : Nat) : List UInt8 :=
 if t2 = 0 then Tx.rat s1 t1 b1 else (if t1 = 0 then [] else Tx.rat s1 t1 b1) ++ ((if s2 = true then 45 else 43) :: ((if t2 = 1 ∧ b2 = 1 then [] else Wt.mag t2 b2) ++ [105]))
def Wt.num (h : Tr.Hd) : List UInt8 := Wt.cnum h.s1 (Nt.val h.t1) (Nt.val h.b1) h.s2 (Nt.val h.t2) (Nt.val h.b2)
def Wt.atom (m : Bool) (h : Tr.Hd) (R : List UInt8) : List UInt8 :=
 if h.k = 1 then [40,41] else if h.k = 2 then (if h.n = 1 then [35,116] else [35,102]) else if h.k = 3 then Wt.num h else if h.k = 4 then Wt.chr m h.n
 else if h.k = 5 then (if m = true then Wt.str h.x.data.toList else h.x.data.toList) else if h.k = 6 then (if m = true then Wt.sym h.x.data.toList else h.x.data.toList)
 else if h.k = 7 then [35,118,117,56,40] ++ (Wt.raws true h.raw.data.toList ++ [41]) else if h.k = 9 then [35,40] ++ (R ++ [41])
 else if h.k = 10 then [35,60,118,111,105,100,62] else [35,60] ++ (h.x.data.toList ++ [62])
def Wt.isQ : Tr → Bool
 | .mk h _ => decide (h.k = 6) && decide (h.x.data.toList = [113,117,111,116,101])
def Wt.isOne : Tr → Bool
 | .mk h [_,.mk h2 _] => decide (h.k = 8) && decide (h2.k = 1)
 | _ => false
mutual
def Wt.tell (m : Bool) : Tr → List UInt8
 | .mk h l =>
   if h.k = 8 then
    match l with
    | [a,r] => if (Wt.isQ a && Wt.isOne r) = true then 39 :: Wt.quoted m r else 40 :: (Wt.tell m a ++ (Wt.tail m r ++ [41]))
    | _ => []
   else Wt.atom m h (Wt.row m true l)
def Wt.tail (m : Bool) : Tr → List UInt8
 | .mk h l =>
   if h.k = 8 then
    match l with
    | [a,r] => 32 :: (Wt.tell m a ++ Wt.tail m r)
    | _ => []
   else if h.k = 1 then [] else [32,46,32] ++ Wt.atom m h (Wt.row m true l)
def Wt.quoted (m : Bool) : Tr → List UInt8
 | .mk _ l =>
   match l with
   | [b,_] => Wt.tell m b
   | _ => []
def Wt.row (m : Bool) : Bool → List Tr → List UInt8
 | _,[] => []
 | f,t :: ts => (if f = true then [] else [32]) ++ (Wt.tell m t ++ Wt.row m false ts)
end
theorem Wt.tell_pair {m : Bool} {h : Tr.Hd} {a r : Tr} (hk : h.k = 8) (hq : (Wt.isQ a && Wt.isOne r) = false) : Wt.tell m (.mk h [a,r]) = 40 :: (Wt.tell m a ++ (Wt.tail m r ++ [41])) := by
 rw [Wt.tell]; simp only [hk,if_true,hq]; simp
theorem Wt.tell_quo {m : Bool} {h hr : Tr.Hd} {a b c : Tr} (hk : h.k = 8) (hq : (Wt.isQ a && Wt.isOne (.mk hr [b,c])) = true) : Wt.tell m (.mk h [a,.mk hr [b,c]]) = 39 :: Wt.tell m b := by
 rw [Wt.tell]; simp only [hk,if_true,hq]; rw [Wt.quoted]
theorem Wt.tell_atom {m : Bool} {h : Tr.Hd} {l : List Tr} (hk : h.k ≠ 8) : Wt.tell m (.mk h l) = Wt.atom m h (Wt.row m true l) := by
 rw [Wt.tell.eq_def]; simp only [hk,if_false]
theorem Wt.tail_pair {m : Bool} {h : Tr.Hd} {a r : Tr} (hk : h.k = 8) : Wt.tail m (.mk h [a,r]) = 32 :: (Wt.tell m a ++ Wt.tail m r) := by
 rw [Wt.tail]; simp only [hk,if_true]
theorem Wt.tail_nil {m : Bool} {h : Tr.Hd} {l : List Tr} (hk : h.k = 1) : Wt.tail m (.mk h l) = [] := by
 rw [Wt.tail.eq_def]; simp [hk]
theorem Wt.tail_atom {m : Bool} {h : Tr.Hd} {l : List Tr} (hk : h.k ≠ 8) (hk1 : h.k ≠ 1) : Wt.tail m (.mk h l) = [32,46,32] ++ Wt.tell m (.mk h l) := by
 rw [Wt.tail.eq_def,Wt.tell_atom hk]; simp only [hk,hk1,if_false]
theorem Wt.row_nil {m f : Bool} : Wt.row m f [] = [] := by rw [Wt.row]
theorem Wt.row_cons {m f : Bool} {t : Tr} {ts : List Tr} : Wt.row m f (t :: ts) = (if f = true then [] else [32]) ++ (Wt.tell m t ++ Wt.row m false ts) := by rw [Wt.row]
mutual
def Wt.fit : Tr → Prop
 | .mk h l => (h.x.size ≤ 1048576 ∧ h.raw.size ≤ 1048576) ∧ Wt.fitL l
def Wt.fitL : List Tr → Prop
 | [] => True
 | t :: ts => Wt.fit t ∧ Wt.fitL ts
end
theorem Wt.fit_mk {h : Tr.Hd} {l : List Tr} : Wt.fit (.mk h l) ↔ (h.x.size ≤ 1048576 ∧ h.raw.size ≤ 1048576) ∧ Wt.fitL l := by rw [Wt.fit]
theorem Wt.fitL_cons {t : Tr} {ts : List Tr} : Wt.fitL (t :: ts) ↔ Wt.fit t ∧ Wt.fitL ts := by rw [Wt.fitL]
theorem Wt.fitL_nil : Wt.fitL [] := by rw [Wt.fitL]; trivial
theorem Wt.fitL_at : ∀ {l : List Tr},Wt.fitL l → ∀ {k : Nat} {t : Tr},l[k]? = some t → Wt.fit t
 | a :: r,h,0,t,e => by
   simp only [List.getElem?_cons_zero,Option.some.injEq] at e;subst e;exact (Wt.fitL_cons.1 h).1
 | a :: r,h,k + 1,t,e => by
   simp only [List.getElem?_cons_succ] at e;exact Wt.fitL_at (Wt.fitL_cons.1 h).2 e
theorem Wt.dec_byte (x : UInt8) : (Tx.dec x.toNat).length ≤ 9 := by
 unfold Tx.dec;rw [List.length_reverse];exact Tx.lo_len 8 x.toNat x.toNat_lt
theorem Wt.raws_len : ∀ (f : Bool) (l : List UInt8),(Wt.raws f l).length ≤ 10 * l.length
 | _,[] => by simp [Wt.raws]
 | f,x :: xs => by
   rw [Wt.raws,List.length_append,List.length_append,List.length_cons];have := Wt.raws_len false xs;have := Wt.dec_byte x;have : (if f = true then ([] : List UInt8) else [32]).length ≤ 1 := by split <;> simp
   omega
def Wt.few (n : Nat) : Prop := (Tx.dec n).length ≤ 16385
theorem Wt.mag_len {t b : Nat} (h1 : Wt.few t) (h2 : Wt.few b) : (Wt.mag t b).length ≤ 32771 := by
 unfold Wt.few at h1 h2;unfold Wt.mag;split
 · simp only [List.length_append,List.length_nil]; omega
 · simp only [List.length_append,List.length_cons]; omega
theorem Wt.rat_mag (s : Bool) (t b : Nat) : Tx.rat s t b = (if s = true then [45] else []) ++ Wt.mag t b := rfl
theorem Wt.rat_len {s : Bool} {t b : Nat} (h1 : Wt.few t) (h2 : Wt.few b) : (Tx.rat s t b).length ≤ 32772 := by
 rw [Wt.rat_mag,List.length_append];have := Wt.mag_len h1 h2;have : (if s = true then ([45] : List UInt8) else []).length ≤ 1 := by split <;> simp
 omega
theorem Wt.cnum_len {s1 : Bool} {t1 b1 : Nat} {s2 : Bool} {t2 b2 : Nat} (h1 : Wt.few t1) (h2 : Wt.few b1) (h3 : Wt.few t2) (h4 : Wt.few b2) : (Wt.cnum s1 t1 b1 s2 t2 b2).length ≤ 100000 := by
 have a1 := Wt.rat_len (s := s1) h1 h2;have a2 := Wt.mag_len h3 h4;unfold Wt.cnum;split
 · omega
 · have : (if t1 = 0 then ([] : List UInt8) else Tx.rat s1 t1 b1).length ≤ 32772 := by split <;> (first | omega | (simp only [List.length_nil]; omega))
   have : (if t2 = 1 ∧ b2 = 1 then ([] : List UInt8) else Wt.mag t2 b2).length ≤ 32771 := by split <;> (first | omega | (simp only [List.length_nil]; omega))
   simp only [List.length_append,List.length_cons,List.length_nil];omega
theorem Wt.few_dig {n : Nat} (h : (Nt.dig n).length ≤ 512) : Wt.few n := by
 unfold Wt.few Tx.dec;rw [List.length_reverse];exact Tx.lo_len_dig (k := 512) h
theorem Wt.few_words {ws : List Nat} (h : Nt.sound ws = true) : Wt.few (Nt.val ws) := by
 unfold Nt.sound at h;simp only [Bool.and_eq_true,decide_eq_true_eq] at h;unfold Wt.few Tx.dec;rw [List.length_reverse];exact Tx.lo_len_dig (k := 512) (by omega)
theorem Wt.ratSound {s : Bool} {t b : List Nat} (h : Rt.sound s t b = true) : Nt.sound t = true ∧ Nt.sound b = true := by
 unfold Rt.sound at h;simp only [Bool.and_eq_true] at h;exact ⟨h.1.1.1.1,h.1.1.1.2⟩
theorem Wt.num_len {h : Tr.Hd} {l : Nat} (hs : h.shape l = true) (hk : h.k = 3) : (Wt.num h).length ≤ 100000 := by
 unfold Tr.Hd.shape Tr.Hd.num at hs;simp only [hk,if_true,Bool.and_eq_true] at hs;have h1 := Wt.ratSound hs.1.1.1.1.1;have h2 := Wt.ratSound hs.1.1.1.1.2;exact Wt.cnum_len (Wt.few_words h1.1) (Wt.few_words h1.2) (Wt.few_words h2.1) (Wt.few_words h2.2)
theorem Wt.isChar_ok {n : Int} (h : Tr.isChar n = true) : Ru.okR n := by
 unfold Tr.isChar at h;unfold Ru.okR;simp only [Bool.or_eq_true,Bool.and_eq_true,decide_eq_true_eq] at h;omega
theorem Wt.shape_own {h : Tr.Hd} {l : Nat} (hs : h.shape l = true) : Tr.own h.k h.n l = true := by
 unfold Tr.Hd.shape at hs;simp only [Bool.and_eq_true] at hs;exact hs.2
theorem Wt.shape_char {h : Tr.Hd} {l : Nat} (hs : h.shape l = true) (hk : h.k = 4) : Ru.okR h.n := by
 have := Wt.shape_own hs;simp [Tr.own,hk] at this;exact Wt.isChar_ok this.1
theorem Wt.atom_len (m : Bool) {h : Tr.Hd} {l : Nat} (R : List UInt8) (hs : h.shape l = true) (hx : h.x.size ≤ 1048576) (hr : h.raw.size ≤ 1048576) : (Wt.atom m h R).length ≤ R.length + 16777000 := by
 have e1 : h.x.data.toList.length = h.x.size := by simp
 have e2 : h.raw.data.toList.length = h.raw.size := by simp
 unfold Wt.atom;split
 · simp only [List.length_cons,List.length_nil]; omega
 split
 · split <;> (simp only [List.length_cons,List.length_nil]; omega)
 split
 · rename_i hk;have := Wt.num_len hs hk;omega
 split
 · rename_i hk;have := Wt.chr_len m (Wt.shape_char hs hk);omega
 split
 · have := Wt.str_len h.x.data.toList;split <;> omega
 split
 · have := Wt.sym_len h.x.data.toList;split <;> omega
 split
 · have := Wt.raws_len true h.raw.data.toList;simp only [List.length_append,List.length_cons,List.length_nil];omega
 split
 · simp only [List.length_append,List.length_cons,List.length_nil]; omega
 split
 · simp only [List.length_cons,List.length_nil]; omega
 · simp only [List.length_append,List.length_cons,List.length_nil]; omega
def Wt.Small (m : Bool) (t : Tr) : Prop := Tr.good t → Wt.fit t → (Wt.tell m t).length + 8 ≤ 16777216 * Tr.size t ∧ (Wt.tail m t).length ≤ 16777216 * Tr.size t
theorem Wt.row_small (m : Bool) : ∀ (f : Bool) (l : List Tr),(∀ (k : Nat) (t : Tr),l[k]? = some t → Wt.Small m t) → Tr.goodL l → Wt.fitL l → (Wt.row m f l).length ≤ 16777216 * Tr.sizeL l
 | f,[],_,_,_ => by rw [Wt.row_nil]; simp
 | f,t :: ts,IH,hg,hf => by
   rw [Wt.row_cons,List.length_append,List.length_append,Tr.sizeL_cons];have h1 := (IH 0 t rfl (Tr.goodL_cons.1 hg).1 (Wt.fitL_cons.1 hf).1).1;have h2 := Wt.row_small m false ts (fun k u e => IH (k + 1) u (by simpa using e)) (Tr.goodL_cons.1 hg).2 (Wt.fitL_cons.1 hf).2;have : (if f = true then ([] : List UInt8) else [32]).length ≤ 1 := by split <;> simp
   omega
theorem Wt.isOne_form {r : Tr} (h : Wt.isOne r = true) : ∃ hr b hc lc,r = .mk hr [b,.mk hc lc] ∧ hr.k = 8 ∧ hc.k = 1 := by
 unfold Wt.isOne at h;split at h
 · rename_i h1 b h2 l2;simp only [Bool.and_eq_true,decide_eq_true_eq] at h;exact ⟨_,_,_,_,rfl,h.1,h.2⟩
 · cases h
theorem Wt.small_step (m : Bool) (t : Tr) (IH : ∀ u,Tr.size u < Tr.size t → Wt.Small m u) : Wt.Small m t := by
 intro hg hf;obtain ⟨h,l⟩ := t;obtain ⟨hs,hgl⟩ := Tr.good_mk.1 hg;obtain ⟨⟨hx,hr⟩,hfl⟩ := Wt.fit_mk.1 hf;have hsz : Tr.size (.mk h l) = 1 + Tr.sizeL l := Tr.size_mk h l;by_cases hk : h.k = 8
 · have hl := Tr.Hd.shape_pair hs hk;match l,hl with
   | [a,r],_ =>
     have s1 := IH a (Tr.size_lt (t := .mk h [a,r]) (k := 0) rfl);have s2 := IH r (Tr.size_lt (t := .mk h [a,r]) (k := 1) rfl);have g1 := Tr.goodL_cons.1 hgl;have g2 := Tr.goodL_cons.1 g1.2;have f1 := Wt.fitL_cons.1 hfl;have f2 := Wt.fitL_cons.1 f1.2;have a1 := s1 g1.1 f1.1;have a2 := s2 g2.1 f2.1;have hz : Tr.size (.mk h [a,r]) = 1 + (Tr.size a + Tr.size r) := by rw [hsz,Tr.sizeL_cons,Tr.sizeL_cons,Tr.sizeL_nil]; omega
     refine ⟨?_,?_⟩
     · cases hq : Wt.isQ a && Wt.isOne r
       · rw [Wt.tell_pair hk hq];simp only [List.length_append,List.length_cons,List.length_nil];omega
       · have hq2 := hq;simp only [Bool.and_eq_true] at hq2;obtain ⟨hr,b,hc,lc,rfl,_,_⟩ := Wt.isOne_form hq2.2;rw [Wt.tell_quo hk hq];have hb := Tr.size_lt (t := .mk hr [b,.mk hc lc]) (u := b) (k := 0) rfl;have s3 := IH b (by omega);have := (s3 (Tr.goodL_cons.1 (Tr.good_mk.1 g2.1).2).1 (Wt.fitL_cons.1 (Wt.fit_mk.1 f2.1).2).1).1;simp only [List.length_cons];omega
     · rw [Wt.tail_pair hk];simp only [List.length_append,List.length_cons];omega
 · have h1 := Wt.row_small m true l (fun k u e => IH u (Tr.size_lt (t := .mk h l) e)) hgl hfl;have h2 := Wt.atom_len m (Wt.row m true l) hs hx hr;rw [hsz];refine ⟨?_,?_⟩
   · rw [Wt.tell_atom hk]; omega
   · by_cases hk1 : h.k = 1
     · rw [Wt.tail_nil hk1]; simp
     · rw [Wt.tail_atom hk hk1,Wt.tell_atom hk,List.length_append];simp only [List.length_cons,List.length_nil];omega
theorem Wt.small (m : Bool) (t : Tr) : Wt.Small m t := Wt.small_step m t (fun u _ => Wt.small m u)
termination_by Tr.size t
decreasing_by assumption
theorem Ro.dg_tab : ∀ d : Fin 10,(Tx.dg d.val).toNat = 48 + d.val := by decide
theorem Ro.dg (d : Nat) (h : d < 10) : (Tx.dg d).toNat = 48 + d := Ro.dg_tab ⟨d,h⟩
theorem Ro.val_dg (d : Nat) (h : d < 10) : Dr.val (Tx.dg d) = d := by
 unfold Dr.val;rw [Ro.dg d h,if_pos (by omega)];omega
def Ro.isD (b : UInt8) : Prop := 48 ≤ b.toNat ∧ b.toNat ≤ 57
theorem Ro.lo_dig : ∀ (k n : Nat),n ≤ k → ∀ b ∈ Tx.lo n,Ro.isD b
 | k,n,h => by
   by_cases h10 : n < 10
   · rw [Tx.lo_small h10];intro b hb;rw [List.mem_singleton.1 hb];unfold Ro.isD;rw [Ro.dg n h10];omega
   · rw [Tx.lo_big h10];intro b hb;rcases List.mem_cons.1 hb with rfl | hb
     · unfold Ro.isD;rw [Ro.dg _ (Nat.mod_lt _ (by decide))];omega
     · cases k with
       | zero => omega
       | succ k => exact Ro.lo_dig k (n / 10) (by omega) b hb
theorem Ro.dec_dig (n : Nat) : ∀ b ∈ Tx.dec n,Ro.isD b := fun b hb => Ro.lo_dig n n (Nat.le_refl _) b (List.mem_reverse.1 hb)
theorem Ro.dec_ne (n : Nat) : Tx.dec n ≠ [] := by
 intro h;have h3 := Tx.lo_pos n;have h4 : (Tx.dec n).length = (Tx.lo n).length := by unfold Tx.dec; exact List.length_reverse
 rw [h] at h4;simp only [List.length_nil] at h4;omega
theorem Ro.natV_lo : ∀ (k n : Nat),n ≤ k → (Tx.lo n).foldr (fun b a => a * 10 + Dr.val b) 0 = n
 | k,n,h => by
   by_cases h10 : n < 10
   · rw [Tx.lo_small h10];show 0 * 10 + Dr.val (Tx.dg n) = n;rw [Ro.val_dg n h10]; omega
   · rw [Tx.lo_big h10];cases k with
     | zero => omega
     | succ k =>
       rw [List.foldr_cons,Ro.natV_lo k (n / 10) (by omega),Ro.val_dg _ (Nat.mod_lt _ (by decide))];omega
theorem Ro.natV (n : Nat) : Dr.natV 10 (Tx.dec n) = n := by
 unfold Dr.natV Tx.dec;rw [List.foldl_reverse];exact Ro.natV_lo n n (Nat.le_refl _)
theorem Ro.isDig {b : UInt8} (h : Ro.isD b) : Dr.isDig 10 b = true := by
 unfold Ro.isD at h;unfold Dr.isDig Dr.val;rw [if_pos h];exact decide_eq_true (by omega)
theorem Ro.span {p : UInt8 → Bool} : ∀ (a r : List UInt8),(∀ b ∈ a,p b = true) → (r = [] ∨ ∃ c t,r = c :: t ∧ p c = false) → (a ++ r).takeWhile p = a ∧ (a ++ r).dropWhile p = r
 | [],r,_,hr => by
   rcases hr with rfl | ⟨c,t,rfl,hc⟩
   · exact ⟨rfl,rfl⟩
   · simp [hc]
 | x :: a,r,ha,hr => by
   have hx := ha x (by simp);obtain ⟨h1,h2⟩ := Ro.span a r (fun b hb => ha b (by simp [hb])) hr;rw [List.cons_append,List.takeWhile_cons,List.dropWhile_cons,if_pos hx,if_pos hx,h1,h2];exact ⟨rfl,rfl⟩
def Ro.ok (n : Nat) : Prop := (Tx.dec n).length ≤ 16384 ∧ (Nt.dig n).length ≤ 512
theorem Ro.digs {n : Nat} (h : Ro.ok n) (r : List UInt8) (w : Int) (hr : r = [] ∨ ∃ c t,r = c :: t ∧ Dr.isDig 10 c = false) : Dr.digs 10 (Tx.dec n ++ r) w = some (n,r,w) := by
 obtain ⟨h1,h2⟩ := Ro.span (Tx.dec n) r (fun b hb => Ro.isDig (Ro.dec_dig n b hb)) hr;unfold Dr.digs;rw [h1,h2,if_neg (Ro.dec_ne n)];have : Dr.natR 10 (Tx.dec n) = some n := by
  unfold Dr.natR;rw [if_neg (by have := h.1; omega),Ro.natV,if_neg (by have := h.2; omega)]
 rw [this]
theorem Ro.frac {t b : Nat} (ht : Ro.ok t) (hb : Ro.ok b) (hb0 : 0 < b) (hg : Nat.gcd t b = 1) (neg : Bool) (r : List UInt8) (w : Int) (hr : r = [] ∨ ∃ c u,r = c :: u ∧ Dr.isDig 10 c = false ∧ c ≠ 47) :
 Dr.frac 10 neg (Wt.mag t b ++ r) w = some ((neg && decide (0 < t),t,b),r,w) := by
 have hr1 : r = [] ∨ ∃ c u,r = c :: u ∧ Dr.isDig 10 c = false := by
  rcases hr with h | ⟨c,u,h,h1,_⟩
  · exact .inl h
  · exact .inr ⟨c,u,h,h1⟩
 unfold Wt.mag Dr.frac
 by_cases h1 : b = 1
 · subst h1;rw [if_pos rfl,List.append_nil,Ro.digs ht r w hr1];rcases hr with rfl | ⟨c,u,rfl,_,hc⟩
   · rfl
   · simp only;split
     · rename_i heq;simp only [List.cons.injEq] at heq;exact absurd heq.1 hc
     · rfl
 · rw [if_neg h1,List.append_assoc,List.cons_append,Ro.digs ht _ w (.inr ⟨47,_,rfl,by decide⟩)];simp only;rw [Ro.digs hb r w hr1];simp only;rw [if_neg (by omega)];unfold Dr.ratS;rw [hg,Nat.div_one,Nat.div_one]
theorem Ro.mag_head (t b : Nat) : ∃ c u,Wt.mag t b = c :: u ∧ Ro.isD c := by
 unfold Wt.mag;cases hd : Tx.dec t with
 | nil => exact absurd hd (Ro.dec_ne t)
 | cons c u => exact ⟨c,_,rfl,Ro.dec_dig t c (by rw [hd]; simp)⟩
theorem Ro.sign_mag (t b : Nat) (r : List UInt8) : Dr.sign (Wt.mag t b ++ r) = (false,false,Wt.mag t b ++ r) := by
 obtain ⟨c,u,e,h⟩ := Ro.mag_head t b;rw [e,List.cons_append];unfold Ro.isD at h;unfold Dr.sign;split
 · rename_i heq;simp only [List.cons.injEq] at heq;rw [heq.1] at h;exact absurd h (by decide)
 · rename_i heq;simp only [List.cons.injEq] at heq;rw [heq.1] at h;exact absurd h (by decide)
 · rfl
theorem Ro.unit_mag (t b : Nat) (r : List UInt8) : Dr.unit (Wt.mag t b ++ r) = false := by
 obtain ⟨c,u,e,h⟩ := Ro.mag_head t b;rw [e];unfold Ro.isD at h;unfold Dr.unit;rw [decide_eq_false,decide_eq_false]
 · rfl
 · intro he;simp only [List.cons_append,List.cons.injEq] at he;rw [he.1] at h;exact absurd h (by decide)
 · intro he;simp only [List.cons_append,List.cons.injEq] at he;rw [he.1] at h;exact absurd h (by decide)
def Ro.sg (s : Bool) : UInt8 := if s = true then 45 else 43
theorem Ro.sign_sg (s : Bool) (r : List UInt8) : Dr.sign (Ro.sg s :: r) = (s,true,r) := by cases s <;> rfl
theorem Ro.sg_dig (s : Bool) : Dr.isDig 10 (Ro.sg s) = false ∧ Ro.sg s ≠ 47 := by cases s <;> decide
structure Ro.Snd (s : Bool) (t b : Nat) : Prop where
 okt : Ro.ok t
 okb : Ro.ok b
 pos : 0 < b
 cop : Nat.gcd t b = 1
 sgn : t = 0 → s = false
theorem Ro.Snd.eq {s : Bool} {t b : Nat} (h : Ro.Snd s t b) : ((s && decide (0 < t),t,b) : Dr.Fr) = (s,t,b) := by
 have := h.sgn;cases s with
 | false => rfl
 | true =>
   have h0 : 0 < t := by
    rcases Nat.eq_zero_or_pos t with h | h
    · exact absurd (this h) (by decide)
    · exact h
   simp [h0]
theorem Ro.Snd.zero {s : Bool} {b : Nat} (h : Ro.Snd s 0 b) : s = false ∧ b = 1 := ⟨h.sgn rfl,by have := h.cop; simpa using this⟩
theorem Ro.imag {s : Bool} {t b : Nat} (h : Ro.Snd s t b) (w : Int) : (if Dr.unit ((if t = 1 ∧ b = 1 then [] else Wt.mag t b) ++ [105]) = true then some (Dr.whole s 1,w) else match Dr.frac 10 s ((if t = 1 ∧ b = 1 then [] else Wt.mag t b) ++ [105]) w with
    | none => none
    | some (im,s4,w4) => if Dr.unit s4 = true then some (im,w4) else none) = some ((s,t,b),w) := by
  by_cases h1 : t = 1 ∧ b = 1
  · rw [if_pos h1,List.nil_append,if_pos (by decide)];obtain ⟨rfl,rfl⟩ := h1;unfold Dr.whole;cases s <;> rfl
  · rw [if_neg h1,Ro.unit_mag,if_neg (by decide),Ro.frac h.okt h.okb h.pos h.cop s [105] w (.inr ⟨105,[],rfl,by decide,by decide⟩)];simp only;rw [if_pos (by decide),h.eq]
theorem Ro.number {s1 : Bool} {t1 b1 : Nat} {s2 : Bool} {t2 b2 : Nat} (h1 : Ro.Snd s1 t1 b1) (h2 : Ro.Snd s2 t2 b2) : Dr.number 10 (Wt.cnum s1 t1 b1 s2 t2 b2) = some ((s1,t1,b1),(s2,t2,b2),0) := by
 unfold Wt.cnum;have himg := Ro.imag h2 0;by_cases h0 : t2 = 0
 · rw [if_pos h0];subst h0;obtain ⟨rfl,rfl⟩ := h2.zero;rw [Wt.rat_mag];have hf := Ro.frac h1.okt h1.okb h1.pos h1.cop s1 [] 0 (.inl rfl);rw [List.append_nil] at hf;unfold Dr.number;cases s1 with
   | true =>
     rw [if_pos rfl,show [45] ++ Wt.mag t1 b1 = Ro.sg true :: Wt.mag t1 b1 from rfl,Ro.sign_sg];have hu := Ro.unit_mag t1 b1 [];rw [List.append_nil] at hu;simp only [hu,Bool.true_and,Bool.and_false,Bool.false_eq_true,if_false,hf];have he := h1.eq;simp only [Bool.true_and] at he;rw [if_pos trivial,he];rfl
   | false =>
     rw [show (if false = true then ([45] : List UInt8) else []) = [] from rfl,List.nil_append];have hs := Ro.sign_mag t1 b1 [];rw [List.append_nil] at hs;rw [hs];simp only [Bool.false_and,Bool.false_eq_true,if_false,hf];rw [if_pos trivial];rfl
 · rw [if_neg h0];have hsg : (if s2 = true then (45 : UInt8) else 43) = Ro.sg s2 := rfl;rw [hsg];generalize hM : (if t2 = 1 ∧ b2 = 1 then ([] : List UInt8) else Wt.mag t2 b2) ++ [105] = M at *;by_cases ht : t1 = 0
   · subst ht;obtain ⟨rfl,rfl⟩ := h1.zero;rw [if_pos rfl,List.nil_append];unfold Dr.number;rw [Ro.sign_sg];simp only [Bool.true_and];by_cases hu : Dr.unit M = true
     · rw [if_pos hu] at himg ⊢;simp only [Option.some.injEq,Prod.mk.injEq] at himg;rw [himg.1];rfl
     · rw [if_neg hu] at himg ⊢;split at himg
       · cases himg
       · rename_i im s4 w4 hf;try rw [hf]
         split at himg
         · rename_i hu4;cases himg;simp only;rw [if_neg (by intro e; rw [e] at hu4; exact absurd hu4 (by decide)),if_pos hu4];rfl
         · cases himg
   · rw [if_neg ht,Wt.rat_mag];have hf := Ro.frac h1.okt h1.okb h1.pos h1.cop s1 (Ro.sg s2 :: M) 0 (.inr ⟨_,_,rfl,(Ro.sg_dig s2).1,(Ro.sg_dig s2).2⟩);have hun : Dr.unit (Ro.sg s2 :: M) = false := by cases s2 <;> (unfold Dr.unit; simp [Ro.sg])
     have hrest : (match (if Dr.unit M = true then some ((s1,t1,b1),Dr.whole s2 1,(0 : Int)) else match Dr.frac 10 s2 M 0 with
         | none => none
         | some (im,s4,w4) => if Dr.unit s4 = true then some ((s1,t1,b1),im,w4) else none) with | x => x) = some (((s1,t1,b1) : Dr.Fr),((s2,t2,b2) : Dr.Fr),(0 : Int)) := by
       simp only
       by_cases hu : Dr.unit M = true
       · rw [if_pos hu] at himg ⊢;simp only [Option.some.injEq,Prod.mk.injEq] at himg;rw [himg.1]
       · rw [if_neg hu] at himg ⊢;split at himg
         · cases himg
         · rename_i im s4 w4 hf2;try rw [hf2]
           split at himg
           · rename_i hu4;cases himg;try simp only
             rw [if_pos hu4]
           · cases himg
     simp only at hrest;unfold Dr.number;cases s1 with
     | true =>
       rw [if_pos rfl,show [45] ++ Wt.mag t1 b1 ++ Ro.sg s2 :: M = Ro.sg true :: (Wt.mag t1 b1 ++ Ro.sg s2 :: M) from rfl,Ro.sign_sg];simp only [Ro.unit_mag,Bool.true_and,Bool.and_false,Bool.false_eq_true,if_false,hf,hun];rw [if_neg (by simp),Ro.sign_sg];simp only [Bool.true_eq_false,if_false];have he := h1.eq;simp only [Bool.true_and] at he;rw [he];exact hrest
     | false =>
       rw [show (if false = true then ([45] : List UInt8) else []) = [] from rfl,List.nil_append,Ro.sign_mag];simp only [Bool.false_and,Bool.false_eq_true,if_false,hf];rw [if_neg (by simp),Ro.sign_sg];simp only [Bool.true_eq_false,if_false];exact hrest
def Ro.nb (b : UInt8) : Prop := Ro.isD b ∨ b = 43 ∨ b = 45 ∨ b = 47 ∨ b = 105
theorem Ro.mag_nb (t b : Nat) : ∀ x ∈ Wt.mag t b,Ro.nb x := by
 intro x hx;unfold Wt.mag at hx;rcases List.mem_append.1 hx with h | h
 · exact .inl (Ro.dec_dig t x h)
 · split at h
   · cases h
   · rcases List.mem_cons.1 h with rfl | h
     · exact .inr (.inr (.inr (.inl rfl)))
     · exact .inl (Ro.dec_dig b x h)
theorem Ro.rat_nb (s : Bool) (t b : Nat) : ∀ x ∈ Tx.rat s t b,Ro.nb x := by
 intro x hx;rw [Wt.rat_mag] at hx;rcases List.mem_append.1 hx with h | h
 · split at h
   · rw [List.mem_singleton.1 h]; exact .inr (.inr (.inl rfl))
   · cases h
 · exact Ro.mag_nb t b x h
theorem Ro.cnum_nb (s1 : Bool) (t1 b1 : Nat) (s2 : Bool) (t2 b2 : Nat) : ∀ x ∈ Wt.cnum s1 t1 b1 s2 t2 b2,Ro.nb x := by
 intro x hx;unfold Wt.cnum at hx;split at hx
 · exact Ro.rat_nb _ _ _ x hx
 · rcases List.mem_append.1 hx with h | h
   · split at h
     · cases h
     · exact Ro.rat_nb _ _ _ x h
   · rcases List.mem_cons.1 h with rfl | h
     · split
       · exact .inr (.inr (.inl rfl))
       · exact .inr (.inl rfl)
     · rcases List.mem_append.1 h with h | h
       · split at h
         · cases h
         · exact Ro.mag_nb _ _ x h
       · rw [List.mem_singleton.1 h]; exact .inr (.inr (.inr (.inr rfl)))
theorem Ro.cnum_no (s1 : Bool) (t1 b1 : Nat) (s2 : Bool) (t2 b2 : Nat) : Wt.cnum s1 t1 b1 s2 t2 b2 ≠ [] ∧ Wt.cnum s1 t1 b1 s2 t2 b2 ≠ [43] ∧ Wt.cnum s1 t1 b1 s2 t2 b2 ≠ [45] := by
 have hr : ∀ s t b,Tx.rat s t b ≠ [] ∧ Tx.rat s t b ≠ [43] ∧ Tx.rat s t b ≠ [45] := by
  intro s t b;rw [Wt.rat_mag];obtain ⟨c,u,e,h⟩ := Ro.mag_head t b;unfold Ro.isD at h;rw [e];cases s with
  | true =>
    refine ⟨by simp,by simp,by simp⟩
  | false =>
    refine ⟨by simp,fun he => ?_,fun he => ?_⟩
    · simp only [Bool.false_eq_true,if_false,List.nil_append,List.cons.injEq] at he;rw [he.1] at h; exact absurd h (by decide)
    · simp only [Bool.false_eq_true,if_false,List.nil_append,List.cons.injEq] at he;rw [he.1] at h; exact absurd h (by decide)
 unfold Wt.cnum;split
 · exact hr _ _ _
 · have hl : ∀ (P : List UInt8) (c : UInt8) (M : List UInt8),2 ≤ (P ++ (c :: (M ++ [105]))).length := by intro P c M; simp; omega
   have := hl (if t1 = 0 then [] else Tx.rat s1 t1 b1) (if s2 = true then 45 else 43) (if t2 = 1 ∧ b2 = 1 then [] else Wt.mag t2 b2);refine ⟨fun e => ?_,fun e => ?_,fun e => ?_⟩ <;> (rw [e] at this; simp at this)
theorem Ro.pre {x : List UInt8} (h : ∀ c ∈ x,Ro.nb c) : Dr.pre 10 false false x = some (10,x) := by
 unfold Dr.pre;split
 · have := h 35 (by simp);unfold Ro.nb Ro.isD at this;exact absurd this (by decide)
 · have := h 35 (by simp);unfold Ro.nb Ro.isD at this;exact absurd this (by decide)
 · rfl
theorem Ro.num {s1 : Bool} {t1 b1 : Nat} {s2 : Bool} {t2 b2 : Nat} (h1 : Ro.Snd s1 t1 b1) (h2 : Ro.Snd s2 t2 b2) (hl : (Wt.cnum s1 t1 b1 s2 t2 b2).length ≤ 16384) : Dr.num (Wt.cnum s1 t1 b1 s2 t2 b2) = .ok (s1,t1,b1) (s2,t2,b2) := by
 unfold Dr.num;rw [Ro.pre (Ro.cnum_nb s1 t1 b1 s2 t2 b2)];simp only;rw [Ro.number h1 h2];simp only;rw [if_neg (by omega),if_neg (by simp)]
theorem Ro.atom {s1 : Bool} {t1 b1 : Nat} {s2 : Bool} {t2 b2 : Nat} (h1 : Ro.Snd s1 t1 b1) (h2 : Ro.Snd s2 t2 b2) (hl : (Wt.cnum s1 t1 b1 s2 t2 b2).length ≤ 16384) : Dr.atom (Wt.cnum s1 t1 b1 s2 t2 b2) = some (Dr.numT (s1,t1,b1) (s2,t2,b2),false) := by
 have hb := Ro.cnum_nb s1 t1 b1 s2 t2 b2;obtain ⟨n0,n1,n2⟩ := Ro.cnum_no s1 t1 b1 s2 t2 b2;have h35 : ∀ u,Wt.cnum s1 t1 b1 s2 t2 b2 ≠ 35 :: u := by
  intro u e;have := hb 35 (by rw [e]; simp);unfold Ro.nb Ro.isD at this;exact absurd this (by decide)
 have h46 : ∀ u,Wt.cnum s1 t1 b1 s2 t2 b2 ≠ 46 :: u := by
  intro u e;have := hb 46 (by rw [e]; simp);unfold Ro.nb Ro.isD at this;exact absurd this (by decide)
 unfold Dr.atom;rw [if_neg (fun h => h.elim (h35 _) (h35 _)),if_neg (fun h => h.elim (h35 _) (h35 _)),if_neg (fun h => h.elim n1 (fun h => h.elim n2 (h46 _))),Ro.num h1 h2 hl]
inductive Dr.Ans where
 | err (e : Int)
 | ok (t : Tr) (n : Nat)
inductive Dr.One (s : List UInt8) : Dr.Ans → Prop where
 | fault1 (h : Dr.Rel (.blanks s) .fault) : Dr.One s (.err 5)
 | none (h : Dr.Rel (.blanks s) (.skip [])) : Dr.One s (.err 11)
 | fault2 {r} (h : Dr.Rel (.blanks s) (.skip r)) (hr : r ≠ []) (h2 : Dr.Rel (.datum r) .fault) : Dr.One s (.err 5)
 | big {r t r2 b} (h : Dr.Rel (.blanks s) (.skip r)) (hr : r ≠ []) (h2 : Dr.Rel (.datum r) (.got t r2 b)) (hb : (b || !Tr.sound t) = true) : Dr.One s (.err 4)
 | ok {r t r2 b} (h : Dr.Rel (.blanks s) (.skip r)) (hr : r ≠ []) (h2 : Dr.Rel (.datum r) (.got t r2 b)) (hb : (b || !Tr.sound t) = false) : Dr.One s (.ok t (s.length - r2.length))
theorem Dr.skips {l : List UInt8} {R : Dr.Res} (h : Dr.Rel (.blanks l) R) : R = .fault ∨ ∃ r,R = .skip r ∧ r.length ≤ l.length := by
 have := h.less;cases R with
 | fault => exact .inl rfl
 | skip r => exact .inr ⟨r,rfl,this⟩
 | got => exact absurd this id
 | list => exact absurd this id
 | lst => exact absurd this id
theorem Dr.gots {l : List UInt8} {R : Dr.Res} (h : Dr.Rel (.datum l) R) : R = .fault ∨ ∃ t r b,R = .got t r b ∧ r.length < l.length := by
 have := h.less;cases R with
 | fault => exact .inl rfl
 | got t r b => exact .inr ⟨t,r,b,rfl,this⟩
 | skip => exact absurd this id
 | list => exact absurd this id
 | lst => exact absurd this id
theorem Dr.One.total (s : List UInt8) : ∃ A,Dr.One s A := by
 obtain ⟨R,hR⟩ := Dr.total (.blanks s);rcases Dr.skips hR with rfl | ⟨r,rfl,_⟩
 · exact ⟨_,.fault1 hR⟩
 · by_cases hr : r = []
   · subst hr;exact ⟨_,.none hR⟩
   · obtain ⟨R2,hR2⟩ := Dr.total (.datum r);rcases Dr.gots hR2 with rfl | ⟨t,r2,b,rfl,_⟩
     · exact ⟨_,.fault2 hR hr hR2⟩
     · cases hb : (b || !Tr.sound t)
       · exact ⟨_,.ok hR hr hR2 hb⟩
       · exact ⟨_,.big hR hr hR2 hb⟩
theorem Dr.One.ok_le {s : List UInt8} {t : Tr} {n : Nat} (h : Dr.One s (.ok t n)) : 1 ≤ n ∧ n ≤ s.length ∧ Tr.sound t = true := by
 cases h with
 | @ok r t r2 b h1 hr h2 hb =>
   rcases Dr.skips h1 with e | ⟨r',e,h3⟩
   · cases e
   · cases e;rcases Dr.gots h2 with e | ⟨t',r2',b',e,h4⟩
     · cases e
     · cases e;simp only [Bool.or_eq_false_iff,Bool.not_eq_false'] at hb;exact ⟨by omega,by omega,hb.2⟩
theorem Dr.cp_enc (r : Int) (h : Ru.okR r) (t : List UInt8) : Dr.cp (Lib.encodeRune r ++ t) = r ∧ Dr.wd (Lib.encodeRune r ++ t) = (Lib.encodeRune r).length := by
 unfold Dr.cp Dr.wd;rw [Ru.decode_encode r h t];refine ⟨?_,rfl⟩;show ((r.toNat : Nat) : Int) = r;unfold Ru.okR at h;omega
theorem Dr.asc (b : UInt8) (t : List UInt8) (h : b.toNat < 128) : Dr.cp (b :: t) = b.toNat ∧ Dr.wd (b :: t) = 1 := by
 have e : Lib.encodeRune (b.toNat : Int) = [b] := by
  unfold Lib.encodeRune;rw [Lib.encodeRuneZ_one (by omega) (by omega)];simp
 have := Dr.cp_enc (b.toNat : Int) (by unfold Ru.okR; omega) t;rw [e] at this;exact this
theorem Dr.asc_bad (b : UInt8) (t : List UInt8) (h : b.toNat < 128) : Dr.bad (b :: t) = false := by
 unfold Dr.bad;rw [(Dr.asc b t h).1];rw [decide_eq_false (by omega),Bool.false_and]
theorem Ro.encs_runes : ∀ (k : Nat) (l : List UInt8),l.length ≤ k → Lib.validD l = true → Ru.encs (Ru.runes l) = l
 | k,l,hk,h => by
   by_cases hl : l = []
   · subst hl; rfl
   · have hs := Lib.validD_step l hl;rw [hs] at h;have hv : ¬ ((Lib.decodeL l).1 = 65533 ∧ (Lib.decodeL l).2 = 1) := by
      intro he;rw [if_pos he] at h;cases h
     rw [if_neg hv] at h;have hw := Ru.width_pos l hl;have hle := Ru.width_le l hl;cases k with
     | zero => exact absurd (List.length_eq_zero_iff.1 (by omega)) hl
     | succ k =>
       rw [Ru.runes_step l hl,Ru.encs_cons,Lib.encode_decode l hl hv,Ro.encs_runes k (l.drop (Lib.decodeL l).2) (by rw [List.length_drop]; omega) h,List.take_append_drop]
theorem Ro.enc3 : (Lib.encodeRune 65533).length = 3 := by decide +kernel
theorem Ro.next_enc (c : Int) (h : Ru.okR c) (t : List UInt8) : Dr.next (Lib.encodeRune c ++ t) = some (c,t) := by
 obtain ⟨e1,e2⟩ := Dr.cp_enc c h t;unfold Dr.next;rw [if_neg (by have := Ru.encode_ne c; simp [this]),if_neg,e1,e2,List.drop_left];unfold Dr.bad;rw [e1,e2];by_cases hc : c = 65533
 · rw [hc,Ro.enc3]; decide
 · rw [decide_eq_false hc]; simp
theorem Ro.next_asc (b : UInt8) (h : b.toNat < 128) (t : List UInt8) : Dr.next (b :: t) = some ((b.toNat : Int),t) := by
 unfold Dr.next;rw [if_neg (by simp),if_neg (by rw [Dr.asc_bad b t h]; simp),(Dr.asc b t h).1,(Dr.asc b t h).2];rfl
theorem Ro.hx_tab : ∀ d : Fin 16,Dr.hexB (Wt.hx d.val) = true ∧ Dr.hexV (Wt.hx d.val) = d.val ∧ (Wt.hx d.val).toNat < 128 ∧ ((Wt.hx d.val).toNat : Int) ≠ 59 ∧ Dr.delim ((Wt.hx d.val).toNat : Int) = false ∧ ((Wt.hx d.val).toNat : Int) ≠ 92 := by decide
theorem Ro.hx (d : Nat) (h : d < 16) : Dr.hexB (Wt.hx d) = true ∧ Dr.hexV (Wt.hx d) = d ∧ (Wt.hx d).toNat < 128 ∧ ((Wt.hx d).toNat : Int) ≠ 59 ∧ Dr.delim ((Wt.hx d).toNat : Int) = false ∧ ((Wt.hx d).toNat : Int) ≠ 92 := Ro.hx_tab ⟨d,h⟩
def Ro.isX (b : UInt8) : Prop := ∃ d,d < 16 ∧ b = Wt.hx d
theorem Ro.hex_isX : ∀ (k n : Nat),n ≤ k → ∀ b ∈ Wt.hex n,Ro.isX b
 | k,n,h => by
   by_cases h16 : n < 16
   · rw [Wt.hex_small h16];intro b hb;rw [List.mem_singleton.1 hb];exact ⟨n,h16,rfl⟩
   · rw [Wt.hex_big h16];intro b hb;rcases List.mem_append.1 hb with hb | hb
     · cases k with
       | zero => omega
       | succ k => exact Ro.hex_isX k (n / 16) (by omega) b hb
     · rw [List.mem_singleton.1 hb];exact ⟨n % 16,Nat.mod_lt _ (by decide),rfl⟩
theorem Ro.hex_val : ∀ (k n : Nat),n ≤ k → (Wt.hex n).foldl (fun a b => 16 * a + Dr.hexV b) 0 = n
 | k,n,h => by
   by_cases h16 : n < 16
   · rw [Wt.hex_small h16];show 16 * 0 + Dr.hexV (Wt.hx n) = n;rw [(Ro.hx n h16).2.1]; omega
   · rw [Wt.hex_big h16,List.foldl_append];cases k with
     | zero => omega
     | succ k =>
       rw [Ro.hex_val k (n / 16) (by omega)];show 16 * (n / 16) + Dr.hexV (Wt.hx (n % 16)) = n;rw [(Ro.hx _ (Nat.mod_lt _ (by decide))).2.1];omega
theorem Ro.hex_pos (n : Nat) : 1 ≤ (Wt.hex n).length := by
 by_cases h16 : n < 16
 · rw [Wt.hex_small h16]; simp
 · rw [Wt.hex_big h16]; simp
theorem Ro.okR_char {c : Int} (h : Ru.okR c) : Tr.isChar c = true := by
 unfold Ru.okR at h;unfold Tr.isChar;rcases h with h | h
 · simp; left; omega
 · simp; right; omega
theorem Ro.hex (c : Int) (h : Ru.okR c) : Dr.hex (Wt.hex c.toNat) = some c := by
 have h0 : 0 ≤ c ∧ c ≤ 1114111 := by unfold Ru.okR at h; omega
 have hv := Ro.hex_val c.toNat c.toNat (Nat.le_refl _);have hl := Wt.hex_len (n := c.toNat) (by omega);have hp := Ro.hex_pos c.toNat;have ha : (Wt.hex c.toNat).all Dr.hexB = true := List.all_eq_true.2 fun b hb => by
  obtain ⟨d,hd,rfl⟩ := Ro.hex_isX c.toNat c.toNat (Nat.le_refl _) b hb;exact (Ro.hx d hd).1
 unfold Dr.hex;have he : ((c.toNat : Nat) : Int) = c := by omega
 rw [hv,he,if_pos];rw [ha,Ro.okR_char h,decide_eq_true hp,decide_eq_true (by omega)];rfl
theorem Ro.escEnd : ∀ (ds : List UInt8) (t : List UInt8),(∀ b ∈ ds,Ro.isX b) → Dr.escEnd (ds ++ 59 :: t) = some (ds,t)
 | [],t,_ => by
   rw [List.nil_append,Dr.escEnd,dif_neg (by simp),if_neg (by rw [Dr.asc_bad 59 t (by decide)]; simp),(Dr.asc 59 t (by decide)).1,if_pos (by decide),(Dr.asc 59 t (by decide)).2];rfl
 | b :: ds,t,h => by
   obtain ⟨d,hd,hb⟩ := h b (by simp);obtain ⟨_,_,h3,h4,_⟩ := Ro.hx d hd;rw [← hb] at h3 h4;rw [List.cons_append,Dr.escEnd,dif_neg (by simp),if_neg (by rw [Dr.asc_bad b _ h3]; simp),(Dr.asc b _ h3).1,if_neg h4,(Dr.asc b _ h3).2];show Option.map _ (Dr.escEnd (ds ++ 59 :: t)) = _;rw [Ro.escEnd ds t (fun x hx => h x (by simp [hx]))];rfl
theorem Ro.esc (c : Int) (h : Ru.okR c) (t : List UInt8) : Dr.esc (Wt.hex c.toNat ++ 59 :: t) = some (c,t) := by
 unfold Dr.esc;rw [Ro.escEnd _ t (Ro.hex_isX c.toNat c.toNat (Nat.le_refl _))];simp only;rw [Ro.hex c h];rfl
theorem Ro.enc_asc (b : UInt8) (h : b.toNat < 128) : Lib.encodeRune (b.toNat : Int) = [b] := by
 unfold Lib.encodeRune;rw [Lib.encodeRuneZ_one (by omega) (by omega)];simp
theorem Ro.str1 (c : Int) (h : Ru.okR c) (t : List UInt8) : Dr.txt1 (Wt.strU c ++ t) = .go (Lib.encodeRune c) t := by
 have two : ∀ (b v : UInt8) (n : Int),b.toNat < 128 → (b.toNat : Int) ≠ 120 → v.toNat < 128 → Dr.unesc (b.toNat : Int) = some v → n = (v.toNat : Int) → Dr.txt1 ([92,b] ++ t) = .go (Lib.encodeRune n) t := by
  intro b v n hb h120 hv hu hn;subst hn;rw [Ro.enc_asc v hv];unfold Dr.txt1;rw [show [92,b] ++ t = 92 :: b :: t from rfl,Ro.next_asc 92 (by decide)];simp only;rw [if_neg (by decide),if_pos (by decide),Ro.next_asc b hb];simp only;rw [if_neg h120,hu]
 unfold Wt.strU;by_cases h7 : c = 7
 · rw [if_pos h7]; exact two 97 7 c (by decide) (by decide) (by decide) (by decide) (by rw [h7]; rfl)
 rw [if_neg h7];by_cases h8 : c = 8
 · rw [if_pos h8]; exact two 98 8 c (by decide) (by decide) (by decide) (by decide) (by rw [h8]; rfl)
 rw [if_neg h8];by_cases h9 : c = 9
 · rw [if_pos h9]; exact two 116 9 c (by decide) (by decide) (by decide) (by decide) (by rw [h9]; rfl)
 rw [if_neg h9];by_cases h10 : c = 10
 · rw [if_pos h10]; exact two 110 10 c (by decide) (by decide) (by decide) (by decide) (by rw [h10]; rfl)
 rw [if_neg h10];by_cases h11 : c = 11
 · rw [if_pos h11]; exact two 118 11 c (by decide) (by decide) (by decide) (by decide) (by rw [h11]; rfl)
 rw [if_neg h11];by_cases h12 : c = 12
 · rw [if_pos h12]; exact two 102 12 c (by decide) (by decide) (by decide) (by decide) (by rw [h12]; rfl)
 rw [if_neg h12];by_cases h13 : c = 13
 · rw [if_pos h13]; exact two 114 13 c (by decide) (by decide) (by decide) (by decide) (by rw [h13]; rfl)
 rw [if_neg h13];by_cases h34 : c = 34
 · rw [if_pos h34]; exact two 34 34 c (by decide) (by decide) (by decide) (by decide) (by rw [h34]; rfl)
 rw [if_neg h34];by_cases h92 : c = 92
 · rw [if_pos h92]; exact two 92 92 c (by decide) (by decide) (by decide) (by decide) (by rw [h92]; rfl)
 rw [if_neg h92];by_cases hodd : (Wt.odd c || decide (c = 8232) || decide (c = 65279)) = true
 · rw [if_pos hodd];unfold Wt.esc Dr.txt1;rw [show [92,120] ++ (Wt.hex c.toNat ++ [59]) ++ t = 92 :: 120 :: (Wt.hex c.toNat ++ 59 :: t) by simp,Ro.next_asc 92 (by decide)];simp only;rw [if_neg (by decide),if_pos (by decide),Ro.next_asc 120 (by decide)];simp only;rw [if_pos (by decide),Ro.esc c h t]
 · rw [if_neg hodd];simp only [Bool.or_eq_true,decide_eq_true_eq,not_or] at hodd;obtain ⟨⟨ho,h82⟩,_⟩ := hodd;unfold Dr.txt1;rw [Ro.next_enc c h t];simp only;have h133 : c ≠ 133 := by
    rintro rfl;exact ho (by decide)
   rw [if_neg h34,if_neg h92,if_neg h13,if_neg (by simp [h133,h82])]
theorem Ro.text_step (l : List UInt8) : Dr.text l = match Dr.txt1 l with | .no => none | .stop r => some ([],r) | .go b r => (Dr.text r).map fun x => (b ++ x.1,x.2) := by
 rw [Dr.text];split <;> (rename_i e; rw [e])
theorem Ro.text : ∀ (rs : List Int) (r : List UInt8),(∀ c ∈ rs,Ru.okR c) → Dr.text (rs.flatMap Wt.strU ++ 34 :: r) = some (Ru.encs rs,r)
 | [],r,_ => by
   rw [List.flatMap_nil,List.nil_append,Ro.text_step];have : Dr.txt1 (34 :: r) = .stop r := by
    unfold Dr.txt1;rw [Ro.next_asc 34 (by decide)];simp only;rw [if_pos (by decide)]
   rw [this];rfl
 | c :: rs,r,h => by
   rw [List.flatMap_cons,List.append_assoc,Ro.text_step,Ro.str1 c (h c (by simp))];simp only;rw [Ro.text rs r (fun x hx => h x (by simp [hx])),Ru.encs_cons];rfl
theorem Ro.str (x : List UInt8) (h : Lib.validD x = true) (r : List UInt8) : Dr.text ((Wt.str x).drop 1 ++ r) = some (x,r) := by
 unfold Wt.str;rw [List.drop_succ_cons,List.drop_zero,List.append_assoc,List.singleton_append,Ro.text _ r (Ru.runes_okR x),Ro.encs_runes _ x (Nat.le_refl _) h]
def Ro.ends (r : List UInt8) : Prop := r = [] ∨ ∃ b t,r = b :: t ∧ b.toNat < 128 ∧ Dr.delim (b.toNat : Int) = true
theorem Ro.token_end {r : List UInt8} (h : Ro.ends r) : Dr.token r = some r := by
 rcases h with rfl | ⟨b,t,rfl,hb,hd⟩
 · rw [Dr.token,dif_pos rfl]
 · rw [Dr.token,dif_neg (by simp),if_neg (by rw [Dr.asc_bad b t hb]; simp),(Dr.asc b t hb).1,if_pos hd]
theorem Ro.token_enc (c : Int) (h : Ru.okR c) (hd : Dr.delim c = false) (h92 : c ≠ 92) (t : List UInt8) : Dr.token (Lib.encodeRune c ++ t) = Dr.token t := by
 obtain ⟨e1,e2⟩ := Dr.cp_enc c h t;have hnb : Dr.bad (Lib.encodeRune c ++ t) = false := by
  unfold Dr.bad;rw [e1,e2];by_cases hc : c = 65533
  · rw [hc,Ro.enc3]; decide
  · rw [decide_eq_false hc]; simp
 rw [Dr.token,dif_neg (by have := Ru.encode_ne c; simp [this]),if_neg (by rw [hnb]; simp),e1,if_neg (by rw [hd]; simp),if_neg h92,e2,List.drop_left]
theorem Ro.token_asc (b : UInt8) (h : b.toNat < 128) (hd : Dr.delim (b.toNat : Int) = false) (h92 : (b.toNat : Int) ≠ 92) (t : List UInt8) : Dr.token (b :: t) = Dr.token t := by
 have := Ro.token_enc (b.toNat : Int) (by unfold Ru.okR; omega) hd h92 t;rwa [Ro.enc_asc b h] at this
theorem Ro.token_ascs : ∀ (a t : List UInt8),(∀ b ∈ a,b.toNat < 128 ∧ Dr.delim (b.toNat : Int) = false ∧ (b.toNat : Int) ≠ 92) → Dr.token (a ++ t) = Dr.token t
 | [],t,_ => rfl
 | b :: a,t,h => by
   obtain ⟨h1,h2,h3⟩ := h b (by simp);rw [List.cons_append,Ro.token_asc b h1 h2 h3,Ro.token_ascs a t (fun x hx => h x (by simp [hx]))]
theorem Ro.token_esc (c : Int) (h : Ru.okR c) (t : List UInt8) : Dr.token (Wt.esc c ++ t) = Dr.token t := by
 have hdg : Dr.digits (120 :: (Wt.hex c.toNat ++ 59 :: t)) = some t := by
  unfold Dr.digits;rw [Ro.next_asc 120 (by decide)];simp only [Option.map_some,Option.some.injEq];have : ∀ (ds : List UInt8),(∀ b ∈ ds,Ro.isX b) → (ds ++ 59 :: t).dropWhile Dr.hexB = 59 :: t := by
   intro ds;induction ds with
   | nil => intro _; rw [List.nil_append,List.dropWhile_cons,if_neg (by decide)]
   | cons b ds ih =>
     intro hb;obtain ⟨d,hd,e⟩ := hb b (by simp);have h1 := (Ro.hx d hd).1;rw [← e] at h1;rw [List.cons_append,List.dropWhile_cons,if_pos h1];exact ih (fun x hx => hb x (by simp [hx]))
  rw [this _ (Ro.hex_isX c.toNat c.toNat (Nat.le_refl _))];rfl
 unfold Wt.esc;rw [show [92,120] ++ (Wt.hex c.toNat ++ [59]) ++ t = 92 :: 120 :: (Wt.hex c.toNat ++ 59 :: t) by simp];rw [Dr.token,dif_neg (by simp),if_neg (by rw [Dr.asc_bad 92 _ (by decide)]; simp),(Dr.asc 92 _ (by decide)).1,if_neg (by decide),if_pos (by decide),(Dr.asc 92 _ (by decide)).2];split
 · rename_i h2;rw [show (92 :: 120 :: (Wt.hex c.toNat ++ 59 :: t)).drop 1 = 120 :: (Wt.hex c.toNat ++ 59 :: t) from rfl,hdg] at h2;cases h2
 · rename_i r h2;rw [show (92 :: 120 :: (Wt.hex c.toNat ++ 59 :: t)).drop 1 = 120 :: (Wt.hex c.toNat ++ 59 :: t) from rfl,hdg] at h2;cases h2;rfl
theorem Ro.upto_app (a r : List UInt8) : Dr.upto (a ++ r) r = a := by
 unfold Dr.upto;rw [List.length_append,Nat.add_sub_cancel,List.take_left]
theorem Wt.head_rune {l : List UInt8} {r : Int} {ys : List Int} (h : Ru.runes l = r :: ys) (hr : r < 128) : ∃ c t,l = c :: t ∧ (c.toNat : Int) = r ∧ ys = Ru.runes t := by
 cases l with
 | nil => rw [Ru.runes_nil] at h; cases h
 | cons c t =>
   have h0 : (0 : Nat) < (⟨(c :: t).toArray⟩ : ByteArray).size := by show 0 < (List.toArray _).size; simp
   have hd := Ru.decode_drop ⟨(c :: t).toArray⟩ 0;have hl : (⟨(c :: t).toArray⟩ : ByteArray).data.toList.drop 0 = c :: t := by simp
   rw [hl] at hd;rw [Ru.runes_step _ (by simp),← hd] at h;simp only [List.cons.injEq] at h;have hc : (⟨(c :: t).toArray⟩ : ByteArray)[0]'h0 = c := rfl;by_cases ha : c.toNat < 128
   · have h2 := decode_ascii ⟨(c :: t).toArray⟩ 0 h0 (by rw [hc]; exact ha);rw [h2] at h;refine ⟨c,t,rfl,by rw [← h.1,hc],?_⟩;rw [← h.2];rfl
   · have h2 := (decode_high ⟨(c :: t).toArray⟩ 0 h0 (by rw [hc]; omega)).1;omega
theorem Wt.runes_asc (c : UInt8) (t : List UInt8) (h : c.toNat < 128) : Ru.runes (c :: t) = (c.toNat : Int) :: Ru.runes t := by
 have h0 : (0 : Nat) < (⟨(c :: t).toArray⟩ : ByteArray).size := by show 0 < (List.toArray _).size; simp
 have hd := Ru.decode_drop ⟨(c :: t).toArray⟩ 0;have hl : (⟨(c :: t).toArray⟩ : ByteArray).data.toList.drop 0 = c :: t := by simp
 rw [hl] at hd;have h2 := decode_ascii ⟨(c :: t).toArray⟩ 0 h0 h;rw [Ru.runes_step _ (by simp),← hd,h2];rfl
theorem Wt.symL_runes (l : List UInt8) : (∃ ys,Ru.runes l = 45 :: 62 :: ys ∧ Wt.symL l = [45,62] ++ Wt.syms false ys) ∨ ((∀ ys,Ru.runes l ≠ 45 :: 62 :: ys) ∧ Wt.symL l = Wt.syms true (Ru.runes l)) := by
 by_cases h : ∃ ys,Ru.runes l = 45 :: 62 :: ys
 · obtain ⟨ys,h⟩ := h;obtain ⟨c,t,rfl,hc,h2⟩ := Wt.head_rune h (by decide);obtain ⟨d,u,rfl,hd,h3⟩ := Wt.head_rune h2.symm (by decide);have e1 : c = 45 := UInt8.toNat.inj (by show c.toNat = 45; omega);have e2 : d = 62 := UInt8.toNat.inj (by show d.toNat = 62; omega);subst e1 e2;exact .inl ⟨ys,h,by rw [h3]; rfl⟩
 · refine .inr ⟨fun ys e => h ⟨ys,e⟩,?_⟩;unfold Wt.symL;split
   · rename_i t;exact absurd ⟨Ru.runes t,by rw [Wt.runes_asc 45 _ (by decide),Wt.runes_asc 62 _ (by decide)]; rfl⟩ h
   · rfl
theorem Dr.token_stop (b : UInt8) (t : List UInt8) (h : b.toNat < 128) (hd : Dr.delim (b.toNat : Int) = true) : Dr.token (b :: t) = some (b :: t) := by
 rw [Dr.token,dif_neg (by simp),if_neg (by rw [Dr.asc_bad b t h]; simp),(Dr.asc b t h).1,if_pos hd]
theorem Dr.token_one (b c : UInt8) (t : List UInt8) (h : b.toNat < 128) (hd : Dr.delim (b.toNat : Int) = false) (h92 : ¬ (b.toNat : Int) = 92) (hc : c.toNat < 128) (hcd : Dr.delim (c.toNat : Int) = true) : Dr.token (b :: c :: t) = some (c :: t) := by
 rw [Dr.token,dif_neg (by simp),if_neg (by rw [Dr.asc_bad b _ h]; simp),(Dr.asc b _ h).1,if_neg (by rw [hd]; simp),if_neg h92,(Dr.asc b _ h).2];exact Dr.token_stop c t hc hcd
theorem Dr.upto_one (b : UInt8) (t : List UInt8) : Dr.upto (b :: t) t = [b] := by
 unfold Dr.upto;rw [List.length_cons,show t.length + 1 - t.length = 1 by omega];rfl
theorem Dr.bk_stop (b : UInt8) (t : List UInt8) (h : b.toNat < 128) (hb : Ch.blankB (b.toNat : Int) = false) (h1 : b ≠ 59) (h2 : b ≠ 35) : Dr.bk (b :: t) = .stop := by
 unfold Dr.bk;rw [if_neg (by simp),if_neg (by rw [Dr.asc_bad b t h]; simp),(Dr.asc b t h).1,if_neg (by rw [hb]; simp),if_neg (by
   intro e
   exact h1 (UInt8.toNat.inj (by show b.toNat = 59; omega))),if_neg (by
   intro e;have := congrArg (·[0]?) e;simp at this
   exact h2 this),if_neg (by
   intro e;have := congrArg (·[0]?) e;simp at this
   exact h2 this)]
theorem Dr.pk_item (e : Int) (f : Bool) (b : UInt8) (t : List UInt8) (h : b.toNat < 128) (h1 : ¬ (b.toNat : Int) = e) (h2 : ¬ (b.toNat : Int) = 46) : Dr.pk e f (b :: t) = .item := by
 unfold Dr.pk;rw [if_neg (by simp),if_neg (by rw [Dr.asc_bad b t h]; simp),(Dr.asc b t h).1,if_neg h1,if_neg (by rw [decide_eq_false h2]; simp)]
theorem Ro.ascF : ∀ n : Fin 128,Wt.firstB (n.val : Int) = true → (Dr.delim (n.val : Int) = false ∧ n.val ≠ 92 ∧ n.val ≠ 35 ∧ n.val ≠ 39 ∧ n.val ≠ 43 ∧ n.val ≠ 45 ∧ n.val ≠ 46 ∧ ¬ (48 ≤ n.val ∧ n.val ≤ 57)) := by decide +kernel
theorem Ro.ascR : ∀ n : Fin 128,Wt.restB (n.val : Int) = true → (Dr.delim (n.val : Int) = false ∧ n.val ≠ 92) := by decide +kernel
theorem Ro.letters : Ch.letterB 133 = false ∧ Ch.letterB 160 = false ∧ Ch.letterB 8232 = false ∧ Ch.letterB 8233 = false := by decide +kernel
theorem Ro.highF {c : Int} (h : 127 < c) (hf : Wt.firstB c = true) : Ch.blankB c = false := by
 cases hb : Ch.blankB c with
 | false => rfl
 | true =>
   exfalso;have hc : c = 133 ∨ c = 160 ∨ c = 8232 ∨ c = 8233 := by
    unfold Ch.blankB at hb;simp only [Bool.or_eq_true,beq_iff_eq] at hb;omega
   unfold Wt.firstB at hf;rw [hb] at hf;obtain ⟨l1,l2,l3,l4⟩ := Ro.letters;have hl : Ch.letterB c = false := by rcases hc with rfl | rfl | rfl | rfl <;> assumption
   rw [hl] at hf;simp at hf;omega
theorem Ro.highD {c : Int} (h : 127 < c) (hb : Ch.blankB c = false) : Dr.delim c = false := by
 unfold Dr.delim;rw [hb,decide_eq_false (by omega),decide_eq_false (by omega),decide_eq_false (by omega),decide_eq_false (by omega),decide_eq_false (by omega),decide_eq_false (by omega)];rfl
theorem Ro.rest_first {c : Int} (h : 127 < c) (hr : Wt.restB c = true) : Wt.firstB c = true := by
 unfold Wt.restB at hr;rw [decide_eq_false (p := c ≤ 57) (by omega),decide_eq_false (p := c = 43) (by omega),decide_eq_false (p := c = 45) (by omega),decide_eq_false (p := c = 46) (by omega),decide_eq_false (p := c = 64) (by omega)] at hr;simpa using hr
theorem Ro.restD {c : Int} (h : Ru.okR c) (hr : Wt.restB c = true) : Dr.delim c = false ∧ c ≠ 92 := by
 unfold Ru.okR at h;by_cases h1 : c < 128
 · obtain ⟨n,rfl⟩ := Int.eq_ofNat_of_zero_le (show 0 ≤ c by omega);obtain ⟨a,b⟩ := Ro.ascR ⟨n,by omega⟩ hr;exact ⟨a,by intro e; exact b (by show n = 92; omega)⟩
 · exact ⟨Ro.highD (by omega) (Ro.highF (by omega) (Ro.rest_first (by omega) hr)),by omega⟩
theorem Ro.first_rest {c : Int} (h : Wt.firstB c = true) : Wt.restB c = true := by unfold Wt.restB; rw [h]; rfl
structure Ro.Head (c : Int) : Prop where
 ok : Ru.okR c
 del : Dr.delim c = false
 n35 : c ≠ 35
 n39 : c ≠ 39
theorem Ro.firstH {c : Int} (h : Ru.okR c) (hf : Wt.firstB c = true) : Ro.Head c := by
 refine ⟨h,(Ro.restD h (Ro.first_rest hf)).1,?_,?_⟩;all_goals
  rintro rfl;exact absurd hf (by decide +kernel)
theorem Ro.escH : Ro.Head 92 := ⟨by unfold Ru.okR; omega,by decide,by decide,by decide⟩
theorem Ro.sym1 (f : Bool) (c : Int) (h : Ru.okR c) (t : List UInt8) : Dr.sym1 f (Wt.symU f c ++ t) = some (Lib.encodeRune c,t) := by
 unfold Wt.symU;by_cases hm : (if f = true then Wt.firstB c else Wt.restB c) = true
 · rw [if_pos hm];have hr : Wt.restB c = true := by
    cases f with
    | true => exact Ro.first_rest (by simpa using hm)
    | false => simpa using hm
   unfold Dr.sym1;rw [Ro.next_enc c h t];simp only;rw [if_neg (Ro.restD h hr).2,if_neg];rw [hr];cases f with
   | true => rw [show Wt.firstB c = true by simpa using hm]; simp
   | false => simp
 · rw [if_neg hm];unfold Wt.esc Dr.sym1;rw [show [92,120] ++ (Wt.hex c.toNat ++ [59]) ++ t = 92 :: 120 :: (Wt.hex c.toNat ++ 59 :: t) by simp,Ro.next_asc 92 (by decide)];simp only;rw [if_pos (by decide),Ro.next_asc 120 (by decide)];simp only;rw [if_pos (by decide),Ro.esc c h t]
theorem Ro.syms_step (first : Bool) (l : List UInt8) (h : ¬ (l = [] ∧ first = false)) : Dr.syms first l = match Dr.sym1 first l with | none => none | some x => (Dr.syms false x.2).map fun y => x.1 ++ y := by
 rw [Dr.syms,if_neg h];split <;> (rename_i e; rw [e])
theorem Ro.symU_cases (f : Bool) (c : Int) : (Wt.restB c = true ∧ (f = true → Wt.firstB c = true) ∧ Wt.symU f c = Lib.encodeRune c) ∨ Wt.symU f c = Wt.esc c := by
 unfold Wt.symU;by_cases hm : (if f = true then Wt.firstB c else Wt.restB c) = true
 · left;cases f with
   | true =>
     have h : Wt.firstB c = true := by simpa using hm
     exact ⟨Ro.first_rest h,fun _ => h,if_pos hm⟩
   | false => exact ⟨by simpa using hm,(fun e => by cases e),if_pos hm⟩
 · right;exact if_neg hm
theorem Ro.symU_ne (f : Bool) (c : Int) : Wt.symU f c ≠ [] := by
 rcases Ro.symU_cases f c with ⟨_,_,e⟩ | e
 · rw [e]; exact Ru.encode_ne c
 · rw [e]; unfold Wt.esc; simp
theorem Ro.syms : ∀ (f : Bool) (rs : List Int),(∀ c ∈ rs,Ru.okR c) → (f = true → rs ≠ []) → Dr.syms f (Wt.syms f rs) = some (Ru.encs rs)
 | f,[],_,hf => by
   cases f with
   | true => exact absurd rfl (hf rfl)
   | false => rw [Wt.syms,Dr.syms,if_pos ⟨rfl,rfl⟩]; rfl
 | f,c :: rs,h,_ => by
   rw [Wt.syms,Ro.syms_step _ _ (fun e => by have := e.1; simp [Ro.symU_ne] at this),Ro.sym1 f c (h c (by simp))];simp only;rw [Ro.syms false rs (fun x hx => h x (by simp [hx])) (fun e => by cases e),Ru.encs_cons];rfl
theorem Ro.token_symU (f : Bool) (c : Int) (h : Ru.okR c) (t : List UInt8) : Dr.token (Wt.symU f c ++ t) = Dr.token t := by
 rcases Ro.symU_cases f c with ⟨hr,_,e⟩ | e
 · obtain ⟨a,b⟩ := Ro.restD h hr;rw [e];exact Ro.token_enc c h a b t
 · rw [e];exact Ro.token_esc c h t
theorem Ro.token_syms : ∀ (f : Bool) (rs : List Int) (t : List UInt8),(∀ c ∈ rs,Ru.okR c) → Dr.token (Wt.syms f rs ++ t) = Dr.token t
 | _,[],t,_ => rfl
 | f,c :: rs,t,h => by
   rw [Wt.syms,List.append_assoc,Ro.token_symU f c (h c (by simp)),Ro.token_syms false rs t (fun x hx => h x (by simp [hx]))]
theorem Ro.symU_head (c : Int) (h : Ru.okR c) : ∃ d t,Ro.Head d ∧ Wt.symU true c = Lib.encodeRune d ++ t := by
 rcases Ro.symU_cases true c with ⟨_,hf,e⟩ | e
 · exact ⟨c,[],Ro.firstH h (hf rfl),by rw [e]; simp⟩
 · refine ⟨92,[120] ++ (Wt.hex c.toNat ++ [59]),Ro.escH,?_⟩;rw [e,show (92 : Int) = ((92 : UInt8).toNat : Int) from rfl,Ro.enc_asc 92 (by decide)];rfl
theorem Ro.num_no (b : UInt8) (u : List UInt8) (h35 : b ≠ 35) (h43 : b ≠ 43) (h45 : b ≠ 45) (hd : Dr.isDig 10 b = false) : Dr.num (b :: u) = .err 5 := by
 have hp : Dr.pre 10 false false (b :: u) = some (10,b :: u) := by
  unfold Dr.pre;split
  · rename_i e; simp only [List.cons.injEq] at e; exact absurd e.1 h35
  · rename_i e; simp only [List.cons.injEq] at e; exact absurd e.1 h35
  · rfl
 have hs : Dr.sign (b :: u) = (false,false,b :: u) := by
  unfold Dr.sign;split
  · rename_i e; simp only [List.cons.injEq] at e; exact absurd e.1 h43
  · rename_i e; simp only [List.cons.injEq] at e; exact absurd e.1 h45
  · rfl
 have hf : Dr.frac 10 false (b :: u) 0 = none := by
  unfold Dr.frac Dr.digs;rw [if_pos (by rw [List.takeWhile_cons,hd]; rfl)]
 have hn : Dr.number 10 (b :: u) = none := by
  unfold Dr.number;rw [hs];simp only [Bool.false_and];rw [hf];simp
 unfold Dr.num;rw [hp];simp only;rw [hn]
theorem Ro.num_arrow (u : List UInt8) : Dr.num (45 :: 62 :: u) = .err 5 := by
 have hf : Dr.frac 10 true (62 :: u) 0 = none := by
  unfold Dr.frac Dr.digs;rw [if_pos (by rw [List.takeWhile_cons,if_neg (by decide)])]
 have hn : Dr.number 10 (45 :: 62 :: u) = none := by
  unfold Dr.number;rw [show Dr.sign (45 :: 62 :: u) = (true,true,62 :: u) from rfl];have hu : Dr.unit (62 :: u) = false := by unfold Dr.unit; simp
  simp only [hu,Bool.and_false,Bool.false_eq_true,if_false];rw [hf]
 unfold Dr.num;rw [show Dr.pre 10 false false (45 :: 62 :: u) = some (10,45 :: 62 :: u) from rfl];simp only;rw [hn]
theorem Ro.firstByte (c : Int) (h : Ru.okR c) (hf : Wt.firstB c = true) : ∃ b u,Lib.encodeRune c = b :: u ∧ b ≠ 35 ∧ b ≠ 43 ∧ b ≠ 45 ∧ b ≠ 46 ∧ Dr.isDig 10 b = false := by
 unfold Ru.okR at h;by_cases h1 : c < 128
 · obtain ⟨n,rfl⟩ := Int.eq_ofNat_of_zero_le (show 0 ≤ c by omega);have hn : n < 128 := by omega
   obtain ⟨_,_,a1,_,a3,a4,a5,a6⟩ := Ro.ascF ⟨n,hn⟩ hf;have hb : (UInt8.ofNat n).toNat = n := by simp; omega
   refine ⟨UInt8.ofNat n,[],?_,?_,?_,?_,?_,?_⟩
   · have := Ro.enc_asc (UInt8.ofNat n) (by rw [hb]; exact hn);rwa [hb] at this
   · intro e; rw [e] at hb; exact a1 hb.symm
   · intro e; rw [e] at hb; exact a3 hb.symm
   · intro e; rw [e] at hb; exact a4 hb.symm
   · intro e; rw [e] at hb; exact a5 hb.symm
   · unfold Dr.isDig Dr.val;rw [hb,if_neg a6];split
     · exact decide_eq_false (by omega)
     · split
       · exact decide_eq_false (by omega)
       · exact decide_eq_false (by omega)
 · cases he : Lib.encodeRune c with
   | nil => exact absurd he (Ru.encode_ne c)
   | cons b u =>
     have hb : 128 ≤ b.toNat := by
      rcases Nat.lt_or_ge b.toNat 128 with hlt | hge
      · have e1 := (Dr.cp_enc c (by unfold Ru.okR; omega) []).1;rw [he] at e1;rw [show (b :: u) ++ [] = b :: (u ++ []) from rfl,(Dr.asc b _ hlt).1] at e1;omega
      · exact hge
     refine ⟨b,u,rfl,?_,?_,?_,?_,?_⟩
     · rintro rfl; exact absurd hb (by decide)
     · rintro rfl; exact absurd hb (by decide)
     · rintro rfl; exact absurd hb (by decide)
     · rintro rfl; exact absurd hb (by decide)
     · unfold Dr.isDig Dr.val;rw [if_neg (by omega),if_neg (by omega),if_neg (by omega)];exact decide_eq_false (by omega)
theorem Ro.symU_byte (c : Int) (h : Ru.okR c) : ∃ b u,Wt.symU true c = b :: u ∧ b ≠ 35 ∧ b ≠ 43 ∧ b ≠ 45 ∧ b ≠ 46 ∧ Dr.isDig 10 b = false := by
 rcases Ro.symU_cases true c with ⟨_,hf,e⟩ | e
 · rw [e];exact Ro.firstByte c h (hf rfl)
 · rw [e];exact ⟨92,[120] ++ (Wt.hex c.toNat ++ [59]),rfl,by decide,by decide,by decide,by decide,by decide⟩
theorem Ro.sym (x : List UInt8) (hv : Lib.validD x = true) (hne : x ≠ []) (r : List UInt8) (hr : Ro.ends r) :
 Dr.token (Wt.sym x ++ r) = some r ∧ Dr.atom (Wt.sym x) = some (Dr.leaf 6 0 x,false) ∧ ∃ c t,Ro.Head c ∧ Wt.sym x = Lib.encodeRune c ++ t := by
 have hx := Ro.encs_runes _ x (Nat.le_refl _) hv
 have hok := Ru.runes_okR x
 by_cases hs : x = [43] ∨ x = [45] ∨ x = [46,46,46]
 · have e : Wt.sym x = x := by unfold Wt.sym; rw [if_pos hs]
   rw [e];refine ⟨?_,?_,?_⟩
   · rw [Ro.token_ascs x r (by rcases hs with rfl | rfl | rfl <;> (intro b hb; simp only [List.mem_cons,List.not_mem_nil,or_false,or_self] at hb; subst hb; decide)),Ro.token_end hr]
   · unfold Dr.atom;rw [if_neg (by rcases hs with rfl | rfl | rfl <;> decide),if_neg (by rcases hs with rfl | rfl | rfl <;> decide),if_pos hs]
   · rcases hs with rfl | rfl | rfl
     · exact ⟨43,[],⟨by unfold Ru.okR; omega,by decide,by decide,by decide⟩,by rw [show (43 : Int) = ((43 : UInt8).toNat : Int) from rfl,Ro.enc_asc 43 (by decide)]; rfl⟩
     · exact ⟨45,[],⟨by unfold Ru.okR; omega,by decide,by decide,by decide⟩,by rw [show (45 : Int) = ((45 : UInt8).toNat : Int) from rfl,Ro.enc_asc 45 (by decide)]; rfl⟩
     · exact ⟨46,[46,46],⟨by unfold Ru.okR; omega,by decide,by decide,by decide⟩,by rw [show (46 : Int) = ((46 : UInt8).toNat : Int) from rfl,Ro.enc_asc 46 (by decide)]; rfl⟩
 · have e : Wt.sym x = Wt.symL x := by unfold Wt.sym; rw [if_neg hs,if_neg hne]
   rw [e];rcases Wt.symL_runes x with ⟨ys,hy,hL⟩ | ⟨hno,hL⟩
   · rw [hy] at hx hok;have hoy : ∀ c ∈ ys,Ru.okR c := fun c hc => hok c (by simp [hc]);have hxe : [45,62] ++ Ru.encs ys = x := by
      rw [← hx,Ru.encs_cons,Ru.encs_cons,show (45 : Int) = ((45 : UInt8).toNat : Int) from rfl,show (62 : Int) = ((62 : UInt8).toNat : Int) from rfl,Ro.enc_asc 45 (by decide),Ro.enc_asc 62 (by decide)];rfl
     rw [hL];refine ⟨?_,?_,?_⟩
     · rw [List.append_assoc,Ro.token_ascs [45,62] _ (by decide),Ro.token_syms false ys r hoy,Ro.token_end hr]
     · have h45 : [45,62] ++ Wt.syms false ys = 45 :: 62 :: Wt.syms false ys := rfl;rw [h45];unfold Dr.atom;rw [if_neg (by simp),if_neg (by simp),if_neg (by simp),Ro.num_arrow];simp only;rw [if_neg (by decide),if_neg (by decide)];unfold Dr.symbol;rw [if_pos (by rfl),show (45 :: 62 :: Wt.syms false ys).drop 2 = Wt.syms false ys from rfl,Ro.syms false ys hoy (fun e => by cases e)];simp only [Option.map_some];rw [hxe]
     · exact ⟨45,62 :: Wt.syms false ys,⟨by unfold Ru.okR; omega,by decide,by decide,by decide⟩,by rw [show (45 : Int) = ((45 : UInt8).toNat : Int) from rfl,Ro.enc_asc 45 (by decide)]; rfl⟩
   · rw [hL];cases hrs : Ru.runes x with
     | nil => rw [hrs] at hx; exact absurd hx.symm hne
     | cons c rs =>
       rw [hrs] at hx hok;have hoc := hok c (by simp);have hsy := Ro.syms true (c :: rs) hok (fun _ => by simp);rw [hx] at hsy;obtain ⟨b,u,eb,n35,n43,n45,n46,nd⟩ := Ro.symU_byte c hoc;refine ⟨by rw [Ro.token_syms true (c :: rs) r hok,Ro.token_end hr],?_,?_⟩
       · have eT : Wt.syms true (c :: rs) = b :: (u ++ Wt.syms false rs) := by rw [Wt.syms,eb]; rfl
         rw [eT] at hsy ⊢;have hh : ∀ (a : UInt8) (v : List UInt8),b ≠ a → b :: (u ++ Wt.syms false rs) ≠ a :: v := fun a v h e => h (by simp only [List.cons.injEq] at e; exact e.1);unfold Dr.atom;rw [if_neg (fun h => h.elim (hh 35 _ n35) (hh 35 _ n35)),if_neg (fun h => h.elim (hh 35 _ n35) (hh 35 _ n35)),if_neg (fun h => h.elim (hh 43 _ n43) (fun h => h.elim (hh 45 _ n45) (hh 46 _ n46))),Ro.num_no b _ n35 n43 n45 nd];simp only;rw [if_neg (by decide),if_neg (by decide)];unfold Dr.symbol;rw [if_neg (by
           intro h;have := congrArg (·[0]?) h;simp at this
           exact n45 this),hsy]
         rfl
       · obtain ⟨d,t,hd,et⟩ := Ro.symU_head c hoc;exact ⟨d,t ++ Wt.syms false rs,hd,by rw [Wt.syms,et,List.append_assoc]⟩
def Ro.Rd (T : List UInt8) (t : Tr) : Prop := ∀ r,Ro.ends r → Dr.Rel (.datum (T ++ r)) (.got t r false) ∧ Dr.bk (T ++ r) = .stop ∧ ∀ f,Dr.pk 41 f (T ++ r) = .item
theorem Ro.head35 {c : Int} (h : Ru.okR c) (hc : c ≠ 35) (t : List UInt8) (b : UInt8) (u : List UInt8) : Lib.encodeRune c ++ t ≠ 35 :: b :: u := by
 intro e;have h1 := (Dr.cp_enc c h t).1;rw [e,(Dr.asc 35 (b :: u) (by decide)).1] at h1;exact hc h1.symm
theorem Ro.take35 {c : Int} (h : Ru.okR c) (hc : c ≠ 35) (t : List UInt8) (n : Nat) (b : UInt8) (u : List UInt8) : ¬ (Lib.encodeRune c ++ t).take n = 35 :: b :: u := by
 intro e;have : Lib.encodeRune c ++ t = 35 :: b :: (u ++ (Lib.encodeRune c ++ t).drop n) := by
  conv => lhs; rw [← List.take_append_drop n (Lib.encodeRune c ++ t),e]
  rfl
 exact Ro.head35 h hc t b _ this
theorem Ro.not_bad {c : Int} (h : Ru.okR c) (t : List UInt8) : Dr.bad (Lib.encodeRune c ++ t) = false := by
 obtain ⟨e1,e2⟩ := Dr.cp_enc c h t;unfold Dr.bad;rw [e1,e2];by_cases hc : c = 65533
 · rw [hc,Ro.enc3]; decide
 · rw [decide_eq_false hc]; simp
theorem Ro.delim_no {c : Int} (h : Dr.delim c = false) : Ch.blankB c = false ∧ c ≠ 40 ∧ c ≠ 41 ∧ c ≠ 91 ∧ c ≠ 93 ∧ c ≠ 34 ∧ c ≠ 59 := by
 unfold Dr.delim at h;simp only [Bool.or_eq_false_iff,decide_eq_false_iff_not] at h;obtain ⟨⟨⟨⟨⟨⟨a,b⟩,c'⟩,d⟩,e⟩,f⟩,g⟩ := h;exact ⟨a,b,c',d,e,f,g⟩
theorem Ro.of_atom {T : List UInt8} {t : Tr} {c : Int} {u : List UInt8} (hc : Ro.Head c) (hT : T = Lib.encodeRune c ++ u) (htk : ∀ r,Ro.ends r → Dr.token (T ++ r) = some r) (hat : Dr.atom T = some (t,false)) (h46 : T ≠ [46]) : Ro.Rd T t := by
 intro r hr;have htk := htk r hr;have hup := Ro.upto_app T r;have e : T ++ r = Lib.encodeRune c ++ (u ++ r) := by rw [hT,List.append_assoc]
 obtain ⟨e1,e2⟩ := Dr.cp_enc c hc.ok (u ++ r);have hnb := Ro.not_bad hc.ok (u ++ r);obtain ⟨hbl,n40,n41,n91,_,n34,n59⟩ := Ro.delim_no hc.del;have hne : Lib.encodeRune c ++ (u ++ r) ≠ [] := by have := Ru.encode_ne c; simp [this]
 refine ⟨.dDone ?_,?_,fun f => ?_⟩
 · rw [e] at htk hup ⊢;unfold Dr.dk;rw [if_neg hne,if_neg (by rw [hnb]; simp),e1,if_neg (fun h => h.elim n40 n91),if_neg n34,if_neg hc.n39,if_neg (Ro.take35 hc.ok hc.n35 _ _ _ _),if_neg (Ro.take35 hc.ok hc.n35 _ _ _ _),if_neg (Ro.take35 hc.ok hc.n35 _ _ _ _),htk];simp only;rw [hup,hat]
 · rw [e];unfold Dr.bk;rw [if_neg hne,if_neg (by rw [hnb]; simp),e1,if_neg (by rw [hbl]; simp),if_neg n59,if_neg (Ro.take35 hc.ok hc.n35 _ _ _ _),if_neg (Ro.take35 hc.ok hc.n35 _ _ _ _)]
 · rw [e] at htk hup ⊢;unfold Dr.pk;rw [if_neg hne,if_neg (by rw [hnb]; simp),e1,if_neg n41];split
   · rw [htk];simp only;rw [hup,if_neg h46]
   · rfl
theorem Ro.of_mark {b : UInt8} {U : List UInt8} {t : Tr} (hb : b = 40 ∨ b = 39 ∨ b = 34) (h : ∀ r,Ro.ends r → Dr.Rel (.datum (b :: (U ++ r))) (.got t r false)) : Ro.Rd (b :: U) t := by
 intro r hr;rw [List.cons_append];refine ⟨h r hr,?_,fun f => ?_⟩
 · rcases hb with rfl | rfl | rfl
   · exact Dr.bk_stop 40 _ (by decide) (by decide) (by decide) (by decide)
   · exact Dr.bk_stop 39 _ (by decide) (by decide) (by decide) (by decide)
   · exact Dr.bk_stop 34 _ (by decide) (by decide) (by decide) (by decide)
 · rcases hb with rfl | rfl | rfl
   · exact Dr.pk_item 41 f 40 _ (by decide) (by decide) (by decide)
   · exact Dr.pk_item 41 f 39 _ (by decide) (by decide) (by decide)
   · exact Dr.pk_item 41 f 34 _ (by decide) (by decide) (by decide)
theorem Ro.of_hash {b : UInt8} {U : List UInt8} {t : Tr} (h1 : b ≠ 59) (h2 : b ≠ 124) (h : ∀ r,Ro.ends r → Dr.Rel (.datum (35 :: b :: (U ++ r))) (.got t r false)) : Ro.Rd (35 :: b :: U) t := by
 intro r hr;rw [List.cons_append,List.cons_append];refine ⟨h r hr,?_,fun f => Dr.pk_item 41 f 35 _ (by decide) (by decide) (by decide)⟩;unfold Dr.bk;rw [if_neg (by simp),if_neg (by rw [Dr.asc_bad 35 _ (by decide)]; simp),(Dr.asc 35 _ (by decide)).1,if_neg (by decide),if_neg (by decide),if_neg (by
   intro e;have := congrArg (·[1]?) e;simp at this
   exact h1 this),if_neg (by
   intro e;have := congrArg (·[1]?) e;simp at this
   exact h2 this)]
theorem Ro.Rd.num {s1 : Bool} {t1 b1 : Nat} {s2 : Bool} {t2 b2 : Nat} (h1 : Ro.Snd s1 t1 b1) (h2 : Ro.Snd s2 t2 b2) (hl : (Wt.cnum s1 t1 b1 s2 t2 b2).length ≤ 16384) : Ro.Rd (Wt.cnum s1 t1 b1 s2 t2 b2) (Dr.numT (s1,t1,b1) (s2,t2,b2)) := by
 have hnb := Ro.cnum_nb s1 t1 b1 s2 t2 b2;have hno := Ro.cnum_no s1 t1 b1 s2 t2 b2;have hat := Ro.atom h1 h2 hl;generalize Wt.cnum s1 t1 b1 s2 t2 b2 = T at *;have hb : ∀ b ∈ T,b.toNat < 128 ∧ Dr.delim (b.toNat : Int) = false ∧ (b.toNat : Int) ≠ 92 ∧ b ≠ 35 ∧ b ≠ 39 ∧ b ≠ 46 := by
  intro b hb;have tab : ∀ n : Fin 128,((48 ≤ n.val ∧ n.val ≤ 57) ∨ n.val = 43 ∨ n.val = 45 ∨ n.val = 47 ∨ n.val = 105) → Dr.delim (n.val : Int) = false ∧ (n.val : Int) ≠ 92 ∧ n.val ≠ 35 ∧ n.val ≠ 39 ∧ n.val ≠ 46 := by decide +kernel
  have hx := hnb b hb;have hx2 : (48 ≤ b.toNat ∧ b.toNat ≤ 57) ∨ b.toNat = 43 ∨ b.toNat = 45 ∨ b.toNat = 47 ∨ b.toNat = 105 := by
   rcases hx with h | rfl | rfl | rfl | rfl
   · exact .inl h
   · exact .inr (.inl rfl)
   · exact .inr (.inr (.inl rfl))
   · exact .inr (.inr (.inr (.inl rfl)))
   · exact .inr (.inr (.inr (.inr rfl)))
  have hlt : b.toNat < 128 := by omega
  obtain ⟨a1,a2,a3,a4,a5⟩ := tab ⟨b.toNat,hlt⟩ hx2;exact ⟨hlt,a1,a2,fun e => a3 (show b.toNat = 35 by rw [e]; rfl),fun e => a4 (show b.toNat = 39 by rw [e]; rfl),fun e => a5 (show b.toNat = 46 by rw [e]; rfl)⟩
 cases hT : T with
 | nil => exact absurd hT hno.1
 | cons b u =>
   obtain ⟨q1,q2,q3,q4,q5,q6⟩ := hb b (by rw [hT]; simp);rw [← hT];refine Ro.of_atom (c := (b.toNat : Int)) (u := u) ⟨by unfold Ru.okR; omega,q2,?_,?_⟩ (by rw [Ro.enc_asc b q1,hT]; rfl) (fun r hr => ?_) hat ?_
   · intro e; exact q4 (UInt8.toNat.inj (by show b.toNat = 35; omega))
   · intro e; exact q5 (UInt8.toNat.inj (by show b.toNat = 39; omega))
   · rw [Ro.token_ascs T r (fun x hx => ⟨(hb x hx).1,(hb x hx).2.1,(hb x hx).2.2.1⟩),Ro.token_end hr]
   · rw [hT];intro e;simp only [List.cons.injEq] at e;exact q6 e.1
theorem Ro.Rd.sym {x : List UInt8} (hv : Lib.validD x = true) (hne : x ≠ []) : Ro.Rd (Wt.sym x) (Dr.leaf 6 0 x) := by
 obtain ⟨_,hat,c,u,hc,e⟩ := Ro.sym x hv hne [] (.inl rfl);refine Ro.of_atom hc e (fun r hr => (Ro.sym x hv hne r hr).1) hat ?_;intro h;rw [h] at hat;have h2 : Dr.atom [46] = none := by
  unfold Dr.atom;rw [if_neg (by decide),if_neg (by decide),if_neg (by decide),Ro.num_no 46 [] (by decide) (by decide) (by decide) (by decide)];simp only;rw [if_neg (by decide),if_neg (by decide)];have : Dr.symbol [46] = none := by
   unfold Dr.symbol;rw [if_neg (by decide),Ro.syms_step true [46] (by simp)];have : Dr.sym1 true [46] = none := by
    unfold Dr.sym1;rw [Ro.next_asc 46 (by decide)];simp only;rw [if_neg (by decide),if_pos (by decide +kernel)]
   rw [this]
  rw [this];rfl
 rw [h2] at hat;cases hat
theorem Ro.Rd.str {x : List UInt8} (hv : Lib.validD x = true) : Ro.Rd (Wt.str x) (Dr.leaf 5 0 x) := by
 have e : Wt.str x = 34 :: (Wt.str x).drop 1 := rfl;rw [e];refine Ro.of_mark (.inr (.inr rfl)) (fun r hr => .dDone ?_);unfold Dr.dk;rw [if_neg (by simp),if_neg (by rw [Dr.asc_bad 34 _ (by decide)]; simp),(Dr.asc 34 _ (by decide)).1,if_neg (by decide),if_pos (by decide),(Dr.asc 34 _ (by decide)).2];rw [show (34 :: ((Wt.str x).drop 1 ++ r)).drop 1 = (Wt.str x).drop 1 ++ r from rfl,Ro.str x hv r]
theorem Ro.Rd.nil : Ro.Rd [40,41] Dr.nil := by
 refine Ro.of_mark (U := [41]) (.inl rfl) (fun r hr => ?_);have hp : Dr.pk 41 true (41 :: r) = .stop r := by
  unfold Dr.pk;rw [if_neg (by simp),if_neg (by rw [Dr.asc_bad 41 _ (by decide)]; simp),(Dr.asc 41 _ (by decide)).1,if_pos (by decide),(Dr.asc 41 _ (by decide)).2];rfl
 refine .dPairs2 (e := 41) (r := 41 :: r) (ts := []) ?_ (.pStop (.bStop (Dr.bk_stop 41 _ (by decide) (by decide) (by decide) (by decide))) hp);unfold Dr.dk;rw [if_neg (by simp),if_neg (by rw [Dr.asc_bad 40 _ (by decide)]; simp),(Dr.asc 40 _ (by decide)).1,if_pos (by decide),(Dr.asc 40 _ (by decide)).2];rfl
theorem Ro.Rd.bool (b : UInt8) (n : Int) (h : (b = 116 ∧ n = 1) ∨ (b = 102 ∧ n = 0)) : Ro.Rd [35,b] (Dr.leaf 2 n []) := by
 refine Ro.of_hash (U := []) (by rcases h with ⟨rfl,_⟩ | ⟨rfl,_⟩ <;> decide) (by rcases h with ⟨rfl,_⟩ | ⟨rfl,_⟩ <;> decide) (fun r hr => .dDone ?_);have htk : Dr.token (35 :: b :: ([] ++ r)) = some r := by
  rw [List.nil_append];exact (Ro.token_ascs [35,b] r (by rcases h with ⟨rfl,_⟩ | ⟨rfl,_⟩ <;> decide)).trans (Ro.token_end hr)
 have hup : Dr.upto (35 :: b :: ([] ++ r)) r = [35,b] := Ro.upto_app [35,b] r;unfold Dr.dk;rw [if_neg (by simp),if_neg (by rw [Dr.asc_bad 35 _ (by decide)]; simp),(Dr.asc 35 _ (by decide)).1,if_neg (by decide),if_neg (by decide),if_neg (by decide),if_neg (by
   intro e;have := congrArg (·[1]?) e
   rcases h with ⟨rfl,_⟩ | ⟨rfl,_⟩ <;> simp at this),if_neg (by
   intro e;have := congrArg (·[1]?) e
   rcases h with ⟨rfl,_⟩ | ⟨rfl,_⟩ <;> simp at this),if_neg (by
   intro e;have := congrArg (·[1]?) e
   rcases h with ⟨rfl,_⟩ | ⟨rfl,_⟩ <;> simp at this),htk]
 simp only;rw [hup];rcases h with ⟨rfl,rfl⟩ | ⟨rfl,rfl⟩ <;> rfl
theorem Ro.ends_delim {r : List UInt8} (h : Ro.ends r) (hr : r ≠ []) : Dr.bad r = false ∧ Dr.delim (Dr.cp r) = true := by
 rcases h with rfl | ⟨b,t,rfl,hb,hd⟩
 · exact absurd rfl hr
 · exact ⟨Dr.asc_bad b t hb,by rw [(Dr.asc b t hb).1]; exact hd⟩
theorem Ro.char_plain {n : Int} (h : Ru.okR n) {r : List UInt8} (hr : Ro.ends r) : Dr.char (Lib.encodeRune n ++ r) = some (n,r) := by
 unfold Dr.char;rw [Ro.next_enc n h r];simp only;by_cases hd : Dr.delim n = true
 · rw [if_pos hd];by_cases h0 : r = []
   · rw [if_pos h0]
   · obtain ⟨hb,hd2⟩ := Ro.ends_delim hr h0;rw [if_neg h0,if_neg (by rw [hb]; simp),if_pos hd2]
 · rw [if_neg hd,Ro.token_end hr];simp only;have hup : Dr.upto r r = [] := Ro.upto_app [] r;rw [hup,if_pos rfl]
theorem Ro.char_more (b : UInt8) (hb : b.toNat < 128) (hd : Dr.delim (b.toNat : Int) = false) (u r : List UInt8) (hu : u ≠ []) (hr : Ro.ends r) (ha : ∀ c ∈ u,c.toNat < 128 ∧ Dr.delim (c.toNat : Int) = false ∧ (c.toNat : Int) ≠ 92) (hlf : b :: u ≠ [108,105,110,101,102,101,101,100]) :
 Dr.char (b :: (u ++ r)) = (match Dr.named (b :: u) with | some n => some (n,r) | none => if (b.toNat : Int) = 120 then (Dr.hex u).map fun n => (n,r) else none) := by
 have htk : Dr.token (u ++ r) = some r := (Ro.token_ascs u r ha).trans (Ro.token_end hr)
 unfold Dr.char
 rw [Ro.next_asc b hb]
 simp only
 rw [if_neg (by rw [hd]; simp),htk]
 simp only
 rw [Ro.upto_app,if_neg hu,Ro.enc_asc b hb,show [b] ++ u = b :: u from rfl,if_neg hlf]
 cases Dr.named (b :: u) <;> rfl
theorem Ro.names : ∀ n : Fin 128,Wt.name (n.val : Int) = [] ∨ ∃ b u,Wt.name (n.val : Int) = b :: u ∧ b.toNat < 128 ∧ Dr.delim (b.toNat : Int) = false ∧ u ≠ [] ∧ b ≠ 120 := by
 intro n;have tab : ∀ n : Fin 128,Wt.name (n.val : Int) = [] ∨ (2 ≤ (Wt.name (n.val : Int)).length ∧ ((Wt.name (n.val : Int)).headD 0).toNat < 128 ∧ Dr.delim (((Wt.name (n.val : Int)).headD 0).toNat : Int) = false ∧ (Wt.name (n.val : Int)).headD 0 ≠ 120) := by decide +kernel
 rcases tab n with h | ⟨h1,h2,h3,h4⟩
 · exact .inl h
 · right;cases hn : Wt.name (n.val : Int) with
   | nil => rw [hn] at h1; simp at h1
   | cons b u =>
     rw [hn] at h1 h2 h3 h4;refine ⟨b,u,rfl,h2,h3,?_,h4⟩;intro e;rw [e] at h1;simp at h1
theorem Ro.named_all : ∀ n : Fin 128,Wt.name (n.val : Int) ≠ [] → Dr.named (Wt.name (n.val : Int)) = some (n.val : Int) := by decide +kernel
theorem Ro.name_bytes : ∀ n : Fin 128,∀ c ∈ Wt.name (n.val : Int),c.toNat < 128 ∧ Dr.delim (c.toNat : Int) = false ∧ (c.toNat : Int) ≠ 92 := by decide +kernel
theorem Ro.name_lf : ∀ n : Fin 128,Wt.name (n.val : Int) ≠ [108,105,110,101,102,101,101,100] := by decide +kernel
theorem Ro.name_range {n : Int} (h : Wt.name n ≠ []) : 0 ≤ n ∧ n < 128 := by
 unfold Wt.name at h;by_cases h1 : n = 0 ∨ n = 7 ∨ n = 8 ∨ n = 9 ∨ n = 10 ∨ n = 11 ∨ n = 12 ∨ n = 13 ∨ n = 27 ∨ n = 32 ∨ n = 127
 · omega
 · exfalso;apply h;repeat' (rw [if_neg (by omega)])
theorem Ro.named_x (u : List UInt8) : Dr.named (120 :: u) = none := by
 unfold Dr.named;rw [List.find?_eq_none.2]
 · rfl
 · intro n hn hd;have hlt := List.mem_range.1 hn;have he := of_decide_eq_true hd;rcases Ro.names ⟨n,hlt⟩ with h | ⟨b,v,h,_,_,_,h120⟩
   · have h : Wt.name (n : Int) = [] := h;rw [h] at he; cases he
   · have h : Wt.name (n : Int) = b :: v := h;rw [h] at he;simp only [List.cons.injEq] at he;exact h120 he.1
theorem Ro.Rd.chr {n : Int} (h : Ru.okR n) : Ro.Rd (Wt.chr true n) (Dr.leaf 4 n []) := by
 have go : ∀ (U : List UInt8),(∀ r,Ro.ends r → Dr.char (U ++ r) = some (n,r)) → Ro.Rd (35 :: 92 :: U) (Dr.leaf 4 n []) := by
  intro U hU;refine Ro.of_hash (by decide) (by decide) (fun r hr => .dDone ?_);unfold Dr.dk;rw [if_neg (by simp),if_neg (by rw [Dr.asc_bad 35 _ (by decide)]; simp),(Dr.asc 35 _ (by decide)).1,if_neg (by decide),if_neg (by decide),if_neg (by decide),if_neg (by
    intro e;have := congrArg (·[1]?) e
    simp at this),if_neg (by
    intro e;have := congrArg (·[1]?) e
    simp at this),if_pos (by rfl),show (35 :: 92 :: (U ++ r)).drop 2 = U ++ r from rfl,hU r hr]
 unfold Wt.chr;rw [if_neg (by decide)];by_cases hn : Wt.name n ≠ []
 · rw [if_pos hn];show Ro.Rd (35 :: 92 :: Wt.name n) _;refine go (Wt.name n) (fun r hr => ?_);obtain ⟨h0,h1⟩ := Ro.name_range hn;obtain ⟨k,rfl⟩ := Int.eq_ofNat_of_zero_le h0;have hk : k < 128 := by omega
   rcases Ro.names ⟨k,hk⟩ with e | ⟨b,u,e,e1,e2,e3,e4⟩
   · exact absurd e hn
   · have e : Wt.name (k : Int) = b :: u := e;have hby := Ro.name_bytes ⟨k,hk⟩;have hby : ∀ c ∈ Wt.name (k : Int),c.toNat < 128 ∧ Dr.delim (c.toNat : Int) = false ∧ (c.toNat : Int) ≠ 92 := hby;have hlf : Wt.name (k : Int) ≠ [108,105,110,101,102,101,101,100] := Ro.name_lf ⟨k,hk⟩;have hnm : Dr.named (Wt.name (k : Int)) = some (k : Int) := Ro.named_all ⟨k,hk⟩ hn;rw [e] at hby hlf hnm ⊢;rw [List.cons_append,Ro.char_more b e1 e2 u r e3 hr (fun c hc => hby c (by simp [hc])) hlf,hnm]
 · rw [if_neg hn];by_cases ho : (Wt.odd n || Ch.blankB n) = true
   · rw [if_pos ho];have e : [35,92,120] ++ Wt.hex n.toNat = 35 :: 92 :: (120 :: Wt.hex n.toNat) := rfl;rw [e];refine go _ (fun r hr => ?_);have hx := Ro.hex_isX n.toNat n.toNat (Nat.le_refl _);rw [List.cons_append,Ro.char_more 120 (by decide) (by decide) (Wt.hex n.toNat) r (by
       intro e;have := Ro.hex_pos n.toNat;rw [e] at this
       simp at this) hr (fun c hc => by
       obtain ⟨d,hd,rfl⟩ := hx c hc;obtain ⟨_,_,a1,_,a2,a3⟩ := Ro.hx d hd
       exact ⟨a1,a2,a3⟩) (by intro e; simp only [List.cons.injEq] at e; exact absurd e.1 (by decide)),Ro.named_x]
     simp only;rw [if_pos (by decide),Ro.hex n h];rfl
   · rw [if_neg ho];show Ro.Rd (35 :: 92 :: Lib.encodeRune n) _;exact go (Lib.encodeRune n) (fun r hr => Ro.char_plain h hr)
theorem Ro.Rd.byte (x : UInt8) : Ro.Rd (Tx.dec x.toNat) (Dr.numT (false,x.toNat,1) (false,0,1)) := by
 have hok : ∀ n,n < 256 → Ro.ok n := fun n hn => by
  refine ⟨?_,?_⟩
  · unfold Tx.dec;rw [List.length_reverse];have := Tx.lo_len 8 n (by omega);omega
  · have := Nt.dig_len_le (n := n) (by omega);omega
 have h1 : Ro.Snd false x.toNat 1 := ⟨hok _ x.toNat_lt,hok 1 (by decide),by decide,by simp,fun _ => rfl⟩;have h2 : Ro.Snd false 0 1 := ⟨hok 0 (by decide),hok 1 (by decide),by decide,by decide,fun _ => rfl⟩;have e : Wt.cnum false x.toNat 1 false 0 1 = Tx.dec x.toNat := by
  unfold Wt.cnum;rw [if_pos rfl,Wt.rat_mag];unfold Wt.mag;simp
 have hl : (Wt.cnum false x.toNat 1 false 0 1).length ≤ 16384 := by
  rw [e];have := (hok _ x.toNat_lt).1;exact this
 have := Ro.Rd.num h1 h2 hl;rwa [e] at this
theorem Ro.byteOf (x : UInt8) : Dr.byteOf (Dr.numT (false,x.toNat,1) (false,0,1)) = some x := by
 have hx := x.toNat_lt;show (if (3 : Int) = 3 ∧ Nt.val (Nt.dig 0) = 0 ∧ Nt.val (Nt.dig 1) = 1 ∧ Nt.val (Nt.dig x.toNat) ≤ 255 ∧ (false = true → Nt.val (Nt.dig x.toNat) = 0) then some (UInt8.ofNat (Nt.val (Nt.dig x.toNat))) else none) = some x;rw [if_pos]
 · simp [Nt.val_dig]
 · refine ⟨rfl,?_,?_,?_,?_⟩
   · show Nt.val (Nt.dig 0) = 0; rw [Nt.val_dig]
   · show Nt.val (Nt.dig 1) = 1; rw [Nt.val_dig]
   · show Nt.val (Nt.dig x.toNat) ≤ 255; rw [Nt.val_dig]; omega
   · intro h; cases h
theorem Ro.ends41 (r : List UInt8) : Ro.ends (41 :: r) := .inr ⟨41,r,rfl,by decide,by decide⟩
theorem Ro.ends32 (r : List UInt8) : Ro.ends (32 :: r) := .inr ⟨32,r,rfl,by decide,by decide⟩
theorem Ro.bk32 (t : List UInt8) : Dr.bk (32 :: t) = .go t := by
 unfold Dr.bk;rw [if_neg (by simp),if_neg (by rw [Dr.asc_bad 32 t (by decide)]; simp),(Dr.asc 32 t (by decide)).1,if_pos (by decide),(Dr.asc 32 t (by decide)).2];rfl
theorem Ro.stop41 (f : Bool) (r : List UInt8) : Dr.pk 41 f (41 :: r) = .stop r := by
 unfold Dr.pk;rw [if_neg (by simp),if_neg (by rw [Dr.asc_bad 41 _ (by decide)]; simp),(Dr.asc 41 _ (by decide)).1,if_pos (by decide),(Dr.asc 41 _ (by decide)).2];rfl
theorem Ro.bk41 (r : List UInt8) : Dr.bk (41 :: r) = .stop := Dr.bk_stop 41 _ (by decide) (by decide) (by decide) (by decide)
theorem Ro.raws : ∀ (f : Bool) (bs r : List UInt8),∃ ts,Dr.Rel (.items 41 (Wt.raws f bs ++ 41 :: r)) (.list ts r false) ∧ Dr.bytesOf ts = some bs
 | f,[],r => ⟨[],.iStop (.bStop (Ro.bk41 r)) (Ro.stop41 true r),rfl⟩
 | f,x :: xs,r => by
   obtain ⟨ts,h1,h2⟩ := Ro.raws false xs r;have hends : Ro.ends (Wt.raws false xs ++ 41 :: r) := by
    cases xs with
    | nil => exact Ro.ends41 r
    | cons y ys => rw [Wt.raws]; exact Ro.ends32 _
   obtain ⟨d1,d2,d3⟩ := Ro.Rd.byte x _ hends;refine ⟨Dr.numT (false,x.toNat,1) (false,0,1) :: ts,?_,?_⟩
   · have hb : Dr.Rel (.blanks (Wt.raws f (x :: xs) ++ 41 :: r)) (.skip (Tx.dec x.toNat ++ (Wt.raws false xs ++ 41 :: r))) := by
      rw [Wt.raws];cases f with
      | true => rw [if_pos rfl,List.nil_append,List.append_assoc]; exact .bStop d2
      | false =>
        rw [if_neg (by decide)];rw [show [32] ++ (Tx.dec x.toNat ++ Wt.raws false xs) ++ 41 :: r = 32 :: (Tx.dec x.toNat ++ (Wt.raws false xs ++ 41 :: r)) by simp];exact .bGo (Ro.bk32 _) (.bStop d2)
     have := Dr.Rel.iItem3 hb (d3 true) d1 h1;exact this
   · rw [Dr.bytesOf,Ro.byteOf,h2];rfl
theorem Ro.Rd.bytes (bs : List UInt8) : Ro.Rd ([35,118,117,56,40] ++ (Wt.raws true bs ++ [41])) (Dr.bytesT bs) := by
 rw [show [35,118,117,56,40] ++ (Wt.raws true bs ++ [41]) = 35 :: 118 :: ([117,56,40] ++ (Wt.raws true bs ++ [41])) from rfl];refine Ro.of_hash (by decide) (by decide) (fun r hr => ?_);obtain ⟨ts,h1,h2⟩ := Ro.raws true bs r;refine .dByt3 (r := Wt.raws true bs ++ 41 :: r) ?_ h1 h2;have e : 35 :: 118 :: ([117,56,40] ++ (Wt.raws true bs ++ [41]) ++ r) = [35,118,117,56,40] ++ (Wt.raws true bs ++ 41 :: r) := by simp
 rw [e];unfold Dr.dk;rw [if_neg (by simp),if_neg (by rw [show [35,118,117,56,40] ++ (Wt.raws true bs ++ 41 :: r) = 35 :: ([118,117,56,40] ++ (Wt.raws true bs ++ 41 :: r)) from rfl,Dr.asc_bad 35 _ (by decide)]; simp),show [35,118,117,56,40] ++ (Wt.raws true bs ++ 41 :: r) = 35 :: ([118,117,56,40] ++ (Wt.raws true bs ++ 41 :: r)) from rfl,(Dr.asc 35 _ (by decide)).1,if_neg (by decide),if_neg (by decide),if_neg (by decide),if_neg (by
   intro e;have := congrArg (·[1]?) e
   simp at this),if_pos (by rfl)]
 rfl
end Go.Proofs.YteklhapffplohaaGreatDoor
