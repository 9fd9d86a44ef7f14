/-
  nat.Text in tens. exact.ratText in tens. exact.check of two sound numbers.
-/
import Derived.Laws.IdiomStrings
import Derived.Test.YteklhapffplohaaGreatDoorProg
import Derived.WalkKit
import Derived.WalkSpells
import Derived.WalkLawsBesides
import Derived.Handy
import Derived.BigCall
import Derived.BigQuiet
import Derived.Lib.Hide
import Derived.WalkSmall
import Derived.Deep.LoopGhost
import Derived.Test.YteklhapffplohaaGreatDoorVm
import Derived.Test.YteklhapffplohaaGreatDoorVk
import Derived.Test.YteklhapffplohaaGreatDoorVg
import Derived.Test.YteklhapffplohaaGreatDoorVl
import Derived.Test.YteklhapffplohaaGreatDoorVa
import Derived.Test.YteklhapffplohaaGreatDoorVd
set_option linter.unusedVariables false
set_option linter.unusedSimpArgs false
namespace Go.Proofs.YteklhapffplohaaGreatDoor
open Go.RowKit
end Go.Proofs.YteklhapffplohaaGreatDoor
namespace Go.Proofs.YteklhapffplohaaGreatDoor
open Go.RowKit
end Go.Proofs.YteklhapffplohaaGreatDoor
namespace Go.Proofs.YteklhapffplohaaGreatDoor
open Go.RowKit
def Rt.SoundAt (w : World) (v : Value) : Prop := ∀ w',Below w.heap.size w w' → Calls Tryz.prog 46 #[v] w' fun e w'' => e = .returned (.bool true) ∧ Below w'.heap.size w' w''
theorem Rt.SoundAt.of {w : World} {v : Value} {s s2 : Bool} {t b t2 b2 : List Nat} (h : Rt.GN w v s t b s2 t2 b2) (hs : Rt.soundN s t b s2 t2 b2 = true) : Rt.SoundAt w v := fun w' hb => by
 have := Rt.Sound_any s t b s2 t2 b2 v w' (h.below hb (Nat.le_refl _));rwa [hs] at this
end Go.Proofs.YteklhapffplohaaGreatDoor
namespace Go.Proofs.YteklhapffplohaaGreatDoor
open Go.RowKit
end Go.Proofs.YteklhapffplohaaGreatDoor
namespace Go.Proofs.YteklhapffplohaaGreatDoor
open Go.RowKit
set_option maxHeartbeats 1000000
set_option maxRecDepth 100000
theorem Sm.nat (ws : List Nat) (v v2 : Value) (w : World) (hs : ws.length ≤ 4611686018427387904) (h : Nt.In w v ws) (h2 : Nt.In w v2 ws) :
 Calls Tryz.prog 55 #[v,v2] w fun e w' => e = .returned (.bool true) ∧ Below w.heap.size w w' := by
 obtain ⟨ad,cap,rfl⟩ := h.slice
 obtain ⟨ad2,cap2,rfl⟩ := h2.slice
 have H := Lib.hid h; clear h
 have H2 := Lib.hid h2; clear h2
 go_enter Tryz.func55,Tryz.ntmps55
 go_wp2
 go_loopw [5] (fun i wr => ∃ k : Nat,i = .int .i64 k ∧ k ≤ ws.length ∧ Below w.heap.size w wr) (fun i _ => ws.length - (intOf i).toNat)
 case atStart => exact ⟨0,rfl,Nat.zero_le _,Below.refl _ _⟩
 case round =>
  obtain ⟨k,rfl,hk,hb⟩ := hrel
  by_cases hlt : k < ws.length
  · obtain ⟨b,off,had,_,_,hbl,hc⟩ := H.out.at (by omega);obtain ⟨b2,off2,had2,_,_,hbl2,hc2⟩ := H2.out.at (by omega);subst had;subst had2;have c0 := (hb.cell (p := ⟨b,off + k,none⟩) hbl).trans (hc k hlt);have c1 := (hb.cell (p := ⟨b2,off2 + k,none⟩) hbl2).trans (hc2 k hlt);clear hc hc2;generalize ws.getD k 0 = x at *;have HB := Lib.hid hb; clear hb;go_wp2;go_quiet (fail);have HB2 := Lib.hid (below_drewN HB.out nq);go_wp2;go_roundw;case rel => exact ⟨k + 1,by first | rfl | go_num | (simp; try omega),by omega,HB2.out⟩
    case measure => simp [intOf]; omega
  · have HB := Lib.hid hb; clear hb;go_wp2;go_ret;exact ⟨rfl,HB.out⟩
end Go.Proofs.YteklhapffplohaaGreatDoor
namespace Go.Proofs.YteklhapffplohaaGreatDoor
open Go.RowKit
end Go.Proofs.YteklhapffplohaaGreatDoor
namespace Go.Proofs.YteklhapffplohaaGreatDoor
open Go.RowKit
theorem Tx.N_slice {w : World} {v : Value} {n : Nat} (h : Nt.N w v n) : ∃ L a c,v = .slice a L c ∧ L = (Nt.dig n).length := by
 obtain ⟨a,c,hv⟩ := Nt.In.slice h;exact ⟨_,a,c,hv,rfl⟩
theorem Tx.one_in {w : World} {a : Option Addr} {M c b : Nat} (h : Nt.N w (.slice a M c) b) (hM : M = (Nt.dig b).length) (hb : 0 < b) : ∃ S : Bool,S = decide (b = 1) ∧ ∀ w',Below w.heap.size w w' → (S = false ∧ ((M : Int) == 1) = false) ∨ ∃ bb off,a = some ⟨bb,off,none⟩ ∧ M = 1 ∧ w'.cell? ⟨bb,off,none⟩ = some (.int .u32 b) ∧ ((b : Int) == 1) = S := by
 obtain ⟨S,hS,hone⟩ := Rt.isOne h hb;refine ⟨S,hS,fun w' hbw => ?_⟩;rcases hone with ⟨ad,cap,e,e2,e3⟩ | ⟨bb,off,cap,e,e2,e3⟩
 · rw [← hM] at e2;exact .inl ⟨e3,e2⟩
 · simp only [Value.slice.injEq] at e;obtain ⟨rfl,rfl,rfl⟩ := e;rcases h with ⟨e,_⟩ | ⟨a,c,e,e4⟩ | ⟨h0,b3,off3,cap3,e,hc,hlt,hcell⟩
   · cases e
   · simp only [Value.slice.injEq] at e;omega
   · simp only [Value.slice.injEq,Option.some.injEq,Addr.mk.injEq] at e;obtain ⟨⟨rfl,rfl,_⟩,_,_⟩ := e;exact .inr ⟨bb,off,rfl,rfl,(hbw.cell (p := ⟨bb,off,none⟩) hlt).trans e2,e3⟩
set_option maxHeartbeats 2000000
set_option maxRecDepth 1000000
theorem Tx.Whole_snd (s : Bool) (t b : Nat) (s2 : Bool) (t2 b2 : Nat) (v : Value) (w : World) (h : Rt.Q w v s t b s2 t2 b2) (K : Rt.SoundAt w v) (hb : 0 < b) :
 Calls Tryz.prog 99 #[v] w fun e w' => e = .returned (.bool (decide (t2 = 0) && decide (b = 1))) ∧ Below w.heap.size w w' := by
 obtain ⟨tv,bv,tv2,bv2,rfl,h1,h2,h3,h4⟩ := h
 obtain ⟨L1,a1,c1,rfl,hL1⟩ := Tx.N_slice h1
 obtain ⟨L2,a2,c2,rfl,hL2⟩ := Tx.N_slice h2
 obtain ⟨L3,a3,c3,rfl,hL3⟩ := Tx.N_slice h3
 obtain ⟨L4,a4,c4,rfl,hL4⟩ := Tx.N_slice h4
 obtain ⟨S,hS,hone⟩ := Tx.one_in h2 hL2 hb
 have HB0 : Hid (∀ o,Below w.heap.size w (w.alloc o)) := Lib.hid (fun o => (Below.refl _ _).alloc (Nat.le_refl _) o)
 have hq : (w.alloc (.cells #[.bool s,.slice a1 L1 c1,.slice a2 L2 c2,.bool s2,.slice a3 L3 c3,.slice a4 L4 c4] 26)).heap[w.heap.size]? = some (.cells #[.bool s,.slice a1 L1 c1,.slice a2 L2 c2,.bool s2,.slice a3 L3 c3,.slice a4 L4 c4] 26 (0,0)) := heap_alloc_new w _
 have hz : (w.alloc (.cells #[.bool s,.slice a1 L1 c1,.slice a2 L2 c2,.bool s2,.slice a3 L3 c3,.slice a4 L4 c4] 26)).heap.size = w.heap.size + 1 := by simp
 have HQ := Lib.hid (And.intro hq hz)
 have HK := Lib.hid K
 have HONE := Lib.hid hone
 have h03 : (t2 = 0 ∧ L3 = 0) ∨ (t2 ≠ 0 ∧ ((L3 : Int) == 0) = false) := by
  rcases Nat.eq_zero_or_pos t2 with h0 | h0
  · exact .inl ⟨h0,by rw [hL3,h0,Nt.dig_zero]; rfl⟩
  · have := Nt.dig_len_pos.2 h0;exact .inr ⟨by omega,beq_eq_false_iff_ne.2 (by omega)⟩
 have hR : ∃ R : Bool,(decide (t2 = 0) && S) = R := ⟨_,rfl⟩
 rw [← hS]
 obtain ⟨R,hR⟩ := hR
 rw [hR]
 have HR := Lib.hid hR
 clear hR hS h1 h2 h3 h4 hL1 hL2 hL3 hL4 hone hq hz K
 go_enter Tryz.func99,Tryz.ntmps99
 go_wp2_with fail
 refine (HK.out _ (HB0.out _)).mono ?_
 rintro x w1 ⟨rfl,hb1⟩
 have HB1 := Lib.hid ((HB0.out _).trans (hb1.mono (HB0.out _).size))
 obtain ⟨e0,e1,e2,e3,e4,e5⟩ := Rt.cells6 ((hb1.block w.heap.size (by have := HQ.out.2; omega)).trans HQ.out.1)
 clear hb1
 rcases h03 with ⟨h0,rfl⟩ | ⟨h0,h00⟩
 · have hd : decide (t2 = 0) = true := decide_eq_true h0;rcases HONE.out _ HB1.out with ⟨rfl,hM⟩ | ⟨bb,off,rfl,rfl,c3,hb1⟩
   · have hans : R = false := by rw [← HR.out,hd]; rfl
     subst hans;clear hd h0;go_wp2_with fail;go_ret;exact ⟨rfl,HB1.out⟩
   · have hans : R = S := by rw [← HR.out,hd]; rfl
     subst hans;clear hd h0;cases R
     · go_wp2_with fail;go_ret;exact ⟨rfl,HB1.out⟩
     · go_wp2_with fail;go_ret;exact ⟨rfl,HB1.out⟩
 · have hd : decide (t2 = 0) = false := decide_eq_false h0;have hans : R = false := by rw [← HR.out,hd]; rfl
   subst hans;clear hd h0;go_wp2_with fail;go_ret;exact ⟨rfl,HB1.out⟩
end Go.Proofs.YteklhapffplohaaGreatDoor
namespace Go.Proofs.YteklhapffplohaaGreatDoor
open Go.RowKit
end Go.Proofs.YteklhapffplohaaGreatDoor
namespace Go.Proofs.YteklhapffplohaaGreatDoor
open Go.RowKit
structure Rt.Snd (s : Bool) (t b : Nat) : Prop where
 l1 : (Nt.dig t).length ≤ 512
 l2 : (Nt.dig b).length ≤ 512
 pos : 0 < b
 cop : Nat.gcd t b = 1
 sgn : t = 0 → s = false
theorem Rt.Snd.sound {s : Bool} {t b : Nat} (h : Rt.Snd s t b) : Rt.sound s (Nt.dig t) (Nt.dig b) = true := by
 unfold Rt.sound;rw [Nt.sound_dig,Nt.sound_dig,Nt.val_dig,Nt.val_dig];have hb := Nt.dig_len_pos.2 h.pos;have h1 := h.l1;have h2 := h.l2;have h3 := h.cop;have h4 : (!(decide ((Nt.dig t).length = 0) && s)) = true := by
  rcases Nat.eq_zero_or_pos t with h0 | h0
  · rw [h.sgn h0]; simp
  · have := Nt.dig_len_pos.2 h0;have h5 : ¬ (Nt.dig t).length = 0 := by omega
    simp [h5]
 have h5 : ¬ (Nt.dig b).length = 0 := by omega
 rw [h4];simp [h1,h2,h3,h5]
theorem Rt.GN.of_Q {w : World} {v : Value} {s s2 : Bool} {t b t2 b2 : Nat} (h : Rt.Q w v s t b s2 t2 b2) (h1 : Rt.Snd s t b) (h2 : Rt.Snd s2 t2 b2) : Rt.GN w v s (Nt.dig t) (Nt.dig b) s2 (Nt.dig t2) (Nt.dig b2) := by
 obtain ⟨tv1,bv1,tv2,bv2,e,hn1,hd1,hn2,hd2⟩ := h;exact ⟨⟨tv1,bv1,tv2,bv2,e,hn1,hd1,hn2,hd2⟩,⟨Nt.dig_wd _,Nt.dig_wd _,Nat.le_trans h1.l1 (by decide),Nat.le_trans h1.l2 (by decide)⟩,⟨Nt.dig_wd _,Nt.dig_wd _,Nat.le_trans h2.l1 (by decide),Nat.le_trans h2.l2 (by decide)⟩⟩
theorem Rt.SoundAt.of_Q {w : World} {v : Value} {s s2 : Bool} {t b t2 b2 : Nat} (h : Rt.Q w v s t b s2 t2 b2) (h1 : Rt.Snd s t b) (h2 : Rt.Snd s2 t2 b2) : Rt.SoundAt w v :=
 Rt.SoundAt.of (Rt.GN.of_Q h h1 h2) (by unfold Rt.soundN; rw [h1.sound,h2.sound]; rfl)
def Dr.PostSm (o : Option Nat) (w : World) (x : Ending) (w' : World) : Prop := ∃ n e : Int,x = .returned (.tuple #[.int .i64 n,.int .i64 e]) ∧ Below w.heap.size w w' ∧ -9223372036854775808 ≤ n ∧ n ≤ 9223372036854775807 ∧ (match o with | some k => e = 0 ∧ n = (k : Int) ∧ k ≤ 255 | none => e ≠ 0 ∨ n < 0 ∨ 255 < n)
theorem Dr.PostSm.no {w w' : World} (n e : Int) (hb : Below w.heap.size w w') (h0 : -9223372036854775808 ≤ n) (h1 : n ≤ 9223372036854775807) (h : e ≠ 0 ∨ n < 0 ∨ 255 < n) : Dr.PostSm none w (.returned (.tuple #[.int .i64 n,.int .i64 e])) w' := ⟨n,e,rfl,hb,h0,h1,h⟩
theorem Dr.PostSm.yes {w w' : World} (k : Nat) (hb : Below w.heap.size w w') (h : k ≤ 255) : Dr.PostSm (some k) w (.returned (.tuple #[.int .i64 (k : Int),.int .i64 0])) w' := ⟨k,0,rfl,hb,by omega,by omega,rfl,rfl,h⟩
def Dr.smallO (s : Bool) (t b t2 : Nat) : Option Nat := if t2 = 0 ∧ b = 1 ∧ t ≤ 255 ∧ (s = true → t = 0) then some t else none
theorem Dr.small_none {s : Bool} {t b t2 : Nat} (h : ¬ (t2 = 0 ∧ b = 1)) : Dr.smallO s t b t2 = none := by
 unfold Dr.smallO;rw [if_neg];exact fun k => h ⟨k.1,k.2.1⟩
set_option maxHeartbeats 2000000
set_option maxRecDepth 1000000
theorem Dr.Small_form (v : Value) (w : World) (K : ∀ w',Below w.heap.size w w' → Calls Tryz.prog 46 #[v] w' fun e w'' => e = .returned (.bool false) ∧ Below w'.heap.size w' w'') (c : Array Value) (hv : v = .agg c) (hc : ∃ s a1 l1 c1 a2 l2 c2 s2 a3 l3 c3 a4 l4 c4,c = #[.bool s,.slice a1 l1 c1,.slice a2 l2 c2,.bool s2,.slice a3 l3 c3,.slice a4 l4 c4]) :
 Calls Tryz.prog 70 #[v] w (Dr.PostSm none w) := by
 obtain ⟨s,a1,l1,c1,a2,l2,c2,s2,a3,l3,c3,a4,l4,c4,rfl⟩ := hc
 subst hv
 have HB0 : Hid (∀ o,Below w.heap.size w (w.alloc o)) := Lib.hid (fun o => (Below.refl _ _).alloc (Nat.le_refl _) o)
 have HK := Lib.hid K
 clear K
 go_enter Tryz.func70,Tryz.ntmps70
 go_wp2_with fail
 refine (HK.out _ (HB0.out _)).mono ?_
 rintro x w1 ⟨rfl,hb1⟩
 have HE := Lib.hid ((HB0.out (.cells #[.bool s,.slice a1 l1 c1,.slice a2 l2 c2,.bool s2,.slice a3 l3 c3,.slice a4 l4 c4] 26)).trans (hb1.mono (HB0.out _).size))
 clear hb1
 go_wp2_with fail
 go_ret2
 exact Dr.PostSm.no 0 2 HE.out (by omega) (by omega) (.inl (by decide))
set_option maxHeartbeats 200000
set_option maxRecDepth 512
theorem Dr.words (t : Nat) : ∃ a0 a1 : Nat,a0 < 4294967296 ∧ a1 < 4294967296 ∧ (0 < (Nt.dig t).length → (Nt.dig t).getD 0 0 = a0) ∧ (1 < (Nt.dig t).length → (Nt.dig t).getD 1 0 = a1) ∧ ((Nt.dig t).length = 0 → t = 0) ∧ ((Nt.dig t).length = 1 → t = a0) ∧ ((Nt.dig t).length = 2 → t = a0 + 4294967296 * a1) ∧ (2 < (Nt.dig t).length → 18446744073709551616 ≤ t) := by
 have hv := Nt.val_dig t;have hw := Nt.dig_wd t;have hp : ∀ h : 0 < t,4294967296 ^ ((Nt.dig t).length - 1) ≤ t := fun h => Nt.dig_pow_le h;have h0 : (Nt.dig t).length ≠ 0 → 0 < t := fun h => Nt.dig_len_pos.1 (by omega);match hd : Nt.dig t with
 | [] =>
   rw [hd] at hv;exact ⟨0,0,by decide,by decide,fun h => absurd h (Nat.lt_irrefl 0),fun h => by simp at h,fun _ => hv.symm,fun h => by simp at h,fun h => by simp at h,fun h => by simp at h⟩
 | [x] =>
   rw [hd] at hv hw;have hx := hw x (by simp);have e : Nt.val [x] = x := by simp [Nt.val]
   exact ⟨x,0,hx,by decide,fun _ => rfl,fun h => by simp at h,fun h => by simp at h,fun _ => by omega,fun h => by simp at h,fun h => by simp at h⟩
 | [x,y] =>
   rw [hd] at hv hw;have hx := hw x (by simp);have hy := hw y (by simp);have e : Nt.val [x,y] = x + 4294967296 * y := by simp [Nt.val]
   exact ⟨x,y,hx,hy,fun _ => rfl,fun _ => rfl,fun h => by simp at h,fun h => by simp at h,fun _ => by omega,fun h => by simp at h⟩
 | x :: y :: z :: r =>
   rw [hd] at hw h0 hp;have hx := hw x (by simp);have hy := hw y (by simp);refine ⟨x,y,hx,hy,fun _ => rfl,fun _ => rfl,fun h => by simp at h,fun h => by simp at h,fun h => by simp at h,fun _ => ?_⟩;have h1 := hp (h0 (by simp));have h2 : 4294967296 ^ 2 ≤ 4294967296 ^ ((x :: y :: z :: r).length - 1) := Nat.pow_le_pow_right (by decide) (by simp);have h3 : (4294967296 : Nat) ^ 2 = 18446744073709551616 := by decide
   omega
theorem Dr.or64 (c m : Nat) (hc : c < 4294967296) (hm : m < 4294967296) : bits .or .u64 (c : Int) ((m : Int) * 4294967296) = ((c + 4294967296 * m : Nat) : Int) := by
 have hk : ∀ n : Int,0 ≤ n → n < 2 ^ 64 → IntKind.u64.wrap n = n := fun n h0 h1 => by rw [IntKind.wrap_u64]; omega
 rw [show (m : Int) * 4294967296 = ((m * 4294967296 : Nat) : Int) by omega,(bits_nat .u64 64 (by decide) hk c (m * 4294967296) (by omega) (by omega)).2];rw [Nat.or_comm,show (4294967296 : Nat) = 2 ^ 32 from rfl,← Nat.shiftLeft_eq,← Nat.shiftLeft_add_eq_or_of_lt (by omega),Nat.shiftLeft_eq];omega
theorem Dr.or0 (c : Nat) (hc : c < 4294967296) : bits .or .u64 0 (c : Int) = (c : Int) := by
 have hk : ∀ n : Int,0 ≤ n → n < 2 ^ 64 → IntKind.u64.wrap n = n := fun n h0 h1 => by rw [IntKind.wrap_u64]; omega
 have := (bits_nat .u64 64 (by decide) hk 0 c (by omega) (by omega)).2;rw [Nat.zero_or] at this;exact this
set_option maxHeartbeats 4000000
set_option maxRecDepth 1000000
theorem Dr.Small_snd (s : Bool) (t b : Nat) (s2 : Bool) (t2 b2 : Nat) (v : Value) (w : World) (h : Rt.Q w v s t b s2 t2 b2) (h1 : Rt.Snd s t b) (h2 : Rt.Snd s2 t2 b2) :
 Calls Tryz.prog 70 #[v] w (Dr.PostSm (Dr.smallO s t b t2) w) := by
 obtain ⟨O,hO⟩ : ∃ z,Dr.smallO s t b t2 = z := ⟨_,rfl⟩
 rw [hO]
 have HO := Lib.hid hO
 clear hO
 have K := Rt.SoundAt.of_Q h h1 h2
 have hsg := h1.sgn
 have hbp := h1.pos
 have KW := Lib.hid (fun w' (hb : Below w.heap.size w w') (hQ : Rt.Q w' v s t b s2 t2 b2) => Tx.Whole_snd s t b s2 t2 b2 v w' hQ (fun w'' hb'' => K w'' (hb.trans (hb''.mono hb.size))) hbp)
 obtain ⟨tv,bv,tv2,bv2,rfl,i1,i2,i3,i4⟩ := h
 have HQB := Lib.hid (fun w' (hb : Below w.heap.size w w') => show Rt.Q w' _ s t b s2 t2 b2 from ⟨tv,bv,tv2,bv2,rfl,i1.below hb (Nat.le_refl _),i2.below hb (Nat.le_refl _),i3.below hb (Nat.le_refl _),i4.below hb (Nat.le_refl _)⟩)
 obtain ⟨L1,a1,c1,rfl,hL1⟩ := Tx.N_slice i1
 obtain ⟨L2,a2,c2,rfl,hL2⟩ := Tx.N_slice i2
 obtain ⟨L3,a3,c3,rfl,hL3⟩ := Tx.N_slice i3
 obtain ⟨L4,a4,c4,rfl,hL4⟩ := Tx.N_slice i4
 have HB0 : Hid (∀ o,Below w.heap.size w (w.alloc o)) := Lib.hid (fun o => (Below.refl _ _).alloc (Nat.le_refl _) o)
 have hq : (w.alloc (.cells #[.bool s,.slice a1 L1 c1,.slice a2 L2 c2,.bool s2,.slice a3 L3 c3,.slice a4 L4 c4] 26)).heap[w.heap.size]? = some (.cells #[.bool s,.slice a1 L1 c1,.slice a2 L2 c2,.bool s2,.slice a3 L3 c3,.slice a4 L4 c4] 26 (0,0)) := heap_alloc_new w _
 have hz : (w.alloc (.cells #[.bool s,.slice a1 L1 c1,.slice a2 L2 c2,.bool s2,.slice a3 L3 c3,.slice a4 L4 c4] 26)).heap.size = w.heap.size + 1 := by simp
 have HQ := Lib.hid (And.intro hq hz)
 have HK := Lib.hid K
 obtain ⟨x0,x1,hx0,hx1,q0,q1,q2,q3,q4,q5⟩ := Dr.words t
 rw [← hL1] at q0 q1 q2 q3 q4 q5
 have HIN := Lib.hid (show ∀ w',Below w.heap.size w w' → Nt.In w' (.slice a1 L1 c1) (Nt.dig t) from fun w' hb => i1.below hb (Nat.le_refl _))
 have HL1 := Lib.hid hL1
 have HWD := Lib.hid (And.intro q0 (And.intro q1 (And.intro q2 (And.intro q3 (And.intro q4 q5)))))
 have HSG := Lib.hid hsg
 have hL1b : L1 ≤ 512 := by rw [hL1]; exact h1.l1
 clear i1 i2 i3 i4 hL1 hL2 hL3 hL4 hq hz K q0 q1 q2 q3 q4 q5 hsg h1 h2 hbp
 go_enter Tryz.func70,Tryz.ntmps70
 go_wp2_with fail
 refine (HK.out _ (HB0.out _)).mono ?_
 rintro x w1 ⟨rfl,hb1⟩
 have HB1 := Lib.hid ((HB0.out _).trans (hb1.mono (HB0.out _).size))
 have hq1 := (hb1.block w.heap.size (by have := HQ.out.2; omega)).trans HQ.out.1
 have HQ1 := Lib.hid (And.intro hq1 (show w.heap.size < w1.heap.size from by have := hb1.size; have := HQ.out.2; omega))
 obtain ⟨e0,e1,e2,e3,e4,e5⟩ := Rt.cells6 hq1
 clear hb1 hq1
 go_wp2_with fail
 refine (KW.out _ HB1.out (HQB.out _ HB1.out)).mono ?_
 rintro x w2 ⟨rfl,hb2⟩
 have HB2 := Lib.hid (HB1.out.trans (hb2.mono HB1.out.size))
 have hq2 := (hb2.block w.heap.size HQ1.out.2).trans HQ1.out.1
 clear hb2 e0 e1 e2 e3 e4 e5
 obtain ⟨e0,e1,e2,e3,e4,e5⟩ := Rt.cells6 hq2
 clear hq2
 by_cases hW : t2 = 0 ∧ b = 1
 · have hW1 : (decide (t2 = 0) && decide (b = 1)) = true := by rw [decide_eq_true hW.1,decide_eq_true hW.2]; rfl
   have HOO := Lib.hid (show O = if t ≤ 255 ∧ (s = true → t = 0) then some t else none from by rw [← HO.out]; unfold Dr.smallO; simp only [hW.1,hW.2,true_and]);rw [hW1];clear hW hW1;go_wp2_with fail;go_loop [4,17] (fun v4 v17 => ∃ k u : Nat,v17 = .int .i64 (k : Int) ∧ v4 = .int .u64 (u : Int) ∧ k ≤ L1 ∧ ((k = 0 ∧ u = 0) ∨ (k = 1 ∧ u = x0) ∨ (k = 2 ∧ u = x0 + 4294967296 * x1))) (fun _ v17 => L1 - (intOf v17).toNat);case atStart => exact ⟨0,0,rfl,rfl,Nat.zero_le _,.inl ⟨rfl,rfl⟩⟩
   case round =>
    obtain ⟨k,u,rfl,rfl,hk,hku⟩ := hrel;have HI2 := Lib.hid (HIN.out w2 HB2.out);by_cases hlt : k < L1
    · rcases HI2.out with ⟨e,_⟩ | ⟨_,_,e,_⟩ | ⟨h0,b3,off3,cap3,e,hc,hblt,hcell⟩
      · simp only [Value.slice.injEq] at e; omega
      · simp only [Value.slice.injEq] at e; omega
      simp only [Value.slice.injEq] at e;obtain ⟨rfl,hLL,_⟩ := e;clear hLL;have hce := hcell k (by rw [← HL1.out]; exact hlt);clear hcell hc hblt h0;rcases hku with ⟨rfl,rfl⟩ | ⟨rfl,rfl⟩ | ⟨rfl,rfl⟩
      · have hlt2 : (0 : Int) < (L1 : Int) := by omega
        rw [HWD.out.1 hlt,Nat.add_zero] at hce;go_wp2_with fail;refine ⟨⟨1,x0,rfl,by rw [Dr.or0 x0 hx0],by omega,.inr (.inl ⟨rfl,rfl⟩)⟩,?_⟩;show L1 - 1 < L1 - 0;omega
      · have hlt2 : (1 : Int) < (L1 : Int) := by omega
        rw [HWD.out.2.1 hlt] at hce;go_wp2_with fail;refine ⟨⟨2,u + 4294967296 * x1,rfl,?_,by omega,.inr (.inr ⟨rfl,rfl⟩)⟩,?_⟩
        · first
           | rw [Dr.or64 u x1 hx0 hx1]
           | (trace_state; sorry)
        · show L1 - 2 < L1 - 1;omega
      · have hlt2 : (2 : Int) < (L1 : Int) := by omega
        have hbig := HWD.out.2.2.2.2.2 hlt;have hOn : O = none := by
         rw [HOO.out,if_neg];intro h;omega
        subst hOn;clear hbig;go_wp2_with fail;go_ret2;exact Dr.PostSm.no 0 4 HB2.out (by omega) (by omega) (.inl (by decide))
    · obtain rfl : k = L1 := by omega
      have hw := HWD.out;have htu : t = u := by
       rcases hku with ⟨rfl,rfl⟩ | ⟨rfl,rfl⟩ | ⟨rfl,rfl⟩
       · exact hw.2.2.1 rfl
       · exact hw.2.2.2.1 rfl
       · exact hw.2.2.2.2.1 rfl
      have hub : u < 18446744073709551616 := by
       rcases hku with ⟨rfl,rfl⟩ | ⟨rfl,rfl⟩ | ⟨rfl,rfl⟩
       · decide
       · omega
       · omega
      have hsg := HSG.out;have hOO := HOO.out;rw [htu] at hsg hOO;clear hw hku htu hlt hk HWD HOO HSG HI2 HIN HL1 hL1b;rcases Nat.lt_trichotomy u 9223372036854775808 with h1 | h1 | h1
      · have t1 : decide ((9223372036854775808 : Int) < (u : Int)) = false := decide_eq_false (by omega);have t2' : ((u : Int) == 9223372036854775808) = false := beq_eq_false_iff_ne.2 (by omega);have t3 : ¬ (9223372036854775808 : Int) < (u : Int) := by omega
        cases s with
        | true =>
          have hu0 : u ≠ 0 := fun h => by have := hsg h; cases this
          have hOn : O = none := by
           rw [hOO,if_neg];intro h;exact hu0 (h.2 rfl)
          subst hOn;have n1 : IntKind.u64.wrap (-(u : Int)) = 18446744073709551616 - (u : Int) := by rw [IntKind.wrap_u64]; omega
          have n2 : IntKind.i64.wrap (18446744073709551616 - (u : Int)) = -(u : Int) := by rw [IntKind.wrap_i64]; omega
          clear hOO hsg;go_wp2_with fail;first
           | (go_ret2; exact Dr.PostSm.no (-(u : Int)) 0 HB2.out (by omega) (by omega) (.inr (.inl (by omega))))
           | (trace_state; sorry)
        | false =>
          have n1 : IntKind.i64.wrap (u : Int) = (u : Int) := by rw [IntKind.wrap_i64]; omega
          by_cases h5 : u ≤ 255
          · rw [if_pos ⟨h5,by simp⟩] at hOO;subst hOO;clear hsg;go_wp2_with fail;first
             | (go_ret2; exact Dr.PostSm.yes u HB2.out h5)
             | (trace_state; sorry)
          · rw [if_neg (fun h => h5 h.1)] at hOO;subst hOO;clear hsg;go_wp2_with fail;first
             | (go_ret2; exact Dr.PostSm.no (u : Int) 0 HB2.out (by omega) (by omega) (.inr (.inr (by omega))))
             | (trace_state; sorry)
      · subst h1;rw [if_neg (fun h => by omega)] at hOO;subst hOO;cases s with
        | true =>
          have n1 : IntKind.u64.wrap (-9223372036854775808) = 9223372036854775808 := by rw [IntKind.wrap_u64]; omega
          have n2 : Go.RowKit.wrap64 9223372036854775808 = -9223372036854775808 := by unfold Go.RowKit.wrap64; decide
          clear hsg;go_wp2_with fail;first
           | (go_ret2; exact Dr.PostSm.no (-9223372036854775808) 0 HB2.out (by omega) (by omega) (.inr (.inl (by omega))))
           | (trace_state; sorry)
        | false =>
          clear hsg;go_wp2_with fail;go_ret2;exact Dr.PostSm.no 0 4 HB2.out (by omega) (by omega) (.inl (by decide))
      · have t1 : decide ((9223372036854775808 : Int) < (u : Int)) = true := decide_eq_true (by omega);have t3 : (9223372036854775808 : Int) < (u : Int) := by omega
        rw [if_neg (fun h => by omega)] at hOO;subst hOO;clear hsg;go_wp2_with fail;go_ret2;exact Dr.PostSm.no 0 4 HB2.out (by omega) (by omega) (.inl (by decide))
 · have hW1 : (decide (t2 = 0) && decide (b = 1)) = false := by
    cases hd : (decide (t2 = 0) && decide (b = 1)) with
    | false => rfl
    | true =>
      simp only [Bool.and_eq_true,decide_eq_true_eq] at hd;exact absurd hd hW
   have hOn : O = none := by rw [← HO.out]; exact Dr.small_none hW
   subst hOn;rw [hW1];clear hW hW1;go_wp2_with fail;go_ret2;exact Dr.PostSm.no 0 10 HB2.out (by omega) (by omega) (.inl (by decide))
set_option maxHeartbeats 200000
set_option maxRecDepth 512
def Tr.SoundSays (t : Tr) : Prop := ∀ (S : Nat → Prop) (C : Array Value) (w0 w : World) (L d : Nat) (left : Int),Tr.In w0 S t (.agg C) → Tr.Tabs w0 → Below w0.heap.size w0 w → w0.heap.size ≤ L →
 w.heap[L]? = some (.cells #[.int .i64 left] 3 (0,0)) → 0 ≤ left → left ≤ 20000 → d ≤ 201 →
 Calls Tryz.prog 14 #[.agg C,.int .i64 d,.pointer (some ⟨L,0,none⟩)] w fun e w' => e = .returned (.bool (Tr.snd t d left).1) ∧ w'.heap[L]? = some (.cells #[.int .i64 (Tr.snd t d left).2] 3 (0,0)) ∧ Tr.But L w w'
theorem Tr.SoundSays.at {t : Tr} (H : Tr.SoundSays t) {S : Nat → Prop} {C : Array Value} {w0 w : World} {L d : Nat} {left : Int} (hI : Tr.In w0 S t (.agg C)) (hT : Tr.Tabs w0) (hb : Below w0.heap.size w0 w) (hL : w0.heap.size ≤ L)
 (hp : w.heap[L]? = some (.cells #[.int .i64 left] 3 (0,0))) (h0 : 0 ≤ left) (h1 : left ≤ 20000) (hd : d ≤ 200) :
 Calls Tryz.prog 14 #[.agg C,.int .i64 ((d : Int) + 1),.pointer (some ⟨L,0,none⟩)] w fun e w' => e = .returned (.bool (Tr.snd t (d + 1) left).1) ∧ w'.heap[L]? = some (.cells #[.int .i64 (Tr.snd t (d + 1) left).2] 3 (0,0)) ∧ Tr.But L w w' := by
 have := H S C w0 w L (d + 1) left hI hT hb hL hp h0 h1 (by omega)
 rwa [show ((d + 1 : Nat) : Int) = (d : Int) + 1 by omega] at this
set_option maxHeartbeats 8000000
set_option maxRecDepth 1000000
theorem Tr.sound_step (t : Tr) (IH : ∀ u,Tr.size u < Tr.size t → Tr.SoundSays u) : Tr.SoundSays t := by
 intro S C w0 w L d left hI hT hb hL hp hl0 hl1 hd;obtain ⟨h0,li0⟩ := t;rw [Tr.In_mk] at hI;obtain ⟨v3,v4,v6,v7,v9,v10,hC,hH,hS⟩ := hI;obtain rfl : C = Tr.cells h0 v3 v4 v6 v7 v9 v10 := by injection hC
 clear hC;have hLw : L < w.heap.size := (Array.getElem?_eq_some_iff.1 hp).1;obtain ⟨W,hW⟩ : ∃ W,w.alloc (.cells (Tr.cells h0 v3 v4 v6 v7 v9 v10) 30) = W := ⟨_,rfl⟩;have q0 : W.heap[w.heap.size]? = some (.cells (Tr.cells h0 v3 v4 v6 v7 v9 v10) 30 (0,0)) := by rw [← hW]; exact heap_alloc_new w _
 have qL : W.heap[L]? = some (.cells #[.int .i64 left] 3 (0,0)) := by rw [← hW]; exact (Lib.alloc_old _ _ _ hLw).trans hp
 have hbt0 : Tr.But L w W := by rw [← hW]; exact (Tr.But.refl L w).alloc _
 have hzW : w.heap.size < W.heap.size := (Array.getElem?_eq_some_iff.1 q0).1;have HIH := Lib.hid IH;have HT := Lib.hid hT;have HB := Lib.hid hb;have HGEO := Lib.hid (And.intro hL (And.intro hLw (And.intro hb.size (And.intro hd hzW))));have HST : Hid (∃ (h : Tr.Hd) (l : List Tr) (v3 v4 v6 v7 v9 v10 : Value) (lf : Int),Tr.Hd.In w0 S h v3 v4 v6 v7 v9 ∧ Tr.LIn w0 S l v10 ∧ (Tr.size (.mk h l) = Tr.size (.mk h0 li0) ∧ Tr.size (.mk h0 li0) ≤ Tr.size (.mk h0 li0)) ∧ W.heap[w.heap.size]? = some (.cells (Tr.cells h v3 v4 v6 v7 v9 v10) 30 (0,0)) ∧ W.heap[L]? = some (.cells #[.int .i64 lf] 3 (0,0)) ∧ 0 ≤ lf ∧ lf ≤ 20000 ∧ Tr.snd (.mk h l) d lf = Tr.snd (.mk h0 li0) d left ∧ Tr.But L w W) :=
  Lib.hid ⟨h0,li0,v3,v4,v6,v7,v9,v10,left,hH,hS,⟨rfl,Nat.le_refl _⟩,q0,qL,hl0,hl1,rfl,hbt0⟩
 have hdI : (d : Int) ≤ 201 := by omega
 unfold Tr.cells at hW ⊢;clear IH hT hb hL hp hl0 hl1 hLw q0 qL hbt0 hH hS hzW hd;go_enter Tryz.func14,Tryz.ntmps14;go_wp2_with fail;go_loopg [] (Tr.size (.mk h0 li0)) (fun g wr => ∃ (h : Tr.Hd) (l : List Tr) (v3 v4 v6 v7 v9 v10 : Value) (lf : Int),Tr.Hd.In w0 S h v3 v4 v6 v7 v9 ∧ Tr.LIn w0 S l v10 ∧ (Tr.size (.mk h l) = g ∧ g ≤ Tr.size (.mk h0 li0)) ∧ wr.heap[w.heap.size]? = some (.cells (Tr.cells h v3 v4 v6 v7 v9 v10) 30 (0,0)) ∧ wr.heap[L]? = some (.cells #[.int .i64 lf] 3 (0,0)) ∧ 0 ≤ lf ∧ lf ≤ 20000 ∧ Tr.snd (.mk h l) d lf = Tr.snd (.mk h0 li0) d left ∧ Tr.But L w wr);case atStart =>
  exact HST.out
 case round =>
  obtain ⟨h,l,u3,u4,u6,u7,u9,u10,lf,hH,hS,hg,hbox,hleft,hf0,hf1,hsnd,hbut⟩ := hrel;obtain ⟨wo,hwo⟩ : ∃ z,z = wr := ⟨_,rfl⟩;subst hwo;clear HST hW;obtain ⟨a10,c10,rfl,hcap10,_⟩ := hS.slice;obtain ⟨W1,hW1,p0,z0,p1,hL1,hbut1,hsz1,hoth1⟩ := Tr.storeInt hleft (lf - 1);have hbox1 : W1.heap[w.heap.size]? = some (.cells (Tr.cells h u3 u4 u6 u7 u9 (.slice a10 l.length c10)) 30 (0,0)) := (hoth1 _ (by have := HGEO.out; omega)).trans hbox;have hbB1 : Below w0.heap.size w0 W1 := HB.out.trans ((hbut.trans (hbut1)).below HGEO.out.1 HGEO.out.2.2.1);have KSH := Tr.shape_any h l.length u3 u4 u6 u7 u9 a10 c10 S W1 (hH.kept (Tr.Kept.all hbB1 (Nat.le_refl _))) (HT.out.below hbB1);have hbut01 := hbut.trans hbut1;have HH := Lib.hid hH;have HS := Lib.hid hS;have HG := Lib.hid hg;have HSND := Lib.hid hsnd;have HBUT := Lib.hid hbut01;have HL1 := Lib.hid hL1;have HBOX := Lib.hid hbox1;have HBB := Lib.hid hbB1;unfold Tr.cells at KSH;obtain ⟨d0,d1,d2,d3,d4,d5,d6,d7,d8,d9,d10⟩ := Dt.cells11 (show W1.heap[w.heap.size]? = some (.cells #[.int .i64 h.k,.int .i64 h.n,.bool h.s1,u3,u4,.bool h.s2,u6,u7,.string h.x,u9,.slice a10 l.length c10] 30 (0,0)) from hbox1);clear hH hS hg hbox hleft hsnd hbut hbut1 hL1 hoth1 hbox1 hbB1 hbut01 hsz1;by_cases hneg : lf - 1 < 0
  · have HF : Hid (Tr.snd (.mk h l) d lf = (false,lf - 1)) := Lib.hid (Tr.snd_bad (.inl hneg));go_wp2_with fail;go_ret;exact ⟨by rw [← HSND.out,HF.out]; rfl,by rw [← HSND.out,HF.out]; exact HL1.out,HBUT.out⟩
  by_cases hdeep : 200 < d
  · have HF : Hid (Tr.snd (.mk h l) d lf = (false,lf - 1)) := Lib.hid (Tr.snd_bad (.inr (.inl hdeep)));have hdeepI : (200 : Int) < (d : Int) := by omega
    go_wp2_with fail;go_ret;exact ⟨by rw [← HSND.out,HF.out]; rfl,by rw [← HSND.out,HF.out]; exact HL1.out,HBUT.out⟩
  have hdeepI : ¬ (200 : Int) < (d : Int) := by omega
  obtain ⟨SH,hSH⟩ : ∃ b,h.shape l.length = b := ⟨_,rfl⟩;rw [hSH] at KSH;have HSH := Lib.hid hSH;clear hSH;go_wp2_with fail;refine KSH.mono ?_;rintro y w2 ⟨rfl,hb2⟩;have hbut2 := HBUT.out.trans (Tr.But.of_below hb2 (Nat.le_refl _));have hL2 : w2.heap[L]? = some (.cells #[.int .i64 (lf - 1)] 3 (0,0)) := (hb2.block L ((Array.getElem?_eq_some_iff.1 HL1.out).1)).trans HL1.out;have hbox2 : w2.heap[w.heap.size]? = some (.cells (Tr.cells h u3 u4 u6 u7 u9 (.slice a10 l.length c10)) 30 (0,0)) := (hb2.block w.heap.size ((Array.getElem?_eq_some_iff.1 HBOX.out).1)).trans HBOX.out;have hbB2 : Below w0.heap.size w0 w2 := HBB.out.trans (hb2.mono HBB.out.size);have HL2 := Lib.hid hL2;have HBUT2 := Lib.hid hbut2;have HBOX2 := Lib.hid hbox2;have HBB2 := Lib.hid hbB2;clear d0 d1 d2 d3 d4 d5 d6 d7 d8 d9 d10;obtain ⟨d0,d1,d2,d3,d4,d5,d6,d7,d8,d9,d10⟩ := Dt.cells11 (show w2.heap[w.heap.size]? = some (.cells #[.int .i64 h.k,.int .i64 h.n,.bool h.s1,u3,u4,.bool h.s2,u6,u7,.string h.x,u9,.slice a10 l.length c10] 30 (0,0)) from hbox2);clear hb2 hbut2 hL2 hbox2 hbB2 p0 z0 p1 KSH;cases SH with
  | false =>
    have HF : Hid (Tr.snd (.mk h l) d lf = (false,lf - 1)) := Lib.hid (Tr.snd_bad (.inr (.inr HSH.out)));go_wp2_with fail;go_ret;exact ⟨by rw [← HSND.out,HF.out]; rfl,by rw [← HSND.out,HF.out]; exact HL2.out,HBUT2.out⟩
  | true =>
    have HNB : Hid (¬ (lf - 1 < 0 ∨ 200 < d ∨ h.shape l.length = false)) := Lib.hid (by
      rintro (h1 | h1 | h1)
      · omega
      · omega
      · rw [HSH.out] at h1; cases h1)
    by_cases hk8 : h.k = 8
    · have hlen := Tr.Hd.shape_pair HSH.out hk8;obtain ⟨a,b,rfl⟩ : ∃ a b,l = [a,b] := by
       match l,hlen with
       | [a,b],_ => exact ⟨a,b,rfl⟩
      have HF : Hid (Tr.snd (.mk h [a,b]) d lf = if (Tr.snd a (d + 1) (lf - 1)).1 = true then Tr.snd b d (Tr.snd a (d + 1) (lf - 1)).2 else (false,(Tr.snd a (d + 1) (lf - 1)).2)) := Lib.hid (Tr.snd_pair HNB.out hk8);obtain ⟨bL,oL,rfl,_,_,_,hbLlt,hSb,hall⟩ := Tr.Sl.at HS.out (by simp);obtain ⟨Ca,hIa,hMa⟩ := Tr.All.at _ _ _ hall 0 a rfl;obtain ⟨Cb,hIb,hMb⟩ := Tr.All.at _ _ _ hall 1 b rfl;have hMa : Tr.Mem w0 bL oL Ca := hMa;have hMb : Tr.Mem w0 bL (oL + 11) Cb := hMb;have hsz : Tr.size (.mk h [a,b]) = 1 + (Tr.size a + (Tr.size b + 0)) := by rw [Tr.size_mk,Tr.sizeL_cons,Tr.sizeL_cons,Tr.sizeL_nil]
      have KA := (HIH.out a (by have := HG.out; omega)).at (w := w2) (d := d) (left := lf - 1) hIa HT.out HBB2.out HGEO.out.1 HL2.out (by omega) (by omega) (by omega);have hMa2 := hMa.kept (Tr.Kept.all HBB2.out (Nat.le_refl _)) hSb hbLlt;have hle := Tr.snd_le a (d + 1) (lf - 1) (by omega);obtain ⟨ha,la,ta3,ta4,ta6,ta7,ta9,ta10,eCa⟩ := Tr.In.form hIa;obtain ⟨hb,lb,ab3,ab4,ab6,ab7,ab9,ab10,nb3,nb4,nb6,nb7,nb9,nb10,cb3,cb4,cb6,cb7,cb9,cb10,eCb,ebt,hbH,hbL⟩ := Tr.In.form2 hIb;have HBH := Lib.hid (And.intro ebt (And.intro hbH hbL));subst eCa;subst eCb;unfold Tr.cells at KA hMa2;obtain ⟨e0,e1,e2,e3,e4,e5,e6,e7,e8,e9,e10⟩ := Tr.Mem.cells hMa2;have HSZ := Lib.hid hsz;have HIB := Lib.hid hIb;have HMB := Lib.hid hMb;have HBL := Lib.hid (And.intro hbLlt hSb);have HLE := Lib.hid hle;have hlI : (([a,b] : List Tr).length : Int) = 2 := rfl;clear ebt hbH hbL hsz hIa hIb hMa hMb hMa2 hle hall hlen hbLlt hSb;go_wp2_with fail;refine KA.mono ?_;rintro y w3 ⟨rfl,hL3,hbt3⟩;have hbut3 := HBUT2.out.trans hbt3;have hbB3 : Below w0.heap.size w0 w3 := HBB2.out.trans (hbt3.below HGEO.out.1 HBB2.out.size);have hbox3 : w3.heap[w.heap.size]? = some (.cells (Tr.cells h u3 u4 u6 u7 u9 (.slice (some ⟨bL,oL,none⟩) [a,b].length c10)) 30 (0,0)) := (hbt3.block w.heap.size (by have := HGEO.out; omega) ((Array.getElem?_eq_some_iff.1 HBOX2.out).1)).trans HBOX2.out;clear d0 d1 d2 d3 d4 d5 d6 d7 d8 d9 d10 e0 e1 e2 e3 e4 e5 e6 e7 e8 e9 e10
      have hMb3 := HMB.out.kept (Tr.Kept.all hbB3 (Nat.le_refl _)) HBL.out.2 HBL.out.1;have hput := Dt.put11 (show w3.heap[w.heap.size]? = some (.cells #[.int .i64 h.k,.int .i64 h.n,.bool h.s1,u3,u4,.bool h.s2,u6,u7,.string h.x,u9,.slice (some ⟨bL,oL,none⟩) [a,b].length c10] 30 (0,0)) from hbox3) (.int .i64 hb.k) (.int .i64 hb.n) (.bool hb.s1) (.slice ab3 nb3 cb3) (.slice ab4 nb4 cb4) (.bool hb.s2) (.slice ab6 nb6 cb6) (.slice ab7 nb7 cb7) (.string hb.x) (.slice ab9 nb9 cb9) (.slice ab10 nb10 cb10);have HPUT := Lib.hid hput;obtain ⟨d0,d1,d2,d3,d4,d5,d6,d7,d8,d9,d10⟩ := Dt.cells11 (show w3.heap[w.heap.size]? = some (.cells #[.int .i64 h.k,.int .i64 h.n,.bool h.s1,u3,u4,.bool h.s2,u6,u7,.string h.x,u9,.slice (some ⟨bL,oL,none⟩) [a,b].length c10] 30 (0,0)) from hbox3);unfold Tr.cells at hMb3;obtain ⟨e0,e1,e2,e3,e4,e5,e6,e7,e8,e9,e10⟩ := Tr.Mem.cells hMb3;have HL3 := Lib.hid hL3;have HBUT3 := Lib.hid hbut3;have HBB3 := Lib.hid hbB3;clear hL3 hbut3 hbB3 hbt3 hbox3 hMb3 hput KA;obtain ⟨ra,hra⟩ : ∃ r,(Tr.snd a (d + 1) (lf - 1)).1 = r := ⟨_,rfl⟩;have HRA := Lib.hid hra;rw [hra];clear hra;cases ra with
      | false =>
        have HF2 : Hid (Tr.snd (.mk h [a,b]) d lf = (false,(Tr.snd a (d + 1) (lf - 1)).2)) := Lib.hid (by rw [HF.out,HRA.out]; rfl);go_wp2_with fail;go_ret;exact ⟨by rw [← HSND.out,HF2.out]; rfl,by rw [← HSND.out,HF2.out]; exact HL3.out,HBUT3.out⟩
      | true =>
        have HF2 : Hid (Tr.snd (.mk h [a,b]) d lf = Tr.snd b d (Tr.snd a (d + 1) (lf - 1)).2) := Lib.hid (by rw [HF.out,if_pos HRA.out]);obtain ⟨X1,X2,X3,X4,X5,X6,X7,X8,X9,X10,X11,⟨f0,y0,s0,_⟩,⟨f1,y1,s1,_⟩,⟨f2,y2,s2,_⟩,⟨f3,y3,s3,_⟩,⟨f4,y4,s4,_⟩,⟨f5,y5,s5,_⟩,⟨f6,y6,s6,_⟩,⟨f7,y7,s7,_⟩,⟨f8,y8,s8,_⟩,⟨f9,y9,s9,_⟩,⟨f10,y10,s10,_⟩,hX,hXz,hXo,hXb⟩ := HPUT.out;have HX := Lib.hid (And.intro hX (And.intro hXz hXo));have HLX : Hid (X11.heap[L]? = some (.cells #[.int .i64 (Tr.snd a (d + 1) (lf - 1)).2] 3 (0,0))) := Lib.hid ((hXo L (by have := HGEO.out; omega)).trans HL3.out);have HBX : Hid (Tr.But L w X11) := Lib.hid ⟨(hXb 0 w3 (Below.refl _ _) (Nat.zero_le _)).os.trans HBUT3.out.os,(hXb 0 w3 (Below.refl _ _) (Nat.zero_le _)).tape.trans HBUT3.out.tape,(hXb 0 w3 (Below.refl _ _) (Nat.zero_le _)).output.trans HBUT3.out.output,by rw [hXz]; exact HBUT3.out.size,fun q h1 h2 => (hXo q (by omega)).trans (HBUT3.out.block q h1 h2)⟩;clear hX hXz hXo hXb;have hle2 := HLE.out.2 HRA.out;have HLE2 := Lib.hid hle2;clear hle2;go_wp2_with fail;go_roundg (Tr.size b);case measure => have := HSZ.out; have := HG.out; have := Tr.size_pos a; omega
        case rel =>
         have e := HBH.out.1;exact ⟨hb,lb,_,_,_,_,_,_,(Tr.snd a (d + 1) (lf - 1)).2,HBH.out.2.1,HBH.out.2.2,⟨by rw [← e],by have := HSZ.out; have := HG.out; omega⟩,HX.out.1,HLX.out,HLE2.out,by have := HLE.out.1; omega,by rw [← e,← HF2.out,HSND.out],HBX.out⟩
    · have hk8I : (h.k != 8) = true := by simp; exact hk8
      have HF : Hid (Tr.snd (.mk h l) d lf = Tr.sndL l (d + 1) (lf - 1)) := Lib.hid (Tr.snd_list HNB.out hk8);have hlf1 : 0 ≤ lf - 1 := by omega
      clear hk8;go_wp2_with fail;go_loopg [46] l.length (fun g iv wr => ∃ (k : Nat) (lf2 : Int),k + g = l.length ∧ iv = .int .i64 k ∧ wr.heap[L]? = some (.cells #[.int .i64 lf2] 3 (0,0)) ∧ 0 ≤ lf2 ∧ lf2 ≤ 20000 ∧ Tr.sndL (l.drop k) (d + 1) lf2 = Tr.sndL l (d + 1) (lf - 1) ∧ Tr.But L w wr ∧ Below w0.heap.size w0 wr);case atStart => exact ⟨0,lf - 1,by omega,rfl,HL2.out,hlf1,by omega,by rw [List.drop_zero],HBUT2.out,HBB2.out⟩
      case round =>
       obtain ⟨k,lf2,hkg,rfl,hL3,hl20,hl21,hsl,hbt3,hbb3⟩ := hrel;obtain ⟨w3,hw3⟩ : ∃ z,z = wr := ⟨_,rfl⟩;subst hw3;have HSL := Lib.hid hsl;have HBT3 := Lib.hid hbt3;have HBB3 := Lib.hid hbb3;have HL3 := Lib.hid hL3;clear hsl hbt3 hbb3 hL3 d0 d1 d2 d3 d4 d5 d6 d7 d8 d9 d10 HL2 HBUT2 HBOX2 HBB2;by_cases hlt : k < l.length
       · obtain ⟨bL,oL,rfl,_,_,_,hbLlt,hSb,hall⟩ := Tr.Sl.at HS.out (by omega);obtain ⟨tk,htk⟩ : ∃ t,l[k]? = some t := ⟨_,List.getElem?_eq_getElem hlt⟩;have hdrop : l.drop k = tk :: l.drop (k + 1) := by
          rw [List.drop_eq_getElem_cons hlt];rw [List.getElem?_eq_getElem hlt] at htk;injection htk with e;rw [e]
         obtain ⟨Ck,hIk,hMk⟩ := Tr.All.at _ _ _ hall k tk htk;rw [Nat.mul_comm 11 k] at hMk;have hsz : Tr.size tk < Tr.size (.mk h l) := Tr.size_lt (t := .mk h l) (k := k) htk;have KT := fun w' hb hp => (HIH.out tk (by have := HG.out; omega)).at (w := w') (d := d) (left := lf2) hIk HT.out hb HGEO.out.1 hp hl20 hl21 (by omega);have hMk3 := hMk.kept (Tr.Kept.all HBB3.out (Nat.le_refl _)) hSb hbLlt;obtain ⟨hb,lb,ab3,ab4,ab6,ab7,ab9,ab10,nb3,nb4,nb6,nb7,nb9,nb10,cb3,cb4,cb6,cb7,cb9,cb10,eCb,ebt,hbH,hbL⟩ := Tr.In.form2 hIk;subst eCb;unfold Tr.cells at KT hMk3;obtain ⟨e0,e1,e2,e3,e4,e5,e6,e7,e8,e9,e10⟩ := Tr.Mem.cells hMk3;have HDR := Lib.hid hdrop;have hle := Tr.snd_le tk (d + 1) lf2 (by omega);have HLE := Lib.hid hle;have HKT := Lib.hid KT;clear hIk hMk hMk3 hall hsz hdrop htk ebt hbH hbL hbLlt hSb hle KT;have HALC : Hid (∀ o,Below w0.heap.size w0 (w3.alloc o) ∧ (w3.alloc o).heap[L]? = some (.cells #[.int .i64 lf2] 3 (0,0)) ∧ Tr.But L w (w3.alloc o)) := Lib.hid (fun o => ⟨HBB3.out.alloc HBB3.out.size o,(Lib.alloc_old _ _ _ ((Array.getElem?_eq_some_iff.1 HL3.out).1)).trans HL3.out,HBT3.out.alloc o⟩);go_wp2_with fail;refine (HKT.out _ (HALC.out _).1 (HALC.out _).2.1).mono ?_;rintro y w5 ⟨rfl,hL5,hbt5⟩;have hbb5 : Below w0.heap.size w0 w5 := (HALC.out _).1.trans (hbt5.below HGEO.out.1 (HALC.out _).1.size);have hbut5 := (HALC.out _).2.2.trans hbt5;have HR5 := Lib.hid (And.intro hL5 (And.intro hbut5 hbb5))
         clear hL5 hbt5 hbb5 hbut5 HALC e0 e1 e2 e3 e4 e5 e6 e7 e8 e9 e10;obtain ⟨ra,hra⟩ : ∃ r,(Tr.snd tk (d + 1) lf2).1 = r := ⟨_,rfl⟩;have HRA := Lib.hid hra;rw [hra];clear hra;cases ra with
         | false =>
           have HF2 : Hid (Tr.snd (.mk h l) d lf = (false,(Tr.snd tk (d + 1) lf2).2)) := Lib.hid (by rw [HF.out,← HSL.out,HDR.out,Tr.sndL_cons,HRA.out]; rfl);go_wp2_with fail;go_ret;exact ⟨by rw [← HSND.out,HF2.out]; rfl,by rw [← HSND.out,HF2.out]; exact HR5.out.1,HR5.out.2.1⟩
         | true =>
           have HF2 : Hid (Tr.sndL (l.drop (k + 1)) (d + 1) (Tr.snd tk (d + 1) lf2).2 = Tr.sndL l (d + 1) (lf - 1)) := Lib.hid (by rw [← HSL.out,HDR.out,Tr.sndL_cons,if_pos HRA.out]);have hle2 := HLE.out.2 HRA.out;have HLE2 := Lib.hid hle2;clear hle2;go_wp2_with fail;go_roundg (gk - 1);case measure => omega
           case rel => exact ⟨k + 1,_,by omega,by first | rfl | go_num | (simp; try omega),HR5.out.1,HLE2.out,by have := HLE.out.1; omega,HF2.out,HR5.out.2.1,HR5.out.2.2⟩
       · obtain rfl : k = l.length := by omega
         have HF2 : Hid (Tr.snd (.mk h l) d lf = (true,lf2)) := Lib.hid (by rw [HF.out,← HSL.out,List.drop_length,Tr.sndL_nil]);have hnlt : decide ((l.length : Int) < (l.length : Int)) = false := decide_eq_false (by omega);go_wp2_with fail;go_ret;exact ⟨by rw [← HSND.out,HF2.out]; rfl,by rw [← HSND.out,HF2.out]; exact HL3.out,HBT3.out⟩
set_option maxHeartbeats 200000
set_option maxRecDepth 512
theorem Tr.sound_says (t : Tr) : Tr.SoundSays t := by
 have H : ∀ n t,Tr.size t < n → Tr.SoundSays t := by
  intro n;induction n with
  | zero => intro t h; omega
  | succ n ih => intro t h; exact Tr.sound_step t (fun u hu => ih u (by omega))
 exact H _ t (Nat.lt_succ_self _)
end Go.Proofs.YteklhapffplohaaGreatDoor
