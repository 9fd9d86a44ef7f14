/-
  PROVED HERE: WriteOnceCardSaid: for every text, the call of sextantlaw09.WriteOnce returns true, and the argument reads as it did. Conditions: none of ours; the tables of package utf8 and of strconv hold what their initialisers lay (tied by the card).
-/
import Derived.Outline
import Derived.Test.YteklhapffplohaaGreatDoorCards
import Derived.Test.YteklhapffplohaaGreatDoorTie
import Derived.WalkKit
import Derived.ProofKit
import Derived.OpenShut
import Derived.ShutString
import Derived.JoinedCond
import Derived.Lib.Hide
import Derived.Deep.DeepHandedRow
import Derived.PinnedBridge
import Derived.Lib.LaidU8T
import Derived.Lay
import Derived.LaidOnce
import Derived.SevenTiedAt
import Derived.SizedLaws
import Derived.Carry
import Derived.Lib.SmallJoins
import Derived.Test.YteklhapffplohaaGreatDoorOq
import Derived.Test.YteklhapffplohaaGreatDoorOza
import Derived.Test.YteklhapffplohaaGreatDoorOy
import Derived.Test.YteklhapffplohaaGreatDoorOz
import Derived.Test.YteklhapffplohaaGreatDoorOk
import Derived.Test.YteklhapffplohaaGreatDoorOp
import Derived.Test.YteklhapffplohaaGreatDoorOo
import Derived.Test.YteklhapffplohaaGreatDoorOt
set_option maxHeartbeats 4000000
set_option maxRecDepth 1000000
set_option linter.unusedVariables false
set_option linter.unusedSimpArgs false
namespace Go.Proofs.YteklhapffplohaaGreatDoor
open Go.RowKit
theorem Dr.con_all : ∀ (n : Nat) (j : Dr.Job),j.len ≤ n → Dr.Con j
 | n,j,hn => by
   have IH : ∀ j' : Dr.Job,j'.len < j.len → Dr.Con j' := fun j' h => by
    cases n with
    | zero => omega
    | succ n => exact Dr.con_all n j' (by omega)
   cases j with
   | blanks l => exact Dr.blanks_con l IH
   | datum l => exact Dr.datum_con l IH
   | items e l => exact Dr.items_con e l IH
   | pairs e f l => exact Dr.pairs_con e f l IH
theorem Dr.con (j : Dr.Job) : Dr.Con j := Dr.con_all _ j (Nat.le_refl _)
theorem Dr.ttabs {w : World} (h : Dr.Tabs w) : Tr.Tabs w := h
def Dr.voidV : Value := .agg #[.int .i64 0,.int .i64 0,.bool false,.slice none 0 0,.slice none 0 0,.bool false,.slice none 0 0,.slice none 0 0,.string ⟨#[]⟩,.slice none 0 0,.slice none 0 0]
def Dr.PostOne (w : World) (A : Dr.Ans) (e : Ending) (w' : World) : Prop :=
 match A with
 | .err x => e = .returned (.tuple #[Dr.voidV,.int .i64 0,.int .i64 x]) ∧ Below w.heap.size w w'
 | .ok t n => ∃ v,e = .returned (.tuple #[v,.int .i64 (n : Int),.int .i64 0]) ∧ Tr.In w' (fun q => w.heap.size ≤ q) t v ∧ Below w.heap.size w w'
theorem Dr.at_start (b : Nat) (s : ByteArray) (w : World) (h : w.heap[b]? = some (.cells #[.string s,.int .i64 0,.bool false] 49 (0,0))) : Dr.At b s s.data.toList false w := by
 have e : s.size - s.data.toList.length = 0 := by simp
 exact ⟨by rw [e]; exact h,by rw [e]; rfl,by simp⟩
theorem Dr.one_worlds (s : ByteArray) (w : World) : ∃ w1 w2 w3 w4 : World,
 w.alloc (.cells #[.int .i64 0,.int .i64 0,.bool false,.slice none 0 0,.slice none 0 0,.bool false,.slice none 0 0,.slice none 0 0,.string ⟨#[]⟩,.slice none 0 0,.slice none 0 0] 30) = w1 ∧
 w1.alloc (.cells #[.int .i64 0] 3) = w2 ∧ w2.alloc (.cells #[.int .i64 0] 31) = w3 ∧ w3.alloc (.cells #[.string s,.int .i64 0,.bool false] 49) = w4 ∧
 w1.heap.size = w.heap.size + 1 ∧ w2.heap.size = w.heap.size + 2 ∧ w3.heap.size = w.heap.size + 3 ∧ w4.heap.size = w.heap.size + 4 ∧
 Hid (Dr.Door w.heap.size w4 ∧ Dr.At (w.heap.size + 3) s s.data.toList false w4 ∧ Below w.heap.size w w4) := by
 refine ⟨_,_,_,_,rfl,rfl,rfl,rfl,by simp,by simp,by simp,by simp,Lib.hid ⟨⟨?_,?_,?_⟩,Dr.at_start _ s _ ?_,?_⟩⟩
 · have h1 := heap_alloc_new w (.cells #[.int .i64 0,.int .i64 0,.bool false,.slice none 0 0,.slice none 0 0,.bool false,.slice none 0 0,.slice none 0 0,.string ⟨#[]⟩,.slice none 0 0,.slice none 0 0] 30);show _ = _;rw [((Below.refl _ _).alloc (Nat.le_refl _) _).block _ (by simp <;> omega),((Below.refl _ _).alloc (Nat.le_refl _) _).block _ (by simp <;> omega),((Below.refl _ _).alloc (Nat.le_refl _) _).block _ (by simp)];exact h1
 · have h1 := heap_alloc_new (w.alloc (.cells #[.int .i64 0,.int .i64 0,.bool false,.slice none 0 0,.slice none 0 0,.bool false,.slice none 0 0,.slice none 0 0,.string ⟨#[]⟩,.slice none 0 0,.slice none 0 0] 30)) (.cells #[.int .i64 0] 3);rw [show (w.alloc (.cells #[.int .i64 0,.int .i64 0,.bool false,.slice none 0 0,.slice none 0 0,.bool false,.slice none 0 0,.slice none 0 0,.string ⟨#[]⟩,.slice none 0 0,.slice none 0 0] 30)).heap.size = w.heap.size + 1 by simp] at h1;rw [((Below.refl _ _).alloc (Nat.le_refl _) _).block _ (by simp <;> omega),((Below.refl _ _).alloc (Nat.le_refl _) _).block _ (by simp)];exact h1
 · have h1 := heap_alloc_new ((w.alloc (.cells #[.int .i64 0,.int .i64 0,.bool false,.slice none 0 0,.slice none 0 0,.bool false,.slice none 0 0,.slice none 0 0,.string ⟨#[]⟩,.slice none 0 0,.slice none 0 0] 30)).alloc (.cells #[.int .i64 0] 3)) (.cells #[.int .i64 0] 31);rw [show ((w.alloc (.cells #[.int .i64 0,.int .i64 0,.bool false,.slice none 0 0,.slice none 0 0,.bool false,.slice none 0 0,.slice none 0 0,.string ⟨#[]⟩,.slice none 0 0,.slice none 0 0] 30)).alloc (.cells #[.int .i64 0] 3)).heap.size = w.heap.size + 2 by simp] at h1;rw [((Below.refl _ _).alloc (Nat.le_refl _) _).block _ (by simp)];exact h1
 · have h1 := heap_alloc_new (((w.alloc (.cells #[.int .i64 0,.int .i64 0,.bool false,.slice none 0 0,.slice none 0 0,.bool false,.slice none 0 0,.slice none 0 0,.string ⟨#[]⟩,.slice none 0 0,.slice none 0 0] 30)).alloc (.cells #[.int .i64 0] 3)).alloc (.cells #[.int .i64 0] 31)) (.cells #[.string s,.int .i64 0,.bool false] 49);rw [show (((w.alloc (.cells #[.int .i64 0,.int .i64 0,.bool false,.slice none 0 0,.slice none 0 0,.bool false,.slice none 0 0,.slice none 0 0,.string ⟨#[]⟩,.slice none 0 0,.slice none 0 0] 30)).alloc (.cells #[.int .i64 0] 3)).alloc (.cells #[.int .i64 0] 31)).heap.size = w.heap.size + 3 by simp] at h1;exact h1
 · exact ((((Below.refl _ _).alloc (Nat.le_refl _) _).alloc (by simp) _).alloc (by simp <;> omega) _).alloc (by simp <;> omega) _
theorem Dr.at_ne {b : Nat} {S : ByteArray} {l : List UInt8} {g : Bool} {w : World} (h : Dr.At b S l g w) (hl : l ≠ []) : (((S.size - l.length : Nat) : Int) == (S.size : Int)) = false := by
 have := List.length_pos_iff.2 hl;have := h.le;exact beq_eq_false_iff_ne.2 (by omega)
theorem Dr.same11g {B : Nat} {w : World} {v0 v1 v2 v3 v4 v5 v6 v7 v8 v9 v10 : Value} (h : Dr.Box B v0 v1 v2 v3 v4 v5 v6 v7 v8 v9 v10 w) :
 (w.setCell ⟨B,0,none⟩ v0 = w ∧ w.setCell ⟨B,1,none⟩ v1 = w ∧ w.setCell ⟨B,2,none⟩ v2 = w ∧ w.setCell ⟨B,3,none⟩ v3 = w ∧ w.setCell ⟨B,4,none⟩ v4 = w ∧ w.setCell ⟨B,5,none⟩ v5 = w ∧ w.setCell ⟨B,6,none⟩ v6 = w ∧ w.setCell ⟨B,7,none⟩ v7 = w ∧ w.setCell ⟨B,8,none⟩ v8 = w ∧ w.setCell ⟨B,9,none⟩ v9 = w ∧ w.setCell ⟨B,10,none⟩ v10 = w) ∧
 (w.frozen? ⟨B,0,none⟩ = false ∧ w.frozen? ⟨B,1,none⟩ = false ∧ w.frozen? ⟨B,2,none⟩ = false ∧ w.frozen? ⟨B,3,none⟩ = false ∧ w.frozen? ⟨B,4,none⟩ = false ∧ w.frozen? ⟨B,5,none⟩ = false ∧ w.frozen? ⟨B,6,none⟩ = false ∧ w.frozen? ⟨B,7,none⟩ = false ∧ w.frozen? ⟨B,8,none⟩ = false ∧ w.frozen? ⟨B,9,none⟩ = false ∧ w.frozen? ⟨B,10,none⟩ = false) :=
 ⟨⟨Dr.put_same h 0 _ rfl,Dr.put_same h 1 _ rfl,Dr.put_same h 2 _ rfl,Dr.put_same h 3 _ rfl,Dr.put_same h 4 _ rfl,Dr.put_same h 5 _ rfl,Dr.put_same h 6 _ rfl,Dr.put_same h 7 _ rfl,Dr.put_same h 8 _ rfl,Dr.put_same h 9 _ rfl,Dr.put_same h 10 _ rfl⟩,
   Rt.frozen_of h 0,Rt.frozen_of h 1,Rt.frozen_of h 2,Rt.frozen_of h 3,Rt.frozen_of h 4,Rt.frozen_of h 5,Rt.frozen_of h 6,Rt.frozen_of h 7,Rt.frozen_of h 8,Rt.frozen_of h 9,Rt.frozen_of h 10⟩
theorem Dr.tellN {B : Nat} {w : World} {v0 v1 v2 v3 v4 v5 v6 v7 v8 v9 v10 : Value} (h : Dr.Box B v0 v1 v2 v3 v4 v5 v6 v7 v8 v9 v10 w) (hn : w.heap[B + 1]? = some (.cells #[.int .i64 0] 3 (0,0))) (he : w.heap[B + 2]? = some (.cells #[.int .i64 0] 31 (0,0))) (n : Int) (q : Nat × Nat) (hq : q.1 ≠ B + 1) :
 ∃ W,w.setCell ⟨B + 1,0,none⟩ (.int .i64 n) = W ∧ Dr.Box B v0 v1 v2 v3 v4 v5 v6 v7 v8 v9 v10 W ∧ W.heap[B + 1]? = some (.cells #[.int .i64 n] 3 (0,0)) ∧ W.heap[B + 2]? = some (.cells #[.int .i64 0] 31 (0,0)) ∧ W.cell? ⟨q.1,q.2,none⟩ = w.cell? ⟨q.1,q.2,none⟩ ∧ (W.heap.size = w.heap.size ∧ ∀ k,k ≠ B + 1 → W.heap[k]? = w.heap[k]?) ∧ (∀ (K : Nat) (z : World),Below K z w → K ≤ B + 1 → Below K z W) := by
 have ho : ∀ k,k ≠ B + 1 → (w.setCell ⟨B + 1,0,none⟩ (.int .i64 n)).heap[k]? = w.heap[k]? := fun k hk => heap_setCell_other w ⟨B + 1,0,none⟩ k _ (fun e => hk (by simp [e]))
 have hs : (w.setCell ⟨B + 1,0,none⟩ (.int .i64 n)).heap[B + 1]? = some (.cells #[.int .i64 n] 3 (0,0)) := heap_setCell_same w (B + 1) 0 _ _ (.int .i64 n) hn
 exact ⟨_,rfl,(ho B (by omega)).trans h,hs,(ho (B + 2) (by omega)).trans he,World.cell?_of_block (ho q.1 hq),⟨by simp,ho⟩,fun K z hb hK => hb.setCell (by show K ≤ B + 1; omega) _⟩
theorem Dr.Door.kept {B b : Nat} {w w' : World} (h : Dr.Door B w) (hk : Dr.Kept b w w') (hb : B + 3 ≤ b) : Dr.Door B w' := by
 have := h.lt;exact ⟨(hk.block B (by omega) (by omega)).trans h.d,(hk.block (B + 1) (by omega) (by omega)).trans h.n,(hk.block (B + 2) (by omega) (by omega)).trans h.e⟩
set_option maxHeartbeats 8000000 in
theorem Dr.one_any (s : ByteArray) (w : World) (A : Dr.Ans) (hs : s.size ≤ 1048576) (hT : Dr.Tabs w) (hA : Dr.One s.data.toList A) : Calls Tryz.prog 13 #[.string s] w (Dr.PostOne w A) := by
 have hmf : ∀ (fn : Fn) (first cap : Array Value) (w : World),(Instr.makeFunc fn first cap).run Tryz.prog w = .ok (.func fn first cap) w := fun _ _ _ _ => rfl;obtain ⟨w1,w2,w3,w4,e1,e2,e3,e4,z1,z2,z3,z4,H4⟩ := Dr.one_worlds s w;have KB := Lib.hid (fun R h1 => Dr.con (.blanks s.data.toList) (w.heap.size + 3) s false w4 R H4.out.2.1 hs (Utf8Tabs_below hT H4.out.2.2) h1);have HA := Lib.hid hA;have HT := Lib.hid hT;have HS := Lib.hid hs;clear hA hT hs;go_enter_defers Tryz.func13,Tryz.ntmps13;go_wp2_with fail;cases HA.out with
 | fault1 h1 =>
   refine (KB.out _ h1).mono ?_;rintro x w5 ⟨rfl,hK5⟩;have HD := Lib.hid (H4.out.1.kept hK5 (by omega));have HBL := Lib.hid (Dr.Kept.toBelowB H4.out.2.2 (by omega) (by omega) hK5);clear hK5 KB;unfold Dr.dead at *;go_wp2_with fail;refine leaves_cons (f := 19) (args := #[.pointer (some ⟨w.heap.size,0,none⟩),.pointer (some ⟨w.heap.size + 1,0,none⟩),.pointer (some ⟨w.heap.size + 2,0,none⟩)]) (by simp) (by simp [go_sem]) ?_;refine (Dr.catch_fault w.heap.size 5 _ HD.out).mono ?_;rintro x u' w9 ⟨rfl,rfl,hT9⟩;obtain ⟨k0,k1,k2,k3,k4,k5,k6,k7,k8,k9,k10⟩ := Dr.cells11 hT9.d;have kn := hT9.n;have ke := hT9.e;have HE := Lib.hid (show Dr.PostOne w (.err 5) (.returned (.tuple #[Dr.voidV,.int .i64 0,.int .i64 5])) w9 from ⟨rfl,hT9.below _ _ HBL.out (Nat.le_refl _)⟩);clear hT9;simp [Leaves,settle,results,Tryz.results13,go_sem,k0,k1,k2,k3,k4,k5,k6,k7,k8,k9,k10,kn,ke];exact HE.out
 | none h1 =>
   refine (KB.out _ h1).mono ?_;rintro x w5 ⟨rfl,hA5,hK5⟩;have hD5 := H4.out.1.kept hK5 (by omega);obtain ⟨c0,c1,c2⟩ := hA5.cells;rw [show s.size - ([] : List UInt8).length = s.size by simp] at c1;obtain ⟨W,hW,hWd,hWn,hWe,HTD⟩ := hD5.tell 11;obtain ⟨⟨a0,a1,a2,a3,a4,a5,a6,a7,a8,a9,a10⟩,f0,f1,f2,f3,f4,f5,f6,f7,f8,f9,f10⟩ := Dr.same11 hD5.d;obtain ⟨b0,b1,b2⟩ := Dr.same1 hD5.n;obtain ⟨_,c4,c5⟩ := Dr.same1 hD5.e;obtain ⟨i0,i1,i2,i3,i4,i5,i6,i7,i8,i9,i10⟩ := Dr.cells11 hD5.d;have HBL := Lib.hid (Dr.Kept.toBelowB H4.out.2.2 (by omega) (by omega) hK5);clear hA5 hK5 hD5 hWd hWn hWe KB;obtain ⟨k0,k1,k2,k3,k4,k5,k6,k7,k8,k9,k10⟩ := Dr.cells11 HTD.out.d;have kn := HTD.out.n;have ke := HTD.out.e;have HE := Lib.hid (show Dr.PostOne w (.err 11) (.returned (.tuple #[Dr.voidV,.int .i64 0,.int .i64 11])) W from ⟨rfl,HTD.out.below _ _ HBL.out (Nat.le_refl _)⟩);clear HTD;go_wp2_with fail;refine leaves_cons (f := 19) (args := #[.pointer (some ⟨w.heap.size,0,none⟩),.pointer (some ⟨w.heap.size + 1,0,none⟩),.pointer (some ⟨w.heap.size + 2,0,none⟩)]) (by simp) (by simp [go_sem]) ?_;refine (Dr.catch_idle _ _ _ _).mono ?_;rintro x u' w9 ⟨rfl,rfl,rfl⟩;simp [Leaves,settle,results,Tryz.results13,go_sem,k0,k1,k2,k3,k4,k5,k6,k7,k8,k9,k10,kn,ke];exact HE.out
 | @fault2 r h1 hr h2 =>
   refine (KB.out _ h1).mono ?_;rintro x w5 ⟨rfl,hA5,hK5⟩;have HK5 := Lib.hid hK5;have hne5 := Dr.at_ne hA5 hr;have KD := Lib.hid (fun R h => Dr.con (.datum r) (w.heap.size + 3) s false w5 R hA5 HS.out (Dr.tabs_kept (Utf8Tabs_below HT.out H4.out.2.2) (H4.out.2.1.tabs_ne (Utf8Tabs_below HT.out H4.out.2.2)).1 (H4.out.2.1.tabs_ne (Utf8Tabs_below HT.out H4.out.2.2)).2 hK5) h);obtain ⟨c0,c1,c2⟩ := hA5.cells;obtain ⟨p,hp⟩ : ∃ z,s.size - r.length = z := ⟨_,rfl⟩;rw [hp] at c1 hne5;have HTW := Lib.hid (fun w' (hk : Dr.Kept (w.heap.size + 3) w5 w') => Dr.tabs_kept (Utf8Tabs_below HT.out H4.out.2.2) (H4.out.2.1.tabs_ne (Utf8Tabs_below HT.out H4.out.2.2)).1 (H4.out.2.1.tabs_ne (Utf8Tabs_below HT.out H4.out.2.2)).2 (hK5.trans hk));clear hA5 hK5 hp hr KB;go_wp2_with fail;refine (KD.out _ h2).mono ?_;rintro x w6 ⟨rfl,hK6⟩;have HD := Lib.hid (H4.out.1.kept (HK5.out.trans hK6) (by omega));have HBL := Lib.hid (Dr.Kept.toBelowB H4.out.2.2 (by omega) (by omega) (HK5.out.trans hK6));clear hK6 KD;unfold Dr.dead at *;go_wp2_with fail;refine leaves_cons (f := 19) (args := #[.pointer (some ⟨w.heap.size,0,none⟩),.pointer (some ⟨w.heap.size + 1,0,none⟩),.pointer (some ⟨w.heap.size + 2,0,none⟩)]) (by simp) (by simp [go_sem]) ?_;refine (Dr.catch_fault w.heap.size 5 _ HD.out).mono ?_;rintro x u' w9 ⟨rfl,rfl,hT9⟩;obtain ⟨k0,k1,k2,k3,k4,k5,k6,k7,k8,k9,k10⟩ := Dr.cells11 hT9.d;have kn := hT9.n;have ke := hT9.e
   have HE := Lib.hid (show Dr.PostOne w (.err 5) (.returned (.tuple #[Dr.voidV,.int .i64 0,.int .i64 5])) w9 from ⟨rfl,hT9.below _ _ HBL.out (Nat.le_refl _)⟩);clear hT9;simp [Leaves,settle,results,Tryz.results13,go_sem,k0,k1,k2,k3,k4,k5,k6,k7,k8,k9,k10,kn,ke];exact HE.out
 | @big r t r2 bb h1 hr h2 hb =>
   refine (KB.out _ h1).mono ?_;rintro x w5 ⟨rfl,hA5,hK5⟩;have HK5 := Lib.hid hK5;have hne5 := Dr.at_ne hA5 hr;have KD := Lib.hid (fun R h => Dr.con (.datum r) (w.heap.size + 3) s false w5 R hA5 HS.out (Dr.tabs_kept (Utf8Tabs_below HT.out H4.out.2.2) (H4.out.2.1.tabs_ne (Utf8Tabs_below HT.out H4.out.2.2)).1 (H4.out.2.1.tabs_ne (Utf8Tabs_below HT.out H4.out.2.2)).2 hK5) h);obtain ⟨c0,c1,c2⟩ := hA5.cells;obtain ⟨p,hp⟩ : ∃ z,s.size - r.length = z := ⟨_,rfl⟩;rw [hp] at c1 hne5;have HTW := Lib.hid (fun w' (hk : Dr.Kept (w.heap.size + 3) w5 w') => Dr.tabs_kept (Utf8Tabs_below HT.out H4.out.2.2) (H4.out.2.1.tabs_ne (Utf8Tabs_below HT.out H4.out.2.2)).1 (H4.out.2.1.tabs_ne (Utf8Tabs_below HT.out H4.out.2.2)).2 (hK5.trans hk));clear hA5 hK5 hp hr KB;go_wp2_with fail;refine (KD.out _ h2).mono ?_;rintro x w6 ⟨v,rfl,hI6,hA6,hK6⟩;obtain ⟨C6,rfl⟩ := Dr.in_agg hI6;obtain ⟨hv,lv,b3,b4,b6,b7,b9,b10,m3,m4,m6,m7,m9,m10,d3',d4,d6,d7,d9,d10,eC8,et8,_,_⟩ := Tr.In.form2 hI6;subst eC8;clear et8;unfold Tr.cells at *;have HK6 := Lib.hid (HK5.out.trans hK6);have hD6 := H4.out.1.kept HK6.out (by omega)
   obtain ⟨Y1,Y2,Y3,Y4,Y5,Y6,Y7,Y8,Y9,Y10,Y11,⟨g0,y0,s0⟩,⟨g1,y1,s1'⟩,⟨g2,y2,s2'⟩,⟨g3,y3,s3'⟩,⟨g4,y4,s4'⟩,⟨g5,y5,s5'⟩,⟨g6,y6,s6'⟩,⟨g7,y7,s7'⟩,⟨g8,y8,s8'⟩,⟨g9,y9,s9'⟩,⟨g10,y10,s10'⟩,⟨r0,r1,r2',r3,r4,r5,r6,r7,r8,r9,r10⟩,HY⟩ := hD6.d.put (.int .i64 hv.k) (.int .i64 hv.n) (.bool hv.s1) (.slice b3 m3 d3') (.slice b4 m4 d4) (.bool hv.s2) (.slice b6 m6 d6) (.slice b7 m7 d7) (.string hv.x) (.slice b9 m9 d9) (.slice b10 m10 d10);have hBY := HY.out.1;have hNY : Y11.heap[w.heap.size + 1]? = some (.cells #[.int .i64 0] 3 (0,0)) := (HY.out.2.2.1 _ (by omega)).trans hD6.n;have hEY : Y11.heap[w.heap.size + 2]? = some (.cells #[.int .i64 0] 31 (0,0)) := (HY.out.2.2.1 _ (by omega)).trans hD6.e;have hAY := hA6.put (W := Y11) (B := w.heap.size) (by omega) HY.out.2.2.1;have hbw6 : Below w.heap.size w w6 := Dr.Kept.toBelowB H4.out.2.2 (by omega) (by omega) HK6.out;have HBY := Lib.hid (HY.out.2.2.2 _ _ hbw6 (Nat.le_refl _));have HTY := Lib.hid (show Dr.Tabs Y11 from Utf8Tabs_below HT.out (HY.out.2.2.2 _ _ hbw6 (Nat.le_refl _)));have HIY := Lib.hid (Tr.In.kept (S := fun q => w5.heap.size ≤ q) (w' := Y11) ⟨Nat.le_of_eq HY.out.2.1.symm,fun q hq _ => HY.out.2.2.1 q (by have := HK5.out.size; omega)⟩ _ _ hI6);have HFIX := Lib.hid (And.intro hBY (And.intro hNY (And.intro hEY hAY)));obtain ⟨c0,c1,c2⟩ := hAY.cells;clear hI6 hA6 hK6 hD6 HY hBY hNY hEY hAY hbw6 KD;cases bb with
   | true =>
     have c2 : Y11.cell? ⟨w.heap.size + 3,2,none⟩ = some (.bool true) := c2;have HFX := Lib.hid (And.intro HFIX.out.1 (And.intro HFIX.out.2.1 HFIX.out.2.2.1));have HBX := HBY;have hwipe := Dr.put11 HFX.out.1 (.int .i64 0) (.int .i64 0) (.bool false) (.slice none 0 0) (.slice none 0 0) (.bool false) (.slice none 0 0) (.slice none 0 0) (.string ⟨#[]⟩) (.slice none 0 0) (.slice none 0 0);obtain ⟨Z1,Z2,Z3,Z4,Z5,Z6,Z7,Z8,Z9,Z10,Z11,⟨p0,q0,o0,_⟩,⟨p1,q1,o1,_⟩,⟨p2,q2,o2,_⟩,⟨p3,q3,o3,_⟩,⟨p4,q4,o4,_⟩,⟨p5,q5,o5,_⟩,⟨p6,q6,o6,_⟩,⟨p7,q7,o7,_⟩,⟨p8,q8,o8,_⟩,⟨p9,q9,o9,_⟩,⟨p10,q10,o10,_⟩,t1,t2,t3,t4⟩ := hwipe;have hDZ : Dr.Door w.heap.size Z11 := ⟨t1,(t3 _ (by omega)).trans HFX.out.2.1,(t3 _ (by omega)).trans HFX.out.2.2⟩;obtain ⟨W,hW,hWd,hWn,hWe,HTD⟩ := hDZ.tell 4;obtain ⟨u0,u1,u2⟩ := Dr.same1 hDZ.n;obtain ⟨_,u4,u5⟩ := Dr.same1 hDZ.e;have HBL := Lib.hid (t4 _ _ HBX.out (Nat.le_refl _));clear t1 t2 t3 t4 hDZ hWd hWn hWe HFX HBX;obtain ⟨k0,k1,k2,k3,k4,k5,k6,k7,k8,k9,k10⟩ := Dr.cells11 HTD.out.d;have kn := HTD.out.n;have ke := HTD.out.e;have HE := Lib.hid (show Dr.PostOne w (.err 4) (.returned (.tuple #[Dr.voidV,.int .i64 0,.int .i64 4])) W from ⟨rfl,HTD.out.below _ _ HBL.out (Nat.le_refl _)⟩);clear HTD;go_wp2_with fail
     refine leaves_cons (f := 19) (args := #[.pointer (some ⟨w.heap.size,0,none⟩),.pointer (some ⟨w.heap.size + 1,0,none⟩),.pointer (some ⟨w.heap.size + 2,0,none⟩)]) (by simp) (by simp [go_sem]) ?_;refine (Dr.catch_idle _ _ _ _).mono ?_;rintro x u' w9 ⟨rfl,rfl,rfl⟩;simp [Leaves,settle,results,Tryz.results13,go_sem,k0,k1,k2,k3,k4,k5,k6,k7,k8,k9,k10,kn,ke];exact HE.out
   | false =>
     have c2 : Y11.cell? ⟨w.heap.size + 3,2,none⟩ = some (.bool false) := c2;have hsd : Tr.sound t = false := by simpa using hb
     have KSD := Lib.hid (Tr.Sound_any t _ _ Y11 HIY.out (Dr.ttabs HTY.out));rw [hsd] at KSD;clear hb hsd;go_wp2_with fail;refine KSD.out.mono ?_;rintro x w7 ⟨rfl,hb7⟩;have hlt7 := (Array.getElem?_eq_some_iff.1 HFIX.out.2.2.2.blk).1;have HFX := Lib.hid (And.intro ((hb7.block w.heap.size (by omega)).trans HFIX.out.1) (And.intro ((hb7.block _ (by omega)).trans HFIX.out.2.1) ((hb7.block _ (by omega)).trans HFIX.out.2.2.1)));have HBX := Lib.hid (HBY.out.trans (hb7.mono HBY.out.size));clear hb7 KSD r0 r1 r2' r3 r4 r5 r6 r7 r8 r9 r10 c0 c1 c2;have hwipe := Dr.put11 HFX.out.1 (.int .i64 0) (.int .i64 0) (.bool false) (.slice none 0 0) (.slice none 0 0) (.bool false) (.slice none 0 0) (.slice none 0 0) (.string ⟨#[]⟩) (.slice none 0 0) (.slice none 0 0);obtain ⟨Z1,Z2,Z3,Z4,Z5,Z6,Z7,Z8,Z9,Z10,Z11,⟨p0,q0,o0,_⟩,⟨p1,q1,o1,_⟩,⟨p2,q2,o2,_⟩,⟨p3,q3,o3,_⟩,⟨p4,q4,o4,_⟩,⟨p5,q5,o5,_⟩,⟨p6,q6,o6,_⟩,⟨p7,q7,o7,_⟩,⟨p8,q8,o8,_⟩,⟨p9,q9,o9,_⟩,⟨p10,q10,o10,_⟩,t1,t2,t3,t4⟩ := hwipe;have hDZ : Dr.Door w.heap.size Z11 := ⟨t1,(t3 _ (by omega)).trans HFX.out.2.1,(t3 _ (by omega)).trans HFX.out.2.2⟩;obtain ⟨W,hW,hWd,hWn,hWe,HTD⟩ := hDZ.tell 4;obtain ⟨u0,u1,u2⟩ := Dr.same1 hDZ.n;obtain ⟨_,u4,u5⟩ := Dr.same1 hDZ.e;have HBL := Lib.hid (t4 _ _ HBX.out (Nat.le_refl _));clear t1 t2 t3 t4 hDZ hWd hWn hWe HFX HBX
     obtain ⟨k0,k1,k2,k3,k4,k5,k6,k7,k8,k9,k10⟩ := Dr.cells11 HTD.out.d;have kn := HTD.out.n;have ke := HTD.out.e;have HE := Lib.hid (show Dr.PostOne w (.err 4) (.returned (.tuple #[Dr.voidV,.int .i64 0,.int .i64 4])) W from ⟨rfl,HTD.out.below _ _ HBL.out (Nat.le_refl _)⟩);clear HTD;go_wp2_with fail;refine leaves_cons (f := 19) (args := #[.pointer (some ⟨w.heap.size,0,none⟩),.pointer (some ⟨w.heap.size + 1,0,none⟩),.pointer (some ⟨w.heap.size + 2,0,none⟩)]) (by simp) (by simp [go_sem]) ?_;refine (Dr.catch_idle _ _ _ _).mono ?_;rintro x u' w9 ⟨rfl,rfl,rfl⟩;simp [Leaves,settle,results,Tryz.results13,go_sem,k0,k1,k2,k3,k4,k5,k6,k7,k8,k9,k10,kn,ke];exact HE.out
 | @ok r t r2 bb h1 hr h2 hb =>
   refine (KB.out _ h1).mono ?_;rintro x w5 ⟨rfl,hA5,hK5⟩;have HK5 := Lib.hid hK5;have hne5 := Dr.at_ne hA5 hr;have KD := Lib.hid (fun R h => Dr.con (.datum r) (w.heap.size + 3) s false w5 R hA5 HS.out (Dr.tabs_kept (Utf8Tabs_below HT.out H4.out.2.2) (H4.out.2.1.tabs_ne (Utf8Tabs_below HT.out H4.out.2.2)).1 (H4.out.2.1.tabs_ne (Utf8Tabs_below HT.out H4.out.2.2)).2 hK5) h);obtain ⟨c0,c1,c2⟩ := hA5.cells;obtain ⟨p,hp⟩ : ∃ z,s.size - r.length = z := ⟨_,rfl⟩;rw [hp] at c1 hne5;have HTW := Lib.hid (fun w' (hk : Dr.Kept (w.heap.size + 3) w5 w') => Dr.tabs_kept (Utf8Tabs_below HT.out H4.out.2.2) (H4.out.2.1.tabs_ne (Utf8Tabs_below HT.out H4.out.2.2)).1 (H4.out.2.1.tabs_ne (Utf8Tabs_below HT.out H4.out.2.2)).2 (hK5.trans hk));clear hA5 hK5 hp hr KB;go_wp2_with fail;refine (KD.out _ h2).mono ?_;rintro x w6 ⟨v,rfl,hI6,hA6,hK6⟩;obtain ⟨C6,rfl⟩ := Dr.in_agg hI6;obtain ⟨hv,lv,b3,b4,b6,b7,b9,b10,m3,m4,m6,m7,m9,m10,d3',d4,d6,d7,d9,d10,eC8,et8,_,_⟩ := Tr.In.form2 hI6;subst eC8;clear et8;unfold Tr.cells at *;have HK6 := Lib.hid (HK5.out.trans hK6);have hD6 := H4.out.1.kept HK6.out (by omega)
   obtain ⟨Y1,Y2,Y3,Y4,Y5,Y6,Y7,Y8,Y9,Y10,Y11,⟨g0,y0,s0⟩,⟨g1,y1,s1'⟩,⟨g2,y2,s2'⟩,⟨g3,y3,s3'⟩,⟨g4,y4,s4'⟩,⟨g5,y5,s5'⟩,⟨g6,y6,s6'⟩,⟨g7,y7,s7'⟩,⟨g8,y8,s8'⟩,⟨g9,y9,s9'⟩,⟨g10,y10,s10'⟩,⟨r0,r1,r2',r3,r4,r5,r6,r7,r8,r9,r10⟩,HY⟩ := hD6.d.put (.int .i64 hv.k) (.int .i64 hv.n) (.bool hv.s1) (.slice b3 m3 d3') (.slice b4 m4 d4) (.bool hv.s2) (.slice b6 m6 d6) (.slice b7 m7 d7) (.string hv.x) (.slice b9 m9 d9) (.slice b10 m10 d10);have hBY := HY.out.1;have hNY : Y11.heap[w.heap.size + 1]? = some (.cells #[.int .i64 0] 3 (0,0)) := (HY.out.2.2.1 _ (by omega)).trans hD6.n;have hEY : Y11.heap[w.heap.size + 2]? = some (.cells #[.int .i64 0] 31 (0,0)) := (HY.out.2.2.1 _ (by omega)).trans hD6.e;have hAY := hA6.put (W := Y11) (B := w.heap.size) (by omega) HY.out.2.2.1;have hbw6 : Below w.heap.size w w6 := Dr.Kept.toBelowB H4.out.2.2 (by omega) (by omega) HK6.out;have HBY := Lib.hid (HY.out.2.2.2 _ _ hbw6 (Nat.le_refl _));have HTY := Lib.hid (show Dr.Tabs Y11 from Utf8Tabs_below HT.out (HY.out.2.2.2 _ _ hbw6 (Nat.le_refl _)));have HIY := Lib.hid (Tr.In.kept (S := fun q => w5.heap.size ≤ q) (w' := Y11) ⟨Nat.le_of_eq HY.out.2.1.symm,fun q hq _ => HY.out.2.2.1 q (by have := HK5.out.size; omega)⟩ _ _ hI6);have HFIX := Lib.hid (And.intro hBY (And.intro hNY (And.intro hEY hAY)));obtain ⟨c0,c1,c2⟩ := hAY.cells;clear hI6 hA6 hK6 hD6 HY hBY hNY hEY hAY hbw6 KD
   have hbb : bb = false ∧ Tr.sound t = true := by simpa using hb
   obtain ⟨rfl,hsd⟩ := hbb;have c2 : Y11.cell? ⟨w.heap.size + 3,2,none⟩ = some (.bool false) := c2;have KSD := Lib.hid (Tr.Sound_any t _ _ Y11 HIY.out (Dr.ttabs HTY.out));rw [hsd] at KSD;clear hb hsd;go_wp2_with fail;refine KSD.out.mono ?_;rintro x w7 ⟨rfl,hb7⟩;have hb7d : Below Y11.heap.size Y11 w7.drew := Below.drew hb7;have hlt7 := (Array.getElem?_eq_some_iff.1 HFIX.out.2.2.2.blk).1;have hB7 : Dr.Box w.heap.size (.int .i64 hv.k) (.int .i64 hv.n) (.bool hv.s1) (.slice b3 m3 d3') (.slice b4 m4 d4) (.bool hv.s2) (.slice b6 m6 d6) (.slice b7 m7 d7) (.string hv.x) (.slice b9 m9 d9) (.slice b10 m10 d10) w7.drew := (hb7d.block w.heap.size (by omega)).trans HFIX.out.1;have hN7 := (hb7d.block (w.heap.size + 1) (by omega)).trans HFIX.out.2.1;have hE7 := (hb7d.block (w.heap.size + 2) (by omega)).trans HFIX.out.2.2.1;have hA7 := HFIX.out.2.2.2.below hb7d;have HB7 := Lib.hid (HBY.out.trans (hb7d.mono HBY.out.size));have HI7 := Lib.hid (Tr.In.below HIY.out hb7d (Nat.le_refl _));clear r0 r1 r2' r3 r4 r5 r6 r7 r8 r9 r10 c0 c1 c2;obtain ⟨c0,c1,c2⟩ := hA7.cells;obtain ⟨n,hn⟩ : ∃ z,s.size - r2.length = z := ⟨_,rfl⟩;rw [hn] at c1;obtain ⟨⟨a0,a1,a2,a3,a4,a5,a6,a7,a8,a9,a10⟩,f0,f1,f2,f3,f4,f5,f6,f7,f8,f9,f10⟩ := Dr.same11g hB7;obtain ⟨i0,i1,i2,i3,i4,i5,i6,i7,i8,i9,i10⟩ := Dr.cells11 hB7;obtain ⟨_,b1,b2⟩ := Dr.same1 hN7;obtain ⟨c3,c4,c5⟩ := Dr.same1 hE7
   obtain ⟨W,hW,hBW,hNW,hEW,hcW,hIW,hbW⟩ := Dr.tellN hB7 hN7 hE7 (n : Int) (w.heap.size + 3,1) (by show w.heap.size + 3 ≠ w.heap.size + 1; omega);obtain ⟨⟨o0,o1,o2,o3,o4,o5,o6,o7,o8,o9,o10⟩,q0,q1,q2,q3,q4,q5,q6,q7,q8,q9,q10⟩ := Dr.same11g hBW;obtain ⟨l0,l1',l2,l3,l4,l5,l6,l7,l8,l9,l10⟩ := Dr.cells11 hBW;obtain ⟨_,u1,u2⟩ := Dr.same1 hNW;obtain ⟨u3,u4,u5⟩ := Dr.same1 hEW;have hc1W := hcW.trans c1;have HN := Lib.hid (show s.data.toList.length - r2.length = n from by simpa using hn);have HE := Lib.hid (show Dr.PostOne w (.ok t (s.data.toList.length - r2.length)) (.returned (.tuple #[.agg #[.int .i64 hv.k,.int .i64 hv.n,.bool hv.s1,.slice b3 m3 d3',.slice b4 m4 d4,.bool hv.s2,.slice b6 m6 d6,.slice b7 m7 d7,.string hv.x,.slice b9 m9 d9,.slice b10 m10 d10],.int .i64 (n : Int),.int .i64 0])) W from by
     refine ⟨_,by rw [HN.out],?_,hbW _ _ HB7.out (by omega)⟩
     exact Tr.In.mono (S := fun q => w5.heap.size ≤ q) (fun q hq => by show w.heap.size ≤ q; have := HK5.out.size; omega) _ _ (Tr.In.kept ⟨Nat.le_of_eq hIW.1.symm,fun q hq _ => hIW.2 q (by have := HK5.out.size; omega)⟩ _ _ HI7.out))
   clear hb7 hb7d hB7 hN7 hE7 hA7 hBW hNW hEW hcW hIW hbW hn KSD;generalize s.data.toList.length - r2.length = nn at *;go_wp2_with fail;go_region;all_goals
    go_wp2_with fail;refine leaves_cons (f := 19) (args := #[.pointer (some ⟨w.heap.size,0,none⟩),.pointer (some ⟨w.heap.size + 1,0,none⟩),.pointer (some ⟨w.heap.size + 2,0,none⟩)]) (by simp) (by simp [go_sem]) ?_;refine (Dr.catch_idle _ _ _ _).mono ?_;rintro x u' w9 ⟨rfl,rfl,rfl⟩;simp [Leaves,settle,results,Tryz.results13,go_sem,l0,l1',l2,l3,l4,l5,l6,l7,l8,l9,l10,u2,u5];exact HE.out
def Dr.cut (s : ByteArray) (A : Dr.Ans) : Dr.Ans := if 65536 < s.size then .err 18 else A
theorem Dr.DRead_any (s : ByteArray) (w : World) (A : Dr.Ans) (hT : Dr.Tabs w) (hA : Dr.One s.data.toList A) : Calls Tryz.prog 5 #[.string s] w (Dr.PostOne w (Dr.cut s A)) := by
 obtain ⟨B,hB⟩ : ∃ z,w.heap.size = z := ⟨_,rfl⟩;have hal : Below w.heap.size w (w.alloc (.cells #[.int .i64 0,.int .i64 0,.bool false,.slice none 0 0,.slice none 0 0,.bool false,.slice none 0 0,.slice none 0 0,.string ⟨#[]⟩,.slice none 0 0,.slice none 0 0] 30)) := (Below.refl _ _).alloc (Nat.le_refl _) _;have hz1 : (w.alloc (.cells #[.int .i64 0,.int .i64 0,.bool false,.slice none 0 0,.slice none 0 0,.bool false,.slice none 0 0,.slice none 0 0,.string ⟨#[]⟩,.slice none 0 0,.slice none 0 0] 30)).heap.size = B + 1 := by simp [hB]
 have hq1 := heap_alloc_new w (.cells #[.int .i64 0,.int .i64 0,.bool false,.slice none 0 0,.slice none 0 0,.bool false,.slice none 0 0,.slice none 0 0,.string ⟨#[]⟩,.slice none 0 0,.slice none 0 0] 30);obtain ⟨w1,hw1⟩ : ∃ z,(w.alloc (.cells #[.int .i64 0,.int .i64 0,.bool false,.slice none 0 0,.slice none 0 0,.bool false,.slice none 0 0,.slice none 0 0,.string ⟨#[]⟩,.slice none 0 0,.slice none 0 0] 30)) = z := ⟨_,rfl⟩;rw [hw1] at hal hq1 hz1;have hbx1 : Dr.Box0 w.heap.size w1 := hq1;rw [hB] at hbx1;by_cases hlen : 65536 < s.size
 · have hc : Dr.cut s A = .err 18 := by unfold Dr.cut; rw [if_pos hlen]
   rw [hc];obtain ⟨⟨a0,a1,a2,a3,a4,a5,a6,a7,a8,a9,a10⟩,f0,f1,f2,f3,f4,f5,f6,f7,f8,f9,f10⟩ := Dr.same11 hbx1;obtain ⟨i0,i1,i2,i3,i4,i5,i6,i7,i8,i9,i10⟩ := Dr.cells11 hbx1;have hl2 : (65536 : Int) < (s.size : Int) := by omega
   have HE := Lib.hid (show Dr.PostOne w (.err 18) (.returned (.tuple #[Dr.voidV,.int .i64 0,.int .i64 18])) w1 from ⟨rfl,hal⟩);clear hal hq1 hbx1 hA hT hc;go_enter Tryz.func5,Tryz.ntmps5;go_wp2_with fail;refine bodyPost_ret (v := .tuple #[Dr.voidV,.int .i64 0,.int .i64 18]) (by simp [results,Tryz.results5,go_sem,i0,i1,i2,i3,i4,i5,i6,i7,i8,i9,i10,Dr.voidV]) rfl HE.out
 · have hc : Dr.cut s A = A := by unfold Dr.cut; rw [if_neg hlen]
   rw [hc];have hl2 : ¬ (65536 : Int) < (s.size : Int) := by omega
   have hl3 : (s.size : Int) ≤ 65536 := by omega
   have K1 := Lib.hid (Dr.one_any s w1 A (by omega) (Utf8Tabs_below hT hal) hA);have HAL := Lib.hid hal;have HBX := Lib.hid (fun w' (hb : Below w1.heap.size w1 w') => show Dr.Box0 B w' from (hb.block B (by omega)).trans hbx1);have HHB := Lib.hid hB;have HZ1 := Lib.hid hz1;clear hal hq1 hbx1 hA hT hc;go_enter Tryz.func5,Tryz.ntmps5;go_wp2_with fail;refine K1.out.mono ?_;cases A with
   | err e =>
     rintro x w2 ⟨rfl,hb2⟩;have hbx2 := HBX.out w2 hb2;obtain ⟨⟨a0,a1,a2,a3,a4,a5,a6,a7,a8,a9,a10⟩,f0,f1,f2,f3,f4,f5,f6,f7,f8,f9,f10⟩ := Dr.same11 hbx2;obtain ⟨i0,i1,i2,i3,i4,i5,i6,i7,i8,i9,i10⟩ := Dr.cells11 hbx2;have HE := Lib.hid (show Dr.PostOne w (.err e) (.returned (.tuple #[Dr.voidV,.int .i64 0,.int .i64 e])) w2 from ⟨rfl,HAL.out.trans (hb2.mono HAL.out.size)⟩);clear hb2 hbx2 K1;unfold Dr.voidV;go_wp2_with fail;refine bodyPost_ret (v := .tuple #[Dr.voidV,.int .i64 0,.int .i64 e]) (by simp [results,Tryz.results5,go_sem,i0,i1,i2,i3,i4,i5,i6,i7,i8,i9,i10,Dr.voidV]) rfl HE.out
   | ok t n =>
     rintro x w2 ⟨v,rfl,hI2,hb2⟩;obtain ⟨C6,rfl⟩ := Dr.in_agg hI2;obtain ⟨hv,lv,b3,b4,b6,b7,b9,b10,m3,m4,m6,m7,m9,m10,d3',d4,d6,d7,d9,d10,eC8,et8,_,_⟩ := Tr.In.form2 hI2;subst eC8;clear et8;unfold Tr.cells at *;have hbx2 := HBX.out w2 hb2;obtain ⟨Y1,Y2,Y3,Y4,Y5,Y6,Y7,Y8,Y9,Y10,Y11,⟨g0,y0,s0⟩,⟨g1,y1,s1'⟩,⟨g2,y2,s2'⟩,⟨g3,y3,s3'⟩,⟨g4,y4,s4'⟩,⟨g5,y5,s5'⟩,⟨g6,y6,s6'⟩,⟨g7,y7,s7'⟩,⟨g8,y8,s8'⟩,⟨g9,y9,s9'⟩,⟨g10,y10,s10'⟩,⟨r0,r1,r2',r3,r4,r5,r6,r7,r8,r9,r10⟩,HY⟩ := hbx2.put (.int .i64 hv.k) (.int .i64 hv.n) (.bool hv.s1) (.slice b3 m3 d3') (.slice b4 m4 d4) (.bool hv.s2) (.slice b6 m6 d6) (.slice b7 m7 d7) (.string hv.x) (.slice b9 m9 d9) (.slice b10 m10 d10);have HE := Lib.hid (show Dr.PostOne w (.ok t n) (.returned (.tuple #[.agg #[.int .i64 hv.k,.int .i64 hv.n,.bool hv.s1,.slice b3 m3 d3',.slice b4 m4 d4,.bool hv.s2,.slice b6 m6 d6,.slice b7 m7 d7,.string hv.x,.slice b9 m9 d9,.slice b10 m10 d10],.int .i64 (n : Int),.int .i64 0])) Y11 from by
       refine ⟨_,rfl,?_,HY.out.2.2.2 _ _ (HAL.out.trans (hb2.mono HAL.out.size)) (Nat.le_of_eq HHB.out)⟩
       exact Tr.In.mono (S := fun q => w1.heap.size ≤ q) (fun q hq => by show w.heap.size ≤ q; have := HHB.out; have := HZ1.out; omega) _ _ (Tr.In.kept ⟨Nat.le_of_eq HY.out.2.1.symm,fun q hq _ => HY.out.2.2.1 q (by have := HZ1.out; omega)⟩ _ _ hI2))
     clear hb2 hbx2 K1 hI2 HY;go_wp2_with fail;refine bodyPost_ret (v := .tuple #[.agg #[.int .i64 hv.k,.int .i64 hv.n,.bool hv.s1,.slice b3 m3 d3',.slice b4 m4 d4,.bool hv.s2,.slice b6 m6 d6,.slice b7 m7 d7,.string hv.x,.slice b9 m9 d9,.slice b10 m10 d10],.int .i64 (n : Int),.int .i64 0]) (by simp [results,Tryz.results5,go_sem,r0,r1,r2',r3,r4,r5,r6,r7,r8,r9,r10]) rfl HE.out
theorem Ro.says (t : Tr) : Ro.Says t := Ro.says_step t (fun u _ => Ro.says u)
termination_by Tr.size t
decreasing_by assumption
theorem Ro.once_walk (s : ByteArray) (w : World) (hT : Wt.Tabs w) :
 Calls Tryz.prog 4 #[.string s] w fun e w' => e = .returned (.bool true) ∧ Below w.heap.size w w' := by
 have HT := Lib.hid hT
 have HAW := Lib.hid (fun w' (hb : Below w.heap.size w w') => Wt.awake w' (HT.out.below hb))
 obtain ⟨A,hA⟩ := Dr.One.total s.data.toList
 have KR := Lib.hid (Dr.DRead_any s w A HT.out.utf hA)
 obtain ⟨A',hA'⟩ : ∃ z,Dr.cut s A = z := ⟨_,rfl⟩
 have HOK := Lib.hid (show (∃ x,A' = .err x ∧ (x == 0) = false ∧ (x != 0) = true) ∨ ∃ t n,A' = .ok t n ∧ Tr.sound t = true ∧ Wt.fit t from by
   rw [← hA'];unfold Dr.cut;by_cases hl : 65536 < s.size
   · rw [if_pos hl]; exact .inl ⟨18,rfl,rfl,rfl⟩
   · rw [if_neg hl];cases A with
     | err x => refine .inl ⟨x,rfl,?_⟩; have he : x = 5 ∨ x = 11 ∨ x = 4 := (by cases hA <;> simp); rcases he with h | h | h <;> (subst h; exact ⟨rfl,rfl⟩)
     | ok t n => exact .inr ⟨t,n,rfl,hA.ok_le.2.2,hA.fit (by rw [show s.data.toList.length = s.size by simp]; omega)⟩)
 rw [hA'] at KR
 clear hT hA hA'
 rcases HOK.out with ⟨x,rfl,hx0,hx1⟩ | ⟨t,n,rfl,hsd,hft⟩
 · go_enter Tryz.func4,Tryz.ntmps4;go_wp2_with fail;refine KR.out.mono ?_;rintro y w1 ⟨rfl,hb1⟩;unfold Dr.voidV;obtain ⟨w2,hw2⟩ : ∃ z,w1.alloc (.cells #[.int .i64 0,.int .i64 0,.bool false,.slice none 0 0,.slice none 0 0,.bool false,.slice none 0 0,.slice none 0 0,.string ⟨#[]⟩,.slice none 0 0,.slice none 0 0] 30) = z := ⟨_,rfl⟩;have hq2 : w2.heap[w1.heap.size]? = some (.cells #[.int .i64 0,.int .i64 0,.bool false,.slice none 0 0,.slice none 0 0,.bool false,.slice none 0 0,.slice none 0 0,.string ⟨#[]⟩,.slice none 0 0,.slice none 0 0] 30 (0,0)) := by rw [← hw2]; exact heap_alloc_new w1 _
   have hal2 : Below w1.heap.size w1 w2 := by rw [← hw2]; exact (Below.refl _ _).alloc (Nat.le_refl _) _
   have HB2 := Lib.hid (hb1.trans (hal2.mono hb1.size));obtain ⟨⟨xa0,xa1,xa2,xa3,xa4,xa5,xa6,xa7,xa8,xa9,xa10⟩,xf0,xf1,xf2,xf3,xf4,xf5,xf6,xf7,xf8,xf9,xf10⟩ := Dr.same11 (B := w1.heap.size) hq2;obtain ⟨xc0,xc1,xc2,xc3,xc4,xc5,xc6,xc7,xc8,xc9,xc10⟩ := Dr.cells11 hq2;clear hb1 hq2 hal2 KR HOK;go_wp2_with fail;refine (HAW.out w2 HB2.out).mono ?_;rintro y w3 ⟨rfl,hb3⟩;have HB3 := Lib.hid (HB2.out.trans (hb3.mono HB2.out.size));clear hb3;go_wp2_with fail;refine (HAW.out w3 HB3.out).mono ?_;rintro y w4 ⟨rfl,hb4⟩;have HB4 := Lib.hid (HB3.out.trans (hb4.mono HB3.out.size));clear hb4;go_wp2_with fail;go_ret;exact ⟨rfl,HB4.out⟩
 · have HF := Lib.hid hft;have HSD := Lib.hid hsd;have HG := Lib.hid (Tr.sound_good hsd);obtain ⟨T,hT⟩ : ∃ z,Wt.tell true t = z := ⟨_,rfl⟩;obtain ⟨U,hU⟩ : ∃ z,Tx.str T = z := ⟨_,rfl⟩;obtain ⟨m,hm⟩ : ∃ z,U.size = z := ⟨_,rfl⟩;have hUl : U.data.toList = T := by rw [← hU]; unfold Tx.str; exact List.toList_toArray
   have hTm : T.length = m := by rw [← hm,← hUl]; simp
   have KW := Lib.hid (fun (S : Nat → Prop) v w' (hI : Tr.In w' S t v) (hb : Below w.heap.size w w') => show Calls Tryz.prog 11 #[v] w' (fun e w'' => e = .returned (.tuple #[.string U,.int .i64 0]) ∧ Below w'.heap.size w' w'') from by
     have h := Wt.Write_any t S v w' hI (HT.out.below hb) hft;unfold Wt.answer at h;rw [if_pos hsd,hT,hU] at h
     exact h)
   have KRT := Lib.hid (fun (hf : Ro.fine t) (hl : ¬ 65536 < m) w' (hb : Below w.heap.size w w') => show Calls Tryz.prog 5 #[.string U] w' (Dr.PostOne w' (.ok t m)) from by
     have h1 := Ro.one hsd hf;rw [hT,hTm,← hUl] at h1;have h := Dr.DRead_any U w' _ (HT.out.below hb).utf h1;unfold Dr.cut at h;rw [if_neg (by omega)] at h
     exact h)
   have HM := Lib.hid hm;clear hUl hTm hT hU hsd hft;go_enter Tryz.func4,Tryz.ntmps4;go_wp2_with fail;refine KR.out.mono ?_;rintro y w1 ⟨v,rfl,hI,hb1⟩;obtain ⟨C,rfl⟩ := Dr.in_agg hI;have hI0 := hI;obtain ⟨hp,lp,pa3,pa4,pa6,pa7,pa9,pa10,pn3,pn4,pn6,pn7,pn9,pn10,pc3,pc4,pc6,pc7,pc9,pc10,eC,et,_,_⟩ := Tr.In.form2 hI;subst eC;clear et;unfold Tr.cells at *;obtain ⟨w2,hw2⟩ : ∃ z,w1.alloc (.cells #[.int .i64 hp.k,.int .i64 hp.n,.bool hp.s1,.slice pa3 pn3 pc3,.slice pa4 pn4 pc4,.bool hp.s2,.slice pa6 pn6 pc6,.slice pa7 pn7 pc7,.string hp.x,.slice pa9 pn9 pc9,.slice pa10 pn10 pc10] 30) = z := ⟨_,rfl⟩;have hq2 : w2.heap[w1.heap.size]? = some (.cells #[.int .i64 hp.k,.int .i64 hp.n,.bool hp.s1,.slice pa3 pn3 pc3,.slice pa4 pn4 pc4,.bool hp.s2,.slice pa6 pn6 pc6,.slice pa7 pn7 pc7,.string hp.x,.slice pa9 pn9 pc9,.slice pa10 pn10 pc10] 30 (0,0)) := by rw [← hw2]; exact heap_alloc_new w1 _
   have hal2 : Below w1.heap.size w1 w2 := by rw [← hw2]; exact (Below.refl _ _).alloc (Nat.le_refl _) _
   have HB2 := Lib.hid (hb1.trans (hal2.mono hb1.size));have HQ2 := Lib.hid hq2;have HI2 := Lib.hid (Tr.In.below hI hal2 (Nat.le_refl _));have HFINE := Lib.hid (fun h => Ro.may_fine t _ hI h);clear hb1 hq2 hal2 KR HOK hI hI0;go_wp2_with fail;refine (HAW.out w2 HB2.out).mono ?_;rintro y w3 ⟨rfl,hb3⟩;have HB3 := Lib.hid (HB2.out.trans (hb3.mono HB2.out.size));have HL3 := Lib.hid hb3;have hq3 := (hb3.block w1.heap.size (Array.getElem?_eq_some_iff.1 HQ2.out).1).trans HQ2.out;obtain ⟨k0,k1,k2,k3,k4,k5,k6,k7,k8,k9,k10⟩ := Dr.cells11 hq3;have KB := Lib.hid (Ro.says t _ _ w3 (Tr.In.below HI2.out hb3 (Nat.le_refl _)) HG.out);obtain ⟨r,hr⟩ : ∃ z,Ro.may t = z := ⟨_,rfl⟩;rw [hr] at KB HFINE;clear hb3 hq3 hr;go_wp2_with fail;refine KB.out.mono ?_;rintro y w4 ⟨rfl,hb4⟩;have HB4 := Lib.hid (HB3.out.trans (hb4.mono HB3.out.size));have HL4 := Lib.hid (HL3.out.trans (hb4.mono HL3.out.size));clear hb4 KB k0 k1 k2 k3 k4 k5 k6 k7 k8 k9 k10;have hq4 := (HL4.out.block w1.heap.size (Array.getElem?_eq_some_iff.1 HQ2.out).1).trans HQ2.out;obtain ⟨k0,k1,k2,k3,k4,k5,k6,k7,k8,k9,k10⟩ := Dr.cells11 hq4;clear hq4;cases r with
   | false =>
     go_wp2_with fail;refine (HAW.out w4 HB4.out).mono ?_;rintro y w5 ⟨rfl,hb5⟩;have HB5 := Lib.hid (HB4.out.trans (hb5.mono HB4.out.size));clear hb5;go_wp2_with fail;go_ret;exact ⟨rfl,HB5.out⟩
   | true =>
     have KW4 := Lib.hid (KW.out _ _ w4 (Tr.In.below HI2.out HL4.out (Nat.le_refl _)) HB4.out);go_wp2_with fail;refine KW4.out.mono ?_;rintro y w5 ⟨rfl,hb5⟩;have HB5 := Lib.hid (HB4.out.trans (hb5.mono HB4.out.size));have HL5 := Lib.hid (HL4.out.trans (hb5.mono HL4.out.size));clear hb5 KW4 k0 k1 k2 k3 k4 k5 k6 k7 k8 k9 k10;by_cases hlong : 65536 < m
     · have hl2 : (65536 : Int) < (m : Int) := by omega
       clear hlong;go_wp2_with fail;go_ret;exact ⟨rfl,HB5.out⟩
     · have hl2 : ¬ (65536 : Int) < (m : Int) := by omega
       have KR5 := Lib.hid (KRT.out (HFINE.out (by first | rfl | trivial)) hlong w5 HB5.out);clear hlong;go_wp2_with fail;refine KR5.out.mono ?_;rintro y w6 ⟨v2,rfl,hI6,hb6⟩;obtain ⟨C2,rfl⟩ := Dr.in_agg hI6;obtain ⟨hd,ld,da3,da4,da6,da7,da9,da10,dn3,dn4,dn6,dn7,dn9,dn10,dc3,dc4,dc6,dc7,dc9,dc10,eC,et,_,_⟩ := Tr.In.form2 hI6;subst eC;clear et;unfold Tr.cells at *;obtain ⟨w7,hw7⟩ : ∃ z,w6.alloc (.cells #[.int .i64 hd.k,.int .i64 hd.n,.bool hd.s1,.slice da3 dn3 dc3,.slice da4 dn4 dc4,.bool hd.s2,.slice da6 dn6 dc6,.slice da7 dn7 dc7,.string hd.x,.slice da9 dn9 dc9,.slice da10 dn10 dc10] 30) = z := ⟨_,rfl⟩;have hq7 : w7.heap[w6.heap.size]? = some (.cells #[.int .i64 hd.k,.int .i64 hd.n,.bool hd.s1,.slice da3 dn3 dc3,.slice da4 dn4 dc4,.bool hd.s2,.slice da6 dn6 dc6,.slice da7 dn7 dc7,.string hd.x,.slice da9 dn9 dc9,.slice da10 dn10 dc10] 30 (0,0)) := by rw [← hw7]; exact heap_alloc_new w6 _
       have hal7 : Below w6.heap.size w6 w7 := by rw [← hw7]; exact (Below.refl _ _).alloc (Nat.le_refl _) _
       have hb67 := hb6.trans (hal7.mono hb6.size);have HB7 := Lib.hid (HB5.out.trans (hb67.mono HB5.out.size));have HL7 := Lib.hid (HL5.out.trans (hb67.mono HL5.out.size));have HQ7 := Lib.hid hq7;have HI7 := Lib.hid (Tr.In.below hI6 hal7 (Nat.le_refl _));obtain ⟨j0,j1,j2,j3,j4,j5,j6,j7,j8,j9,j10⟩ := Dr.cells11 hq7;have KW7 := Lib.hid (KW.out _ _ w7 HI7.out HB7.out);clear hb6 hb67 hq7 hal7 KR5 hI6;go_wp2_with fail;refine KW7.out.mono ?_;rintro y w8 ⟨rfl,hb8⟩;have HB8 := Lib.hid (HB7.out.trans (hb8.mono HB7.out.size));have HL8 := Lib.hid (HL7.out.trans (hb8.mono HL7.out.size));have hq8 := (hb8.block w6.heap.size (Array.getElem?_eq_some_iff.1 HQ7.out).1).trans HQ7.out;have hp8 := (HL8.out.block w1.heap.size (Array.getElem?_eq_some_iff.1 HQ2.out).1).trans HQ2.out;clear j0 j1 j2 j3 j4 j5 j6 j7 j8 j9 j10;obtain ⟨j0,j1,j2,j3,j4,j5,j6,j7,j8,j9,j10⟩ := Dr.cells11 hq8;obtain ⟨k0,k1,k2,k3,k4,k5,k6,k7,k8,k9,k10⟩ := Dr.cells11 hp8;have KS := Lib.hid (Sm.same t _ _ _ _ w8 (Tr.In.below HI2.out HL8.out (Nat.le_refl _)) (Tr.In.below HI7.out hb8 (Nat.le_refl _)));clear hb8 hq8 hp8 KW7;go_wp2_with fail;refine KS.out.mono ?_;rintro y w9 ⟨rfl,hb9⟩;have HB9 := Lib.hid (HB8.out.trans (hb9.mono HB8.out.size));clear hb9;go_wp2_with fail;go_ret;exact ⟨rfl,HB9.out⟩
end Go.Proofs.YteklhapffplohaaGreatDoor
namespace Go.Proofs.YteklhapffplohaaGreatDoor
open Go.RowKit
theorem writeOnce.walk (s : ByteArray) (w : World) (hs : s.size ≤ 140737488351232) (hT : Wt.Tabs w) :
 Calls Tryz.prog 4 #[.string s] w fun e w' => e = .returned (.bool true) ∧ Below w.heap.size w w' :=
 Ro.once_walk s w hT
end Go.Proofs.YteklhapffplohaaGreatDoor
namespace Go.Proofs.YteklhapffplohaaGreatDoor.writeOnce
open Go.ChangeShapes Go.WideShapes Go.ChangeAt Go.RowKit Go.Joins
open Go.ChangeMaps (open_string shut_string)
theorem own : ownKnob Tryz.prog.godebug = none := by kernel_rfl
theorem laidOut : laidOutB Tryz.prog = true := by kernel_rfl
def args0 : Array Value := #[.string .empty]
theorem laid_met (os : Os) : laidMetH Tryz.prog Rows.writeOnceRow.laid ((World.laidAll Tryz.prog os Rows.writeOnceRow.laid).forCall (fun _ _ => 0) ⟨#[],args0,[]⟩).memory := by
 rw [MakeChecks.laidMetH_plain _ _ _ (by kernel_rfl)];exact laidMet_laidAll _ (by kernel_rfl) (by kernel_rfl)
theorem reads (os : Os) {H : Type} (enc : TypeId × Value → H) : ∃ places,DataW.whole enc Tryz.prog ((World.laidAll Tryz.prog os Rows.writeOnceRow.laid).forCall (fun _ _ => 0) ⟨#[],args0,[]⟩).memory Tryz.f4.params.toList Rows.writeOnceSpec.vars false args0.toList 8 = some ([.lit (.string [])],[],places) :=
 ⟨[],by kernel_rfl⟩
theorem xU8 : U8Extra Tryz.prog Tryz.laysValid196_ren := ⟨by kernel_rfl,by kernel_rfl,by kernel_rfl,by kernel_rfl,by kernel_rfl,by kernel_rfl,by kernel_rfl⟩
theorem accEq : (Rows.laid_unicode_utf8_acceptRanges : DataW Unit) = Lib.acceptData := by kernel_rfl
theorem tabs {W : World} (hL : laidMetH Tryz.prog Rows.writeOnceRow.laid W) : Tr.Tabs W := by
 rw [MakeChecks.laidMetH_plain _ _ _ (by kernel_rfl)] at hL;exact utf8Tabs_of_readsT (U8Types.of196 Tryz.laysValid196) xU8 (Pinned.utf8First_eq ▸ Lib.laidMet.reads hL (by first | exact .tail _ (.tail _ (.tail _ (.tail _ (.head _)))) | exact .tail _ (.head _) | (unfold Rows.writeOnceRow; simp))) (accEq ▸ Lib.laidMet.reads hL (by first | exact .tail _ (.tail _ (.tail _ (.head _))) | exact .head _ | (unfold Rows.writeOnceRow; simp)))
theorem wtabs {W : World} (hL : laidMetH Tryz.prog Rows.writeOnceRow.laid W) : Wt.Tabs W := by
 have hu := tabs hL;rw [MakeChecks.laidMetH_plain _ _ _ (by kernel_rfl)] at hL;exact ⟨hu,Wt.bits_of (Lib.laidMet.reads hL (.tail _ (.head _))),Wt.pow_of (Lib.laidMet.reads hL (.tail _ (.tail _ (.head _))))⟩
theorem lifted (os : Os) (started : os.Started) (H : Type) (enc : TypeId × Value → H) (F : Stop.Interp) :
 ReturnsInHanded {} Tryz.checked os 4 .any ((OpenSpec.ofChange Rows.writeOnceSpec).preRow enc Tryz.prog Tryz.f4 Rows.writeOnceRow.domain false Rows.writeOnceRow.laid) (((OpenSpec.ofChange Rows.writeOnceSpec).at F).post enc Tryz.prog Tryz.f4 false true false false) := by
 obtain ⟨places,hx⟩ := reads os enc
 refine returnsInHanded_of_row (C := Tryz.checked) (s := OpenSpec.ofChange Rows.writeOnceSpec) own started (by kernel_rfl) Tryz.func4
  (witness_row_at (enc := enc) (C := Tryz.checked) false (World.laidAll Tryz.prog os Rows.writeOnceRow.laid) args0 (World.laidAll_os _ _ _) (by kernel_rfl) (by kernel_rfl) (by kernel_rfl)
    (OpenSpec.preRow_of_cond 8 hx (by kernel_rfl) (fun k hk => by cases hk) (by kernel_rfl) (laid_met os))) ?_
 intro W base args ds gs before hval hW _ hcond hsz hL hshaped _
 have hW' := hW
 obtain ⟨p,q,hA0,hV,rfl,hfz,hnd⟩ := hW
 have hA : DataW.TrodAll enc Tryz.prog W 0 (fun _ => true) true Tryz.f4.params.toList args.toList ds p := hA0
 rw [Tryz.params4] at hA hval
 obtain ⟨v0,vs0,d0,ds0,p0,q0,hargs,rfl,rfl,h0,r0⟩ := trodAll_cons hA
 obtain ⟨rfl,rfl,rfl⟩ := trodAll_nil r0
 obtain rfl : args = #[v0] := by cases args; simp_all
 obtain ⟨rfl,rfl⟩ := trodVars_none hV
 clear hA0
 simp only [List.append_nil] at hW'
 have k0 := h0
 have lt0 : ∀ x ∈ p0,x.block < W.heap.size := fun x hx => by simpa using hW'.lt x (by simp [hx])
 have hsz2 : (DataW.weightsEach Tryz.prog [9] [d0]).all (· ≤ reachBytes) = true := by
  have := hsz;rw [Tryz.params4] at this;exact this
 obtain ⟨s0,rfl,rfl,rfl,hmax0⟩ := open_string Tryz.underlying9 (hval 0 9 v0 rfl rfl) h0
 have hs0 : s0.size ≤ 140737488351232 := by
  have := sized_string hsz2 (j := 0) (t := 9) rfl rfl;simp only [reachBytes] at this;simpa using this
 refine (walk s0 W hs0 (wtabs hL)).mono fun e W' ⟨he,bel⟩ => ?_
 subst he
 exact ⟨_,rfl,_,_,_,[],_,[],hW',trodAll_mk1 (shut_bool Tryz.underlying4 _),(trodAll_cons_mk (Below.trod laidOut (by kernel_rfl) (of_decide_eq_true (by kernel_rfl)) k0 bel lt0) trodAll_mk0),rfl,bel.frame _,fun h => by cases h⟩
theorem said : Rows.WriteOnceSaid :=
 OpenClaim.holds_of_cond 4 Tryz.f4 rfl rfl rfl rfl rfl rfl rfl ⟨rfl,rfl,rfl,rfl,rfl⟩ rfl rfl rfl rfl rfl (by kernel_rfl) Tryz.func4 (by kernel_rfl)
  (of_decide_eq_true (by kernel_rfl)) (by unfold Func.isWrapper; first | (rw [if_pos (by decide +kernel)]; kernel_rfl) | (rw [if_neg (by decide +kernel)]; exact ⟨rfl,rfl⟩))
  (fun os started H enc _ F => by rw [OpenClaim.pre_eq_preRow]; exact lifted os started H enc F)
theorem plain (f : FuncId) (fn : Func) (hf : Tryz.pinned.checked.prog.funcNamed "sextant/sextantlaw09.WriteOnce" = some f) (hfn : Tryz.pinned.checked.prog.funcs[f]? = some fn) :
 true = Tryz.pinned.checked.prog.looks [] ∧ ∀ (j : Nat) t,fn.params[j]? = some t → Tryz.pinned.checked.prog.wantsStandIn t = false := by
 obtain rfl : f = 4 := Option.some.inj ((show Tryz.prog.funcNamed "sextant/sextantlaw09.WriteOnce" = some 4 by kernel_rfl).symm.trans hf) |>.symm
 obtain rfl : fn = Tryz.f4 := (Option.some.inj (Tryz.func4.symm.trans hfn)).symm
 refine ⟨by kernel_rfl,fun j t ht => ?_⟩
 rw [Tryz.params4] at ht
 have hm : t ∈ [9] := by simpa using Array.mem_of_getElem? ht
 have hall : ([9].all fun u => !Tryz.prog.wantsStandIn u) = true := by kernel_rfl
 exact (show Tryz.prog.wantsStandIn t = false by simpa using List.all_eq_true.1 hall t hm)
theorem card : Rows.WriteOnceCardSaid :=
 Claim7.holds_tied_plain_at .later [] _ _ _ _ said (fun _ h => by cases h) (by kernel_rfl) (fun _ h => by cases h) writeOnce_row_tie rfl ⟨rfl,rfl⟩ (by kernel_rfl) rfl plain (by kernel_rfl)
end Go.Proofs.YteklhapffplohaaGreatDoor.writeOnce
