/-
  The reader's functions that call one another: each comes to what its job comes to. one: the datum that a text begins with. Read and All of any text.
-/
import Derived.Test.YteklhapffplohaaGreatDoorVk
import Derived.Test.YteklhapffplohaaGreatDoorVm
import Derived.Test.YteklhapffplohaaGreatDoorVx
import Derived.Test.YteklhapffplohaaGreatDoorVza
import Derived.Test.YteklhapffplohaaGreatDoorVu
import Derived.Test.YteklhapffplohaaGreatDoorVo
set_option linter.unusedVariables false
set_option linter.unusedSimpArgs false
namespace Go.Proofs.YteklhapffplohaaGreatDoor
open Go.RowKit
theorem Dr.con_all : ∀ (n : Nat) (j : Dr.Job),j.len ≤ n → Dr.Con j
 | n,j,hn => by
   have IH : ∀ j' : Dr.Job,j'.len < j.len → Dr.Con j' := fun j' h => by
    cases n with
    | zero => omega
    | succ n => exact Dr.con_all n j' (by omega)
   cases j with
   | blanks l => exact Dr.blanks_con l IH
   | datum l => exact Dr.datum_con l IH
   | items e l => exact Dr.items_con e l IH
   | pairs e f l => exact Dr.pairs_con e f l IH
theorem Dr.con (j : Dr.Job) : Dr.Con j := Dr.con_all _ j (Nat.le_refl _)
theorem Dr.ttabs {w : World} (h : Dr.Tabs w) : Tr.Tabs w := h
def Dr.voidV : Value := .agg #[.int .i64 0,.int .i64 0,.bool false,.slice none 0 0,.slice none 0 0,.bool false,.slice none 0 0,.slice none 0 0,.string ⟨#[]⟩,.slice none 0 0,.slice none 0 0]
def Dr.PostOne (w : World) (A : Dr.Ans) (e : Ending) (w' : World) : Prop :=
 match A with
 | .err x => e = .returned (.tuple #[Dr.voidV,.int .i64 0,.int .i64 x]) ∧ Below w.heap.size w w'
 | .ok t n => ∃ v,e = .returned (.tuple #[v,.int .i64 (n : Int),.int .i64 0]) ∧ Tr.In w' (fun q => w.heap.size ≤ q) t v ∧ Below w.heap.size w w'
theorem Dr.at_start (b : Nat) (s : ByteArray) (w : World) (h : w.heap[b]? = some (.cells #[.string s,.int .i64 0,.bool false] 49 (0,0))) : Dr.At b s s.data.toList false w := by
 have e : s.size - s.data.toList.length = 0 := by simp
 exact ⟨by rw [e]; exact h,by rw [e]; rfl,by simp⟩
theorem Dr.one_worlds (s : ByteArray) (w : World) : ∃ w1 w2 w3 w4 : World,
 w.alloc (.cells #[.int .i64 0,.int .i64 0,.bool false,.slice none 0 0,.slice none 0 0,.bool false,.slice none 0 0,.slice none 0 0,.string ⟨#[]⟩,.slice none 0 0,.slice none 0 0] 30) = w1 ∧
 w1.alloc (.cells #[.int .i64 0] 3) = w2 ∧ w2.alloc (.cells #[.int .i64 0] 31) = w3 ∧ w3.alloc (.cells #[.string s,.int .i64 0,.bool false] 49) = w4 ∧
 w1.heap.size = w.heap.size + 1 ∧ w2.heap.size = w.heap.size + 2 ∧ w3.heap.size = w.heap.size + 3 ∧ w4.heap.size = w.heap.size + 4 ∧
 Hid (Dr.Door w.heap.size w4 ∧ Dr.At (w.heap.size + 3) s s.data.toList false w4 ∧ Below w.heap.size w w4) := by
 refine ⟨_,_,_,_,rfl,rfl,rfl,rfl,by simp,by simp,by simp,by simp,Lib.hid ⟨⟨?_,?_,?_⟩,Dr.at_start _ s _ ?_,?_⟩⟩
 · have h1 := heap_alloc_new w (.cells #[.int .i64 0,.int .i64 0,.bool false,.slice none 0 0,.slice none 0 0,.bool false,.slice none 0 0,.slice none 0 0,.string ⟨#[]⟩,.slice none 0 0,.slice none 0 0] 30);show _ = _;rw [((Below.refl _ _).alloc (Nat.le_refl _) _).block _ (by simp <;> omega),((Below.refl _ _).alloc (Nat.le_refl _) _).block _ (by simp <;> omega),((Below.refl _ _).alloc (Nat.le_refl _) _).block _ (by simp)];exact h1
 · have h1 := heap_alloc_new (w.alloc (.cells #[.int .i64 0,.int .i64 0,.bool false,.slice none 0 0,.slice none 0 0,.bool false,.slice none 0 0,.slice none 0 0,.string ⟨#[]⟩,.slice none 0 0,.slice none 0 0] 30)) (.cells #[.int .i64 0] 3);rw [show (w.alloc (.cells #[.int .i64 0,.int .i64 0,.bool false,.slice none 0 0,.slice none 0 0,.bool false,.slice none 0 0,.slice none 0 0,.string ⟨#[]⟩,.slice none 0 0,.slice none 0 0] 30)).heap.size = w.heap.size + 1 by simp] at h1;rw [((Below.refl _ _).alloc (Nat.le_refl _) _).block _ (by simp <;> omega),((Below.refl _ _).alloc (Nat.le_refl _) _).block _ (by simp)];exact h1
 · have h1 := heap_alloc_new ((w.alloc (.cells #[.int .i64 0,.int .i64 0,.bool false,.slice none 0 0,.slice none 0 0,.bool false,.slice none 0 0,.slice none 0 0,.string ⟨#[]⟩,.slice none 0 0,.slice none 0 0] 30)).alloc (.cells #[.int .i64 0] 3)) (.cells #[.int .i64 0] 31);rw [show ((w.alloc (.cells #[.int .i64 0,.int .i64 0,.bool false,.slice none 0 0,.slice none 0 0,.bool false,.slice none 0 0,.slice none 0 0,.string ⟨#[]⟩,.slice none 0 0,.slice none 0 0] 30)).alloc (.cells #[.int .i64 0] 3)).heap.size = w.heap.size + 2 by simp] at h1;rw [((Below.refl _ _).alloc (Nat.le_refl _) _).block _ (by simp)];exact h1
 · have h1 := heap_alloc_new (((w.alloc (.cells #[.int .i64 0,.int .i64 0,.bool false,.slice none 0 0,.slice none 0 0,.bool false,.slice none 0 0,.slice none 0 0,.string ⟨#[]⟩,.slice none 0 0,.slice none 0 0] 30)).alloc (.cells #[.int .i64 0] 3)).alloc (.cells #[.int .i64 0] 31)) (.cells #[.string s,.int .i64 0,.bool false] 49);rw [show (((w.alloc (.cells #[.int .i64 0,.int .i64 0,.bool false,.slice none 0 0,.slice none 0 0,.bool false,.slice none 0 0,.slice none 0 0,.string ⟨#[]⟩,.slice none 0 0,.slice none 0 0] 30)).alloc (.cells #[.int .i64 0] 3)).alloc (.cells #[.int .i64 0] 31)).heap.size = w.heap.size + 3 by simp] at h1;exact h1
 · exact ((((Below.refl _ _).alloc (Nat.le_refl _) _).alloc (by simp) _).alloc (by simp <;> omega) _).alloc (by simp <;> omega) _
theorem Dr.at_ne {b : Nat} {S : ByteArray} {l : List UInt8} {g : Bool} {w : World} (h : Dr.At b S l g w) (hl : l ≠ []) : (((S.size - l.length : Nat) : Int) == (S.size : Int)) = false := by
 have := List.length_pos_iff.2 hl;have := h.le;exact beq_eq_false_iff_ne.2 (by omega)
theorem Dr.same11g {B : Nat} {w : World} {v0 v1 v2 v3 v4 v5 v6 v7 v8 v9 v10 : Value} (h : Dr.Box B v0 v1 v2 v3 v4 v5 v6 v7 v8 v9 v10 w) :
 (w.setCell ⟨B,0,none⟩ v0 = w ∧ w.setCell ⟨B,1,none⟩ v1 = w ∧ w.setCell ⟨B,2,none⟩ v2 = w ∧ w.setCell ⟨B,3,none⟩ v3 = w ∧ w.setCell ⟨B,4,none⟩ v4 = w ∧ w.setCell ⟨B,5,none⟩ v5 = w ∧ w.setCell ⟨B,6,none⟩ v6 = w ∧ w.setCell ⟨B,7,none⟩ v7 = w ∧ w.setCell ⟨B,8,none⟩ v8 = w ∧ w.setCell ⟨B,9,none⟩ v9 = w ∧ w.setCell ⟨B,10,none⟩ v10 = w) ∧
 (w.frozen? ⟨B,0,none⟩ = false ∧ w.frozen? ⟨B,1,none⟩ = false ∧ w.frozen? ⟨B,2,none⟩ = false ∧ w.frozen? ⟨B,3,none⟩ = false ∧ w.frozen? ⟨B,4,none⟩ = false ∧ w.frozen? ⟨B,5,none⟩ = false ∧ w.frozen? ⟨B,6,none⟩ = false ∧ w.frozen? ⟨B,7,none⟩ = false ∧ w.frozen? ⟨B,8,none⟩ = false ∧ w.frozen? ⟨B,9,none⟩ = false ∧ w.frozen? ⟨B,10,none⟩ = false) :=
 ⟨⟨Dr.put_same h 0 _ rfl,Dr.put_same h 1 _ rfl,Dr.put_same h 2 _ rfl,Dr.put_same h 3 _ rfl,Dr.put_same h 4 _ rfl,Dr.put_same h 5 _ rfl,Dr.put_same h 6 _ rfl,Dr.put_same h 7 _ rfl,Dr.put_same h 8 _ rfl,Dr.put_same h 9 _ rfl,Dr.put_same h 10 _ rfl⟩,
   Rt.frozen_of h 0,Rt.frozen_of h 1,Rt.frozen_of h 2,Rt.frozen_of h 3,Rt.frozen_of h 4,Rt.frozen_of h 5,Rt.frozen_of h 6,Rt.frozen_of h 7,Rt.frozen_of h 8,Rt.frozen_of h 9,Rt.frozen_of h 10⟩
theorem Dr.tellN {B : Nat} {w : World} {v0 v1 v2 v3 v4 v5 v6 v7 v8 v9 v10 : Value} (h : Dr.Box B v0 v1 v2 v3 v4 v5 v6 v7 v8 v9 v10 w) (hn : w.heap[B + 1]? = some (.cells #[.int .i64 0] 3 (0,0))) (he : w.heap[B + 2]? = some (.cells #[.int .i64 0] 31 (0,0))) (n : Int) (q : Nat × Nat) (hq : q.1 ≠ B + 1) :
 ∃ W,w.setCell ⟨B + 1,0,none⟩ (.int .i64 n) = W ∧ Dr.Box B v0 v1 v2 v3 v4 v5 v6 v7 v8 v9 v10 W ∧ W.heap[B + 1]? = some (.cells #[.int .i64 n] 3 (0,0)) ∧ W.heap[B + 2]? = some (.cells #[.int .i64 0] 31 (0,0)) ∧ W.cell? ⟨q.1,q.2,none⟩ = w.cell? ⟨q.1,q.2,none⟩ ∧ (W.heap.size = w.heap.size ∧ ∀ k,k ≠ B + 1 → W.heap[k]? = w.heap[k]?) ∧ (∀ (K : Nat) (z : World),Below K z w → K ≤ B + 1 → Below K z W) := by
 have ho : ∀ k,k ≠ B + 1 → (w.setCell ⟨B + 1,0,none⟩ (.int .i64 n)).heap[k]? = w.heap[k]? := fun k hk => heap_setCell_other w ⟨B + 1,0,none⟩ k _ (fun e => hk (by simp [e]))
 have hs : (w.setCell ⟨B + 1,0,none⟩ (.int .i64 n)).heap[B + 1]? = some (.cells #[.int .i64 n] 3 (0,0)) := heap_setCell_same w (B + 1) 0 _ _ (.int .i64 n) hn
 exact ⟨_,rfl,(ho B (by omega)).trans h,hs,(ho (B + 2) (by omega)).trans he,World.cell?_of_block (ho q.1 hq),⟨by simp,ho⟩,fun K z hb hK => hb.setCell (by show K ≤ B + 1; omega) _⟩
theorem Dr.Door.kept {B b : Nat} {w w' : World} (h : Dr.Door B w) (hk : Dr.Kept b w w') (hb : B + 3 ≤ b) : Dr.Door B w' := by
 have := h.lt;exact ⟨(hk.block B (by omega) (by omega)).trans h.d,(hk.block (B + 1) (by omega) (by omega)).trans h.n,(hk.block (B + 2) (by omega) (by omega)).trans h.e⟩
set_option maxHeartbeats 8000000
set_option maxRecDepth 1000000
theorem Dr.one_any (s : ByteArray) (w : World) (A : Dr.Ans) (hs : s.size ≤ 1048576) (hT : Dr.Tabs w) (hA : Dr.One s.data.toList A) : Calls Tryz.prog 13 #[.string s] w (Dr.PostOne w A) := by
 have hmf : ∀ (fn : Fn) (first cap : Array Value) (w : World),(Instr.makeFunc fn first cap).run Tryz.prog w = .ok (.func fn first cap) w := fun _ _ _ _ => rfl;obtain ⟨w1,w2,w3,w4,e1,e2,e3,e4,z1,z2,z3,z4,H4⟩ := Dr.one_worlds s w;have KB := Lib.hid (fun R h1 => Dr.con (.blanks s.data.toList) (w.heap.size + 3) s false w4 R H4.out.2.1 hs (Utf8Tabs_below hT H4.out.2.2) h1);have HA := Lib.hid hA;have HT := Lib.hid hT;have HS := Lib.hid hs;clear hA hT hs;go_enter_defers Tryz.func13,Tryz.ntmps13;go_wp2_with fail;cases HA.out with
 | fault1 h1 =>
   refine (KB.out _ h1).mono ?_;rintro x w5 ⟨rfl,hK5⟩;have HD := Lib.hid (H4.out.1.kept hK5 (by omega));have HBL := Lib.hid (Dr.Kept.toBelowB H4.out.2.2 (by omega) (by omega) hK5);clear hK5 KB;unfold Dr.dead at *;go_wp2_with fail;refine leaves_cons (f := 19) (args := #[.pointer (some ⟨w.heap.size,0,none⟩),.pointer (some ⟨w.heap.size + 1,0,none⟩),.pointer (some ⟨w.heap.size + 2,0,none⟩)]) (by simp) (by simp [go_sem]) ?_;refine (Dr.catch_fault w.heap.size 5 _ HD.out).mono ?_;rintro x u' w9 ⟨rfl,rfl,hT9⟩;obtain ⟨k0,k1,k2,k3,k4,k5,k6,k7,k8,k9,k10⟩ := Dr.cells11 hT9.d;have kn := hT9.n;have ke := hT9.e;have HE := Lib.hid (show Dr.PostOne w (.err 5) (.returned (.tuple #[Dr.voidV,.int .i64 0,.int .i64 5])) w9 from ⟨rfl,hT9.below _ _ HBL.out (Nat.le_refl _)⟩);clear hT9;simp [Leaves,settle,results,Tryz.results13,go_sem,k0,k1,k2,k3,k4,k5,k6,k7,k8,k9,k10,kn,ke];exact HE.out
 | none h1 =>
   refine (KB.out _ h1).mono ?_;rintro x w5 ⟨rfl,hA5,hK5⟩;have hD5 := H4.out.1.kept hK5 (by omega);obtain ⟨c0,c1,c2⟩ := hA5.cells;rw [show s.size - ([] : List UInt8).length = s.size by simp] at c1;obtain ⟨W,hW,hWd,hWn,hWe,HTD⟩ := hD5.tell 11;obtain ⟨⟨a0,a1,a2,a3,a4,a5,a6,a7,a8,a9,a10⟩,f0,f1,f2,f3,f4,f5,f6,f7,f8,f9,f10⟩ := Dr.same11 hD5.d;obtain ⟨b0,b1,b2⟩ := Dr.same1 hD5.n;obtain ⟨_,c4,c5⟩ := Dr.same1 hD5.e;obtain ⟨i0,i1,i2,i3,i4,i5,i6,i7,i8,i9,i10⟩ := Dr.cells11 hD5.d;have HBL := Lib.hid (Dr.Kept.toBelowB H4.out.2.2 (by omega) (by omega) hK5);clear hA5 hK5 hD5 hWd hWn hWe KB;obtain ⟨k0,k1,k2,k3,k4,k5,k6,k7,k8,k9,k10⟩ := Dr.cells11 HTD.out.d;have kn := HTD.out.n;have ke := HTD.out.e;have HE := Lib.hid (show Dr.PostOne w (.err 11) (.returned (.tuple #[Dr.voidV,.int .i64 0,.int .i64 11])) W from ⟨rfl,HTD.out.below _ _ HBL.out (Nat.le_refl _)⟩);clear HTD;go_wp2_with fail;refine leaves_cons (f := 19) (args := #[.pointer (some ⟨w.heap.size,0,none⟩),.pointer (some ⟨w.heap.size + 1,0,none⟩),.pointer (some ⟨w.heap.size + 2,0,none⟩)]) (by simp) (by simp [go_sem]) ?_;refine (Dr.catch_idle _ _ _ _).mono ?_;rintro x u' w9 ⟨rfl,rfl,rfl⟩;simp [Leaves,settle,results,Tryz.results13,go_sem,k0,k1,k2,k3,k4,k5,k6,k7,k8,k9,k10,kn,ke];exact HE.out
 | @fault2 r h1 hr h2 =>
   refine (KB.out _ h1).mono ?_;rintro x w5 ⟨rfl,hA5,hK5⟩;have HK5 := Lib.hid hK5;have hne5 := Dr.at_ne hA5 hr;have KD := Lib.hid (fun R h => Dr.con (.datum r) (w.heap.size + 3) s false w5 R hA5 HS.out (Dr.tabs_kept (Utf8Tabs_below HT.out H4.out.2.2) (H4.out.2.1.tabs_ne (Utf8Tabs_below HT.out H4.out.2.2)).1 (H4.out.2.1.tabs_ne (Utf8Tabs_below HT.out H4.out.2.2)).2 hK5) h);obtain ⟨c0,c1,c2⟩ := hA5.cells;obtain ⟨p,hp⟩ : ∃ z,s.size - r.length = z := ⟨_,rfl⟩;rw [hp] at c1 hne5;have HTW := Lib.hid (fun w' (hk : Dr.Kept (w.heap.size + 3) w5 w') => Dr.tabs_kept (Utf8Tabs_below HT.out H4.out.2.2) (H4.out.2.1.tabs_ne (Utf8Tabs_below HT.out H4.out.2.2)).1 (H4.out.2.1.tabs_ne (Utf8Tabs_below HT.out H4.out.2.2)).2 (hK5.trans hk));clear hA5 hK5 hp hr KB;go_wp2_with fail;refine (KD.out _ h2).mono ?_;rintro x w6 ⟨rfl,hK6⟩;have HD := Lib.hid (H4.out.1.kept (HK5.out.trans hK6) (by omega));have HBL := Lib.hid (Dr.Kept.toBelowB H4.out.2.2 (by omega) (by omega) (HK5.out.trans hK6));clear hK6 KD;unfold Dr.dead at *;go_wp2_with fail;refine leaves_cons (f := 19) (args := #[.pointer (some ⟨w.heap.size,0,none⟩),.pointer (some ⟨w.heap.size + 1,0,none⟩),.pointer (some ⟨w.heap.size + 2,0,none⟩)]) (by simp) (by simp [go_sem]) ?_;refine (Dr.catch_fault w.heap.size 5 _ HD.out).mono ?_;rintro x u' w9 ⟨rfl,rfl,hT9⟩;obtain ⟨k0,k1,k2,k3,k4,k5,k6,k7,k8,k9,k10⟩ := Dr.cells11 hT9.d;have kn := hT9.n;have ke := hT9.e
   have HE := Lib.hid (show Dr.PostOne w (.err 5) (.returned (.tuple #[Dr.voidV,.int .i64 0,.int .i64 5])) w9 from ⟨rfl,hT9.below _ _ HBL.out (Nat.le_refl _)⟩);clear hT9;simp [Leaves,settle,results,Tryz.results13,go_sem,k0,k1,k2,k3,k4,k5,k6,k7,k8,k9,k10,kn,ke];exact HE.out
 | @big r t r2 bb h1 hr h2 hb =>
   refine (KB.out _ h1).mono ?_;rintro x w5 ⟨rfl,hA5,hK5⟩;have HK5 := Lib.hid hK5;have hne5 := Dr.at_ne hA5 hr;have KD := Lib.hid (fun R h => Dr.con (.datum r) (w.heap.size + 3) s false w5 R hA5 HS.out (Dr.tabs_kept (Utf8Tabs_below HT.out H4.out.2.2) (H4.out.2.1.tabs_ne (Utf8Tabs_below HT.out H4.out.2.2)).1 (H4.out.2.1.tabs_ne (Utf8Tabs_below HT.out H4.out.2.2)).2 hK5) h);obtain ⟨c0,c1,c2⟩ := hA5.cells;obtain ⟨p,hp⟩ : ∃ z,s.size - r.length = z := ⟨_,rfl⟩;rw [hp] at c1 hne5;have HTW := Lib.hid (fun w' (hk : Dr.Kept (w.heap.size + 3) w5 w') => Dr.tabs_kept (Utf8Tabs_below HT.out H4.out.2.2) (H4.out.2.1.tabs_ne (Utf8Tabs_below HT.out H4.out.2.2)).1 (H4.out.2.1.tabs_ne (Utf8Tabs_below HT.out H4.out.2.2)).2 (hK5.trans hk));clear hA5 hK5 hp hr KB;go_wp2_with fail;refine (KD.out _ h2).mono ?_;rintro x w6 ⟨v,rfl,hI6,hA6,hK6⟩;obtain ⟨C6,rfl⟩ := Dr.in_agg hI6;obtain ⟨hv,lv,b3,b4,b6,b7,b9,b10,m3,m4,m6,m7,m9,m10,d3',d4,d6,d7,d9,d10,eC8,et8,_,_⟩ := Tr.In.form2 hI6;subst eC8;clear et8;unfold Tr.cells at *;have HK6 := Lib.hid (HK5.out.trans hK6);have hD6 := H4.out.1.kept HK6.out (by omega)
   obtain ⟨Y1,Y2,Y3,Y4,Y5,Y6,Y7,Y8,Y9,Y10,Y11,⟨g0,y0,s0⟩,⟨g1,y1,s1'⟩,⟨g2,y2,s2'⟩,⟨g3,y3,s3'⟩,⟨g4,y4,s4'⟩,⟨g5,y5,s5'⟩,⟨g6,y6,s6'⟩,⟨g7,y7,s7'⟩,⟨g8,y8,s8'⟩,⟨g9,y9,s9'⟩,⟨g10,y10,s10'⟩,⟨r0,r1,r2',r3,r4,r5,r6,r7,r8,r9,r10⟩,HY⟩ := hD6.d.put (.int .i64 hv.k) (.int .i64 hv.n) (.bool hv.s1) (.slice b3 m3 d3') (.slice b4 m4 d4) (.bool hv.s2) (.slice b6 m6 d6) (.slice b7 m7 d7) (.string hv.x) (.slice b9 m9 d9) (.slice b10 m10 d10);have hBY := HY.out.1;have hNY : Y11.heap[w.heap.size + 1]? = some (.cells #[.int .i64 0] 3 (0,0)) := (HY.out.2.2.1 _ (by omega)).trans hD6.n;have hEY : Y11.heap[w.heap.size + 2]? = some (.cells #[.int .i64 0] 31 (0,0)) := (HY.out.2.2.1 _ (by omega)).trans hD6.e;have hAY := hA6.put (W := Y11) (B := w.heap.size) (by omega) HY.out.2.2.1;have hbw6 : Below w.heap.size w w6 := Dr.Kept.toBelowB H4.out.2.2 (by omega) (by omega) HK6.out;have HBY := Lib.hid (HY.out.2.2.2 _ _ hbw6 (Nat.le_refl _));have HTY := Lib.hid (show Dr.Tabs Y11 from Utf8Tabs_below HT.out (HY.out.2.2.2 _ _ hbw6 (Nat.le_refl _)));have HIY := Lib.hid (Tr.In.kept (S := fun q => w5.heap.size ≤ q) (w' := Y11) ⟨Nat.le_of_eq HY.out.2.1.symm,fun q hq _ => HY.out.2.2.1 q (by have := HK5.out.size; omega)⟩ _ _ hI6);have HFIX := Lib.hid (And.intro hBY (And.intro hNY (And.intro hEY hAY)));obtain ⟨c0,c1,c2⟩ := hAY.cells;clear hI6 hA6 hK6 hD6 HY hBY hNY hEY hAY hbw6 KD;cases bb with
   | true =>
     have c2 : Y11.cell? ⟨w.heap.size + 3,2,none⟩ = some (.bool true) := c2;have HFX := Lib.hid (And.intro HFIX.out.1 (And.intro HFIX.out.2.1 HFIX.out.2.2.1));have HBX := HBY;have hwipe := Dr.put11 HFX.out.1 (.int .i64 0) (.int .i64 0) (.bool false) (.slice none 0 0) (.slice none 0 0) (.bool false) (.slice none 0 0) (.slice none 0 0) (.string ⟨#[]⟩) (.slice none 0 0) (.slice none 0 0);obtain ⟨Z1,Z2,Z3,Z4,Z5,Z6,Z7,Z8,Z9,Z10,Z11,⟨p0,q0,o0,_⟩,⟨p1,q1,o1,_⟩,⟨p2,q2,o2,_⟩,⟨p3,q3,o3,_⟩,⟨p4,q4,o4,_⟩,⟨p5,q5,o5,_⟩,⟨p6,q6,o6,_⟩,⟨p7,q7,o7,_⟩,⟨p8,q8,o8,_⟩,⟨p9,q9,o9,_⟩,⟨p10,q10,o10,_⟩,t1,t2,t3,t4⟩ := hwipe;have hDZ : Dr.Door w.heap.size Z11 := ⟨t1,(t3 _ (by omega)).trans HFX.out.2.1,(t3 _ (by omega)).trans HFX.out.2.2⟩;obtain ⟨W,hW,hWd,hWn,hWe,HTD⟩ := hDZ.tell 4;obtain ⟨u0,u1,u2⟩ := Dr.same1 hDZ.n;obtain ⟨_,u4,u5⟩ := Dr.same1 hDZ.e;have HBL := Lib.hid (t4 _ _ HBX.out (Nat.le_refl _));clear t1 t2 t3 t4 hDZ hWd hWn hWe HFX HBX;obtain ⟨k0,k1,k2,k3,k4,k5,k6,k7,k8,k9,k10⟩ := Dr.cells11 HTD.out.d;have kn := HTD.out.n;have ke := HTD.out.e;have HE := Lib.hid (show Dr.PostOne w (.err 4) (.returned (.tuple #[Dr.voidV,.int .i64 0,.int .i64 4])) W from ⟨rfl,HTD.out.below _ _ HBL.out (Nat.le_refl _)⟩);clear HTD;go_wp2_with fail
     refine leaves_cons (f := 19) (args := #[.pointer (some ⟨w.heap.size,0,none⟩),.pointer (some ⟨w.heap.size + 1,0,none⟩),.pointer (some ⟨w.heap.size + 2,0,none⟩)]) (by simp) (by simp [go_sem]) ?_;refine (Dr.catch_idle _ _ _ _).mono ?_;rintro x u' w9 ⟨rfl,rfl,rfl⟩;simp [Leaves,settle,results,Tryz.results13,go_sem,k0,k1,k2,k3,k4,k5,k6,k7,k8,k9,k10,kn,ke];exact HE.out
   | false =>
     have c2 : Y11.cell? ⟨w.heap.size + 3,2,none⟩ = some (.bool false) := c2;have hsd : Tr.sound t = false := by simpa using hb
     have KSD := Lib.hid (Tr.Sound_any t _ _ Y11 HIY.out (Dr.ttabs HTY.out));rw [hsd] at KSD;clear hb hsd;go_wp2_with fail;refine KSD.out.mono ?_;rintro x w7 ⟨rfl,hb7⟩;have hlt7 := (Array.getElem?_eq_some_iff.1 HFIX.out.2.2.2.blk).1;have HFX := Lib.hid (And.intro ((hb7.block w.heap.size (by omega)).trans HFIX.out.1) (And.intro ((hb7.block _ (by omega)).trans HFIX.out.2.1) ((hb7.block _ (by omega)).trans HFIX.out.2.2.1)));have HBX := Lib.hid (HBY.out.trans (hb7.mono HBY.out.size));clear hb7 KSD r0 r1 r2' r3 r4 r5 r6 r7 r8 r9 r10 c0 c1 c2;have hwipe := Dr.put11 HFX.out.1 (.int .i64 0) (.int .i64 0) (.bool false) (.slice none 0 0) (.slice none 0 0) (.bool false) (.slice none 0 0) (.slice none 0 0) (.string ⟨#[]⟩) (.slice none 0 0) (.slice none 0 0);obtain ⟨Z1,Z2,Z3,Z4,Z5,Z6,Z7,Z8,Z9,Z10,Z11,⟨p0,q0,o0,_⟩,⟨p1,q1,o1,_⟩,⟨p2,q2,o2,_⟩,⟨p3,q3,o3,_⟩,⟨p4,q4,o4,_⟩,⟨p5,q5,o5,_⟩,⟨p6,q6,o6,_⟩,⟨p7,q7,o7,_⟩,⟨p8,q8,o8,_⟩,⟨p9,q9,o9,_⟩,⟨p10,q10,o10,_⟩,t1,t2,t3,t4⟩ := hwipe;have hDZ : Dr.Door w.heap.size Z11 := ⟨t1,(t3 _ (by omega)).trans HFX.out.2.1,(t3 _ (by omega)).trans HFX.out.2.2⟩;obtain ⟨W,hW,hWd,hWn,hWe,HTD⟩ := hDZ.tell 4;obtain ⟨u0,u1,u2⟩ := Dr.same1 hDZ.n;obtain ⟨_,u4,u5⟩ := Dr.same1 hDZ.e;have HBL := Lib.hid (t4 _ _ HBX.out (Nat.le_refl _));clear t1 t2 t3 t4 hDZ hWd hWn hWe HFX HBX
     obtain ⟨k0,k1,k2,k3,k4,k5,k6,k7,k8,k9,k10⟩ := Dr.cells11 HTD.out.d;have kn := HTD.out.n;have ke := HTD.out.e;have HE := Lib.hid (show Dr.PostOne w (.err 4) (.returned (.tuple #[Dr.voidV,.int .i64 0,.int .i64 4])) W from ⟨rfl,HTD.out.below _ _ HBL.out (Nat.le_refl _)⟩);clear HTD;go_wp2_with fail;refine leaves_cons (f := 19) (args := #[.pointer (some ⟨w.heap.size,0,none⟩),.pointer (some ⟨w.heap.size + 1,0,none⟩),.pointer (some ⟨w.heap.size + 2,0,none⟩)]) (by simp) (by simp [go_sem]) ?_;refine (Dr.catch_idle _ _ _ _).mono ?_;rintro x u' w9 ⟨rfl,rfl,rfl⟩;simp [Leaves,settle,results,Tryz.results13,go_sem,k0,k1,k2,k3,k4,k5,k6,k7,k8,k9,k10,kn,ke];exact HE.out
 | @ok r t r2 bb h1 hr h2 hb =>
   refine (KB.out _ h1).mono ?_;rintro x w5 ⟨rfl,hA5,hK5⟩;have HK5 := Lib.hid hK5;have hne5 := Dr.at_ne hA5 hr;have KD := Lib.hid (fun R h => Dr.con (.datum r) (w.heap.size + 3) s false w5 R hA5 HS.out (Dr.tabs_kept (Utf8Tabs_below HT.out H4.out.2.2) (H4.out.2.1.tabs_ne (Utf8Tabs_below HT.out H4.out.2.2)).1 (H4.out.2.1.tabs_ne (Utf8Tabs_below HT.out H4.out.2.2)).2 hK5) h);obtain ⟨c0,c1,c2⟩ := hA5.cells;obtain ⟨p,hp⟩ : ∃ z,s.size - r.length = z := ⟨_,rfl⟩;rw [hp] at c1 hne5;have HTW := Lib.hid (fun w' (hk : Dr.Kept (w.heap.size + 3) w5 w') => Dr.tabs_kept (Utf8Tabs_below HT.out H4.out.2.2) (H4.out.2.1.tabs_ne (Utf8Tabs_below HT.out H4.out.2.2)).1 (H4.out.2.1.tabs_ne (Utf8Tabs_below HT.out H4.out.2.2)).2 (hK5.trans hk));clear hA5 hK5 hp hr KB;go_wp2_with fail;refine (KD.out _ h2).mono ?_;rintro x w6 ⟨v,rfl,hI6,hA6,hK6⟩;obtain ⟨C6,rfl⟩ := Dr.in_agg hI6;obtain ⟨hv,lv,b3,b4,b6,b7,b9,b10,m3,m4,m6,m7,m9,m10,d3',d4,d6,d7,d9,d10,eC8,et8,_,_⟩ := Tr.In.form2 hI6;subst eC8;clear et8;unfold Tr.cells at *;have HK6 := Lib.hid (HK5.out.trans hK6);have hD6 := H4.out.1.kept HK6.out (by omega)
   obtain ⟨Y1,Y2,Y3,Y4,Y5,Y6,Y7,Y8,Y9,Y10,Y11,⟨g0,y0,s0⟩,⟨g1,y1,s1'⟩,⟨g2,y2,s2'⟩,⟨g3,y3,s3'⟩,⟨g4,y4,s4'⟩,⟨g5,y5,s5'⟩,⟨g6,y6,s6'⟩,⟨g7,y7,s7'⟩,⟨g8,y8,s8'⟩,⟨g9,y9,s9'⟩,⟨g10,y10,s10'⟩,⟨r0,r1,r2',r3,r4,r5,r6,r7,r8,r9,r10⟩,HY⟩ := hD6.d.put (.int .i64 hv.k) (.int .i64 hv.n) (.bool hv.s1) (.slice b3 m3 d3') (.slice b4 m4 d4) (.bool hv.s2) (.slice b6 m6 d6) (.slice b7 m7 d7) (.string hv.x) (.slice b9 m9 d9) (.slice b10 m10 d10);have hBY := HY.out.1;have hNY : Y11.heap[w.heap.size + 1]? = some (.cells #[.int .i64 0] 3 (0,0)) := (HY.out.2.2.1 _ (by omega)).trans hD6.n;have hEY : Y11.heap[w.heap.size + 2]? = some (.cells #[.int .i64 0] 31 (0,0)) := (HY.out.2.2.1 _ (by omega)).trans hD6.e;have hAY := hA6.put (W := Y11) (B := w.heap.size) (by omega) HY.out.2.2.1;have hbw6 : Below w.heap.size w w6 := Dr.Kept.toBelowB H4.out.2.2 (by omega) (by omega) HK6.out;have HBY := Lib.hid (HY.out.2.2.2 _ _ hbw6 (Nat.le_refl _));have HTY := Lib.hid (show Dr.Tabs Y11 from Utf8Tabs_below HT.out (HY.out.2.2.2 _ _ hbw6 (Nat.le_refl _)));have HIY := Lib.hid (Tr.In.kept (S := fun q => w5.heap.size ≤ q) (w' := Y11) ⟨Nat.le_of_eq HY.out.2.1.symm,fun q hq _ => HY.out.2.2.1 q (by have := HK5.out.size; omega)⟩ _ _ hI6);have HFIX := Lib.hid (And.intro hBY (And.intro hNY (And.intro hEY hAY)));obtain ⟨c0,c1,c2⟩ := hAY.cells;clear hI6 hA6 hK6 hD6 HY hBY hNY hEY hAY hbw6 KD
   have hbb : bb = false ∧ Tr.sound t = true := by simpa using hb
   obtain ⟨rfl,hsd⟩ := hbb;have c2 : Y11.cell? ⟨w.heap.size + 3,2,none⟩ = some (.bool false) := c2;have KSD := Lib.hid (Tr.Sound_any t _ _ Y11 HIY.out (Dr.ttabs HTY.out));rw [hsd] at KSD;clear hb hsd;go_wp2_with fail;refine KSD.out.mono ?_;rintro x w7 ⟨rfl,hb7⟩;have hb7d : Below Y11.heap.size Y11 w7.drew := Below.drew hb7;have hlt7 := (Array.getElem?_eq_some_iff.1 HFIX.out.2.2.2.blk).1;have hB7 : Dr.Box w.heap.size (.int .i64 hv.k) (.int .i64 hv.n) (.bool hv.s1) (.slice b3 m3 d3') (.slice b4 m4 d4) (.bool hv.s2) (.slice b6 m6 d6) (.slice b7 m7 d7) (.string hv.x) (.slice b9 m9 d9) (.slice b10 m10 d10) w7.drew := (hb7d.block w.heap.size (by omega)).trans HFIX.out.1;have hN7 := (hb7d.block (w.heap.size + 1) (by omega)).trans HFIX.out.2.1;have hE7 := (hb7d.block (w.heap.size + 2) (by omega)).trans HFIX.out.2.2.1;have hA7 := HFIX.out.2.2.2.below hb7d;have HB7 := Lib.hid (HBY.out.trans (hb7d.mono HBY.out.size));have HI7 := Lib.hid (Tr.In.below HIY.out hb7d (Nat.le_refl _));clear r0 r1 r2' r3 r4 r5 r6 r7 r8 r9 r10 c0 c1 c2;obtain ⟨c0,c1,c2⟩ := hA7.cells;obtain ⟨n,hn⟩ : ∃ z,s.size - r2.length = z := ⟨_,rfl⟩;rw [hn] at c1;obtain ⟨⟨a0,a1,a2,a3,a4,a5,a6,a7,a8,a9,a10⟩,f0,f1,f2,f3,f4,f5,f6,f7,f8,f9,f10⟩ := Dr.same11g hB7;obtain ⟨i0,i1,i2,i3,i4,i5,i6,i7,i8,i9,i10⟩ := Dr.cells11 hB7;obtain ⟨_,b1,b2⟩ := Dr.same1 hN7;obtain ⟨c3,c4,c5⟩ := Dr.same1 hE7
   obtain ⟨W,hW,hBW,hNW,hEW,hcW,hIW,hbW⟩ := Dr.tellN hB7 hN7 hE7 (n : Int) (w.heap.size + 3,1) (by show w.heap.size + 3 ≠ w.heap.size + 1; omega);obtain ⟨⟨o0,o1,o2,o3,o4,o5,o6,o7,o8,o9,o10⟩,q0,q1,q2,q3,q4,q5,q6,q7,q8,q9,q10⟩ := Dr.same11g hBW;obtain ⟨l0,l1',l2,l3,l4,l5,l6,l7,l8,l9,l10⟩ := Dr.cells11 hBW;obtain ⟨_,u1,u2⟩ := Dr.same1 hNW;obtain ⟨u3,u4,u5⟩ := Dr.same1 hEW;have hc1W := hcW.trans c1;have HN := Lib.hid (show s.data.toList.length - r2.length = n from by simpa using hn);have HE := Lib.hid (show Dr.PostOne w (.ok t (s.data.toList.length - r2.length)) (.returned (.tuple #[.agg #[.int .i64 hv.k,.int .i64 hv.n,.bool hv.s1,.slice b3 m3 d3',.slice b4 m4 d4,.bool hv.s2,.slice b6 m6 d6,.slice b7 m7 d7,.string hv.x,.slice b9 m9 d9,.slice b10 m10 d10],.int .i64 (n : Int),.int .i64 0])) W from by
     refine ⟨_,by rw [HN.out],?_,hbW _ _ HB7.out (by omega)⟩
     exact Tr.In.mono (S := fun q => w5.heap.size ≤ q) (fun q hq => by show w.heap.size ≤ q; have := HK5.out.size; omega) _ _ (Tr.In.kept ⟨Nat.le_of_eq hIW.1.symm,fun q hq _ => hIW.2 q (by have := HK5.out.size; omega)⟩ _ _ HI7.out))
   clear hb7 hb7d hB7 hN7 hE7 hA7 hBW hNW hEW hcW hIW hbW hn KSD;generalize s.data.toList.length - r2.length = nn at *;go_wp2_with fail;go_region;all_goals
    go_wp2_with fail;refine leaves_cons (f := 19) (args := #[.pointer (some ⟨w.heap.size,0,none⟩),.pointer (some ⟨w.heap.size + 1,0,none⟩),.pointer (some ⟨w.heap.size + 2,0,none⟩)]) (by simp) (by simp [go_sem]) ?_;refine (Dr.catch_idle _ _ _ _).mono ?_;rintro x u' w9 ⟨rfl,rfl,rfl⟩;simp [Leaves,settle,results,Tryz.results13,go_sem,l0,l1',l2,l3,l4,l5,l6,l7,l8,l9,l10,u2,u5];exact HE.out
set_option maxHeartbeats 200000
set_option maxRecDepth 512
def Dr.cut (s : ByteArray) (A : Dr.Ans) : Dr.Ans := if 65536 < s.size then .err 18 else A
set_option maxHeartbeats 4000000
set_option maxRecDepth 1000000
theorem Dr.DRead_any (s : ByteArray) (w : World) (A : Dr.Ans) (hT : Dr.Tabs w) (hA : Dr.One s.data.toList A) : Calls Tryz.prog 5 #[.string s] w (Dr.PostOne w (Dr.cut s A)) := by
 obtain ⟨B,hB⟩ : ∃ z,w.heap.size = z := ⟨_,rfl⟩;have hal : Below w.heap.size w (w.alloc (.cells #[.int .i64 0,.int .i64 0,.bool false,.slice none 0 0,.slice none 0 0,.bool false,.slice none 0 0,.slice none 0 0,.string ⟨#[]⟩,.slice none 0 0,.slice none 0 0] 30)) := (Below.refl _ _).alloc (Nat.le_refl _) _;have hz1 : (w.alloc (.cells #[.int .i64 0,.int .i64 0,.bool false,.slice none 0 0,.slice none 0 0,.bool false,.slice none 0 0,.slice none 0 0,.string ⟨#[]⟩,.slice none 0 0,.slice none 0 0] 30)).heap.size = B + 1 := by simp [hB]
 have hq1 := heap_alloc_new w (.cells #[.int .i64 0,.int .i64 0,.bool false,.slice none 0 0,.slice none 0 0,.bool false,.slice none 0 0,.slice none 0 0,.string ⟨#[]⟩,.slice none 0 0,.slice none 0 0] 30);obtain ⟨w1,hw1⟩ : ∃ z,(w.alloc (.cells #[.int .i64 0,.int .i64 0,.bool false,.slice none 0 0,.slice none 0 0,.bool false,.slice none 0 0,.slice none 0 0,.string ⟨#[]⟩,.slice none 0 0,.slice none 0 0] 30)) = z := ⟨_,rfl⟩;rw [hw1] at hal hq1 hz1;have hbx1 : Dr.Box0 w.heap.size w1 := hq1;rw [hB] at hbx1;by_cases hlen : 65536 < s.size
 · have hc : Dr.cut s A = .err 18 := by unfold Dr.cut; rw [if_pos hlen]
   rw [hc];obtain ⟨⟨a0,a1,a2,a3,a4,a5,a6,a7,a8,a9,a10⟩,f0,f1,f2,f3,f4,f5,f6,f7,f8,f9,f10⟩ := Dr.same11 hbx1;obtain ⟨i0,i1,i2,i3,i4,i5,i6,i7,i8,i9,i10⟩ := Dr.cells11 hbx1;have hl2 : (65536 : Int) < (s.size : Int) := by omega
   have HE := Lib.hid (show Dr.PostOne w (.err 18) (.returned (.tuple #[Dr.voidV,.int .i64 0,.int .i64 18])) w1 from ⟨rfl,hal⟩);clear hal hq1 hbx1 hA hT hc;go_enter Tryz.func5,Tryz.ntmps5;go_wp2_with fail;refine bodyPost_ret (v := .tuple #[Dr.voidV,.int .i64 0,.int .i64 18]) (by simp [results,Tryz.results5,go_sem,i0,i1,i2,i3,i4,i5,i6,i7,i8,i9,i10,Dr.voidV]) rfl HE.out
 · have hc : Dr.cut s A = A := by unfold Dr.cut; rw [if_neg hlen]
   rw [hc];have hl2 : ¬ (65536 : Int) < (s.size : Int) := by omega
   have hl3 : (s.size : Int) ≤ 65536 := by omega
   have K1 := Lib.hid (Dr.one_any s w1 A (by omega) (Utf8Tabs_below hT hal) hA);have HAL := Lib.hid hal;have HBX := Lib.hid (fun w' (hb : Below w1.heap.size w1 w') => show Dr.Box0 B w' from (hb.block B (by omega)).trans hbx1);have HHB := Lib.hid hB;have HZ1 := Lib.hid hz1;clear hal hq1 hbx1 hA hT hc;go_enter Tryz.func5,Tryz.ntmps5;go_wp2_with fail;refine K1.out.mono ?_;cases A with
   | err e =>
     rintro x w2 ⟨rfl,hb2⟩;have hbx2 := HBX.out w2 hb2;obtain ⟨⟨a0,a1,a2,a3,a4,a5,a6,a7,a8,a9,a10⟩,f0,f1,f2,f3,f4,f5,f6,f7,f8,f9,f10⟩ := Dr.same11 hbx2;obtain ⟨i0,i1,i2,i3,i4,i5,i6,i7,i8,i9,i10⟩ := Dr.cells11 hbx2;have HE := Lib.hid (show Dr.PostOne w (.err e) (.returned (.tuple #[Dr.voidV,.int .i64 0,.int .i64 e])) w2 from ⟨rfl,HAL.out.trans (hb2.mono HAL.out.size)⟩);clear hb2 hbx2 K1;unfold Dr.voidV;go_wp2_with fail;refine bodyPost_ret (v := .tuple #[Dr.voidV,.int .i64 0,.int .i64 e]) (by simp [results,Tryz.results5,go_sem,i0,i1,i2,i3,i4,i5,i6,i7,i8,i9,i10,Dr.voidV]) rfl HE.out
   | ok t n =>
     rintro x w2 ⟨v,rfl,hI2,hb2⟩;obtain ⟨C6,rfl⟩ := Dr.in_agg hI2;obtain ⟨hv,lv,b3,b4,b6,b7,b9,b10,m3,m4,m6,m7,m9,m10,d3',d4,d6,d7,d9,d10,eC8,et8,_,_⟩ := Tr.In.form2 hI2;subst eC8;clear et8;unfold Tr.cells at *;have hbx2 := HBX.out w2 hb2;obtain ⟨Y1,Y2,Y3,Y4,Y5,Y6,Y7,Y8,Y9,Y10,Y11,⟨g0,y0,s0⟩,⟨g1,y1,s1'⟩,⟨g2,y2,s2'⟩,⟨g3,y3,s3'⟩,⟨g4,y4,s4'⟩,⟨g5,y5,s5'⟩,⟨g6,y6,s6'⟩,⟨g7,y7,s7'⟩,⟨g8,y8,s8'⟩,⟨g9,y9,s9'⟩,⟨g10,y10,s10'⟩,⟨r0,r1,r2',r3,r4,r5,r6,r7,r8,r9,r10⟩,HY⟩ := hbx2.put (.int .i64 hv.k) (.int .i64 hv.n) (.bool hv.s1) (.slice b3 m3 d3') (.slice b4 m4 d4) (.bool hv.s2) (.slice b6 m6 d6) (.slice b7 m7 d7) (.string hv.x) (.slice b9 m9 d9) (.slice b10 m10 d10);have HE := Lib.hid (show Dr.PostOne w (.ok t n) (.returned (.tuple #[.agg #[.int .i64 hv.k,.int .i64 hv.n,.bool hv.s1,.slice b3 m3 d3',.slice b4 m4 d4,.bool hv.s2,.slice b6 m6 d6,.slice b7 m7 d7,.string hv.x,.slice b9 m9 d9,.slice b10 m10 d10],.int .i64 (n : Int),.int .i64 0])) Y11 from by
       refine ⟨_,rfl,?_,HY.out.2.2.2 _ _ (HAL.out.trans (hb2.mono HAL.out.size)) (Nat.le_of_eq HHB.out)⟩
       exact Tr.In.mono (S := fun q => w1.heap.size ≤ q) (fun q hq => by show w.heap.size ≤ q; have := HHB.out; have := HZ1.out; omega) _ _ (Tr.In.kept ⟨Nat.le_of_eq HY.out.2.1.symm,fun q hq _ => HY.out.2.2.1 q (by have := HZ1.out; omega)⟩ _ _ hI2))
     clear hb2 hbx2 K1 hI2 HY;go_wp2_with fail;refine bodyPost_ret (v := .tuple #[.agg #[.int .i64 hv.k,.int .i64 hv.n,.bool hv.s1,.slice b3 m3 d3',.slice b4 m4 d4,.bool hv.s2,.slice b6 m6 d6,.slice b7 m7 d7,.string hv.x,.slice b9 m9 d9,.slice b10 m10 d10],.int .i64 (n : Int),.int .i64 0]) (by simp [results,Tryz.results5,go_sem,r0,r1,r2',r3,r4,r5,r6,r7,r8,r9,r10]) rfl HE.out
theorem Dr.awake_any (w : World) (hT : Dr.Tabs w) : Calls Tryz.prog 6 #[] w fun e w' => e = .returned (.bool true) ∧ Below w.heap.size w w' := by
 have K := Lib.hid (show Calls Tryz.prog 5 #[.string ⟨#[32,40,97,32,46,32,35,116,41,120]⟩] w (Dr.PostOne w (.ok Dr.awkT 9)) from by
   have := Dr.DRead_any ⟨#[32,40,97,32,46,32,35,116,41,120]⟩ w _ hT Dr.awk_one
   rwa [show Dr.cut ⟨#[32,40,97,32,46,32,35,116,41,120]⟩ (.ok Dr.awkT 9) = .ok Dr.awkT 9 from if_neg (by decide)] at this)
 clear hT;go_enter Tryz.func6,Tryz.ntmps6;go_wp2_with fail;refine K.out.mono ?_;rintro x w2 ⟨v,rfl,hI,hb2⟩;obtain ⟨C6,rfl⟩ := Dr.in_agg hI;obtain ⟨hd,l,a3,a4,a6,a7,a9,a10,n3,n4,n6,n7,n9,n10,c3,c4,c6,c7,c9,c10,eC,et,hH,hL⟩ := Tr.In.form2 hI;subst eC;unfold Dr.awkT Dr.cons at et;cases et;obtain ⟨bL,off,rfl,hn10,_,_,hblt,_,hall⟩ := Tr.Sl.at hL (by decide);have hn10 : n10 = 2 := hn10;subst hn10;rw [Tr.All_cons,Tr.All_cons] at hall;obtain ⟨⟨C1,hI1,hM1⟩,⟨C2,hI2,hM2⟩,_⟩ := hall;obtain ⟨h1,l1,_,_,_,_,_,_,_,_,_,_,_,_,_,_,_,_,_,_,eC1,et1,_,_⟩ := Tr.In.form2 hI1;obtain ⟨h2,l2,_,_,_,_,_,_,_,_,_,_,_,_,_,_,_,_,_,_,eC2,et2,_,_⟩ := Tr.In.form2 hI2;subst eC1 eC2;unfold Dr.leaf at et1 et2;cases et1;cases et2;unfold Tr.cells at *;obtain ⟨e0,e1,e2,e3,e4,e5,e6,e7,e8,e9,e10⟩ := Tr.Mem.cells hM1;obtain ⟨f0,f1,f2,f3,f4,f5,f6,f7,f8,f9,f10⟩ := Tr.Mem.cells hM2;clear e0 e1 e2 e3 e4 e5 e6 e7 e9 e10 f0 f2 f3 f4 f5 f6 f7 f8 f9 f10 hM1 hM2 hI1 hI2 hI hL hH K;have HB2 := Lib.hid hb2;clear hb2;go_wp2_with fail;go_ret;exact ⟨rfl,HB2.out.alloc HB2.out.size _⟩
set_option maxHeartbeats 200000
set_option maxRecDepth 512
def Dr.Job.tx : Dr.Job → List UInt8
 | .blanks l => l
 | .datum l => l
 | .items _ l => l
 | .pairs _ _ l => l
def Dr.Res.txt : Dr.Res → Prop
 | .got t _ _ => Tr.txt t
 | .list ts _ _ => Tr.txtL ts
 | .lst ts last _ _ => Tr.txtL ts ∧ Tr.txt last
 | _ => True
theorem Dr.leaf_txt (k n : Int) (x : List UInt8) (h : x.length ≤ 1048576) : Tr.txt (Dr.leaf k n x) := by
 unfold Dr.leaf;rw [Tr.txt_mk];exact ⟨by show x.toArray.size ≤ _; simpa using h,Tr.txtL_nil⟩
theorem Dr.cons_txt {a r : Tr} (h1 : Tr.txt a) (h2 : Tr.txt r) : Tr.txt (Dr.cons a r) := by
 unfold Dr.cons;rw [Tr.txt_mk,Tr.txtL_cons,Tr.txtL_cons];exact ⟨Nat.zero_le _,h1,h2,Tr.txtL_nil⟩
theorem Dr.list_txt : ∀ {ts : List Tr} {last : Tr},Tr.txtL ts → Tr.txt last → Tr.txt (Dr.listT ts last)
 | [],last,_,h => h
 | a :: ts,last,h,h2 => by
   rw [Tr.txtL_cons] at h;exact Dr.cons_txt h.1 (Dr.list_txt h.2 h2)
theorem Dr.vec_txt {ts : List Tr} (h : Tr.txtL ts) : Tr.txt (Dr.vec ts) := by
 unfold Dr.vec;rw [Tr.txt_mk];exact ⟨Nat.zero_le _,h⟩
theorem Dr.upto_len (l r : List UInt8) : (Dr.upto l r).length ≤ l.length := by
 unfold Dr.upto;rw [List.length_take]; omega
theorem Dr.atom_txt {t : List UInt8} {x : Tr × Bool} (h : Dr.atom t = some x) (hl : t.length ≤ 65536) : Tr.txt x.1 := by
 unfold Dr.atom at h;split at h
 · cases h; exact Dr.leaf_txt _ _ _ (by simp)
 · split at h
   · cases h; exact Dr.leaf_txt _ _ _ (by simp)
   · split at h
     · cases h; exact Dr.leaf_txt _ _ _ (by omega)
     · split at h
       · cases h;unfold Dr.numT;rw [Tr.txt_mk];exact ⟨Nat.zero_le _,Tr.txtL_nil⟩
       · split at h
         · cases h; exact Dr.leaf_txt _ _ _ (by simp)
         · split at h
           · cases h
           · cases hs : Dr.symbol t with
             | none => rw [hs] at h; cases h
             | some y =>
               rw [hs] at h;simp only [Option.map_some,Option.some.injEq] at h;rw [← h];have := Dr.symbol_len hs;exact Dr.leaf_txt _ _ _ (by omega)
theorem Dr.dk_txt {l r : List UInt8} {t : Tr} {big : Bool} (h : Dr.dk l = .done t r big) (hl : l.length ≤ 65536) : Tr.txt t := by
 unfold Dr.dk at h;split at h
 · cases h
 · split at h
   · cases h
   · split at h
     · cases h
     · split at h
       · split at h
         · cases h
         · rename_i x hx;cases h;have := Dr.text_len0 _ _ x (Nat.le_refl _) hx;rw [List.length_drop] at this;exact Dr.leaf_txt _ _ _ (by omega)
       · split at h
         · cases h
         · split at h
           · cases h
           · split at h
             · cases h
             · split at h
               · split at h
                 · cases h
                 · cases h; exact Dr.leaf_txt _ _ _ (by simp)
               · split at h
                 · cases h
                 · split at h
                   · cases h
                   · rename_i ha;cases h;exact Dr.atom_txt ha (Nat.le_trans (Dr.upto_len _ _) hl)
theorem Dr.skl {l r : List UInt8} (h : Dr.Rel (.blanks l) (.skip r)) : r.length ≤ l.length := h.less
theorem Dr.gtl {l r : List UInt8} {t : Tr} {b : Bool} (h : Dr.Rel (.datum l) (.got t r b)) : r.length < l.length := h.less
theorem Dr.Rel.txt {j : Dr.Job} {R : Dr.Res} (h : Dr.Rel j R) : j.tx.length ≤ 65536 → R.txt := by
 induction h with
 | bGo h h2 ih => intro hl; exact ih (Nat.le_trans (Nat.le_of_lt (Dr.bk_go h)) hl)
 | bDat3 h h2 h3 h4 i2 i3 i4 => intro hl; exact i4 (by
     have a := Dr.bk_datum h; have b := Dr.skl h2; have c := Dr.gtl h3
     simp only [Dr.Job.tx] at *; omega)
 | dDone h => intro hl; exact Dr.dk_txt h hl
 | @dPairs2 l e r ts last r2 big h h2 i2 =>
   intro hl;have a := Dr.dk_less l;rw [h] at a;have := i2 (by simp only [Dr.Job.tx,Dr.Dk.less] at *; omega);exact Dr.list_txt this.1 this.2
 | @dQuote3 l r r1 t r2 big h h2 h3 i2 i3 =>
   intro hl;have a := Dr.dk_less l;rw [h] at a;have b := Dr.skl h2;have := i3 (by simp only [Dr.Job.tx,Dr.Dk.less] at *; omega);exact Dr.cons_txt (Dr.leaf_txt _ _ _ (by simp)) (Dr.cons_txt this (Dr.leaf_txt _ _ _ (by simp)))
 | @dVec2 l r ts r2 big h h2 i2 =>
   intro hl;have a := Dr.dk_less l;rw [h] at a;exact Dr.vec_txt (i2 (by simp only [Dr.Job.tx,Dr.Dk.less] at *; omega))
 | dByt3 h h2 h3 i2 =>
   intro hl;show Tr.txt (Dr.bytesT _);unfold Dr.bytesT;rw [Tr.txt_mk];exact ⟨Nat.zero_le _,Tr.txtL_nil⟩
 | iStop => intro _; exact Tr.txtL_nil
 | iItem3 h h2 h3 h4 i1 i3 i4 =>
   intro hl;have b := Dr.skl h; have c := Dr.gtl h3;show Tr.txtL (_ :: _);rw [Tr.txtL_cons];simp only [Dr.Job.tx] at *;exact ⟨i3 (by omega),i4 (by omega)⟩
 | pStop => intro _; exact ⟨Tr.txtL_nil,Dr.leaf_txt _ _ _ (by simp)⟩
 | @pDot5 e f l r r2 r3 t r4 big r5 r6 h h2 h3 h4 h5 h6 i1 i3 i4 i5 =>
   intro hl;have b := Dr.skl h; have c := Dr.skl h3;have a := Dr.pk_less e f r;rw [h2] at a;simp only [Dr.Job.tx,Dr.Pk.less] at *;exact ⟨Tr.txtL_nil,i4 (by omega)⟩
 | pItem3 h h2 h3 h4 i1 i3 i4 =>
   intro hl;have b := Dr.skl h; have c := Dr.gtl h3;simp only [Dr.Job.tx] at *;have := i4 (by omega);show Tr.txtL (_ :: _) ∧ _;rw [Tr.txtL_cons];exact ⟨⟨i3 (by omega),this.1⟩,this.2⟩
 | _ => intro _; trivial
theorem Dr.One.txt {s : List UInt8} {t : Tr} {n : Nat} (h : Dr.One s (.ok t n)) (hs : s.length ≤ 65536) : Tr.txt t := by
 cases h with
 | ok h1 hr h2 hb => exact h2.txt (Nat.le_trans (Dr.skl h1) hs)
end Go.Proofs.YteklhapffplohaaGreatDoor
