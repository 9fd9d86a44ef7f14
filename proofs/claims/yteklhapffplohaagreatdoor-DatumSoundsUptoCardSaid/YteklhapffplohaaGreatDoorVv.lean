/-
  The reader's lists: pairs made of a row of data.
-/
import Derived.Test.YteklhapffplohaaGreatDoorVu
import Derived.Test.YteklhapffplohaaGreatDoorVk
import Derived.Test.YteklhapffplohaaGreatDoorVm
set_option linter.unusedVariables false
set_option linter.unusedSimpArgs false
namespace Go.Proofs.YteklhapffplohaaGreatDoor
open Go.RowKit
def Dr.consV (v : Value) : Value := .agg #[.int .i64 8,.int .i64 0,.bool false,.slice none 0 0,.slice none 0 0,.bool false,.slice none 0 0,.slice none 0 0,.string ⟨#[]⟩,.slice none 0 0,v]
theorem Dr.cons_in {w : World} {S : Nat → Prop} {a r : Tr} {C1 C2 : Array Value} {b : Nat} (h1 : Tr.In w S a (.agg C1)) (h2 : Tr.In w S r (.agg C2)) (m1 : Tr.Mem w b 0 C1) (m2 : Tr.Mem w b 11 C2) (hb : b < w.heap.size) (hS : S b) : Tr.In w S (Dr.cons a r) (Dr.consV (.slice (some ⟨b,0,none⟩) 2 2)) := by
 unfold Dr.cons;rw [Tr.In_mk];refine ⟨.slice none 0 0,.slice none 0 0,.slice none 0 0,.slice none 0 0,.slice none 0 0,.slice (some ⟨b,0,none⟩) 2 2,rfl,⟨⟨by decide,by decide,by decide,by decide,fun x h => by simp at h,fun x h => by simp at h,fun x h => by simp at h,fun x h => by simp at h,Nat.zero_le _,Nat.zero_le _,Nat.zero_le _,Nat.zero_le _,Nat.zero_le _,Nat.zero_le _⟩,.inl ⟨rfl,rfl⟩,.inl ⟨rfl,rfl⟩,.inl ⟨rfl,rfl⟩,.inl ⟨rfl,rfl⟩,.inl ⟨rfl,rfl⟩,fun h => absurd h (Nat.lt_irrefl 0),fun h => absurd h (Nat.lt_irrefl 0),fun h => absurd h (Nat.lt_irrefl 0),fun h => absurd h (Nat.lt_irrefl 0),fun h => absurd h (Nat.lt_irrefl 0)⟩,?_⟩;refine .inr (.inr ⟨by simp,b,0,2,rfl,by simp,by omega,hb,hS,?_⟩);show Tr.All w S [a,r] b 0;rw [Tr.All_cons,Tr.All_cons];exact ⟨⟨C1,h1,m1⟩,⟨C2,h2,m2⟩,Tr.All_nil⟩
theorem Dr.mem_of {w : World} {b : Nat} {u0 u1 u2 u3 u4 u5 u6 u7 u8 u9 u10 x0 x1 x2 x3 x4 x5 x6 x7 x8 x9 x10 : Value} {t : TypeId} (h : w.heap[b]? = some (.cells #[u0,u1,u2,u3,u4,u5,u6,u7,u8,u9,u10,x0,x1,x2,x3,x4,x5,x6,x7,x8,x9,x10] t (0,0))) :
 Tr.Mem w b 0 #[u0,u1,u2,u3,u4,u5,u6,u7,u8,u9,u10] ∧ Tr.Mem w b 11 #[x0,x1,x2,x3,x4,x5,x6,x7,x8,x9,x10] := by
 refine ⟨fun j hj => ?_,fun j hj => ?_⟩
 all_goals
  rw [Dr.cell_at h]
  match j,hj with
  | 0,_ => exact ⟨_,rfl,rfl⟩
  | 1,_ => exact ⟨_,rfl,rfl⟩
  | 2,_ => exact ⟨_,rfl,rfl⟩
  | 3,_ => exact ⟨_,rfl,rfl⟩
  | 4,_ => exact ⟨_,rfl,rfl⟩
  | 5,_ => exact ⟨_,rfl,rfl⟩
  | 6,_ => exact ⟨_,rfl,rfl⟩
  | 7,_ => exact ⟨_,rfl,rfl⟩
  | 8,_ => exact ⟨_,rfl,rfl⟩
  | 9,_ => exact ⟨_,rfl,rfl⟩
  | 10,_ => exact ⟨_,rfl,rfl⟩
theorem Dr.list_drop {ts : List Tr} {t a : Tr} {j : Nat} (h : ts[j]? = some a) : Dr.listT (ts.drop j) t = Dr.cons a (Dr.listT (ts.drop (j + 1)) t) := by
 obtain ⟨hlt,he⟩ := List.getElem?_eq_some_iff.1 h;rw [List.drop_eq_getElem_cons hlt,he];rfl
theorem Dr.lin_top {w : World} {S : Nat → Prop} {l : List Tr} {v : Value} (h : Tr.LIn w S l v) : Tr.LIn w (fun q => S q ∧ q < w.heap.size) l v := by
 rcases h with h0 | h0 | ⟨h0,b,off,cap,hv,h1,h2,h3,h4,h5⟩
 · exact .inl h0
 · exact .inr (.inl h0)
 · exact .inr (.inr ⟨h0,b,off,cap,hv,h1,h2,h3,⟨h4,h3⟩,Tr.All.top l b off h5⟩)
set_option maxHeartbeats 8000000
set_option maxRecDepth 1000000
theorem Dr.list_any (ts : List Tr) (t : Tr) (lv : Value) (C : Array Value) (w : World) (S : Nat → Prop) (hl : Tr.LIn w S ts lv) (ht : Tr.In w S t (.agg C)) (hlen : ts.length ≤ 4611686018427387904) :
 Calls Tryz.prog 40 #[lv,.agg C] w fun e w' => ∃ v',e = .returned v' ∧ Tr.In w' (fun q => S q ∨ w.heap.size ≤ q) (Dr.listT ts t) v' ∧ Below w.heap.size w w' := by
 obtain ⟨ad,cap,rfl,hcap,_⟩ := Tr.Sl.slice hl
 obtain ⟨n,hn⟩ : ∃ z,ts.length = z := ⟨_,rfl⟩
 obtain ⟨B,hB⟩ : ∃ z,w.heap.size = z := ⟨_,rfl⟩
 have hl1 := Dr.lin_top hl
 have ht1 := Tr.In.top t _ ht
 obtain ⟨hd,l,a3,a4,a6,a7,a9,a10,n3,n4,n6,n7,n9,n10,c3,c4,c6,c7,c9,c10,e,_,_,_⟩ := Tr.In.form2 ht
 subst e
 unfold Tr.cells at *
 have hal1 : Below w.heap.size w (w.alloc (.cells #[.int .i64 hd.k,.int .i64 hd.n,.bool hd.s1,.slice a3 n3 c3,.slice a4 n4 c4,.bool hd.s2,.slice a6 n6 c6,.slice a7 n7 c7,.string hd.x,.slice a9 n9 c9,.slice a10 n10 c10] 30)) := (Below.refl _ _).alloc (Nat.le_refl _) _
 have hz1 : (w.alloc (.cells #[.int .i64 hd.k,.int .i64 hd.n,.bool hd.s1,.slice a3 n3 c3,.slice a4 n4 c4,.bool hd.s2,.slice a6 n6 c6,.slice a7 n7 c7,.string hd.x,.slice a9 n9 c9,.slice a10 n10 c10] 30)).heap.size = B + 1 := by simp [hB]
 have hq1 := heap_alloc_new w (.cells #[.int .i64 hd.k,.int .i64 hd.n,.bool hd.s1,.slice a3 n3 c3,.slice a4 n4 c4,.bool hd.s2,.slice a6 n6 c6,.slice a7 n7 c7,.string hd.x,.slice a9 n9 c9,.slice a10 n10 c10] 30)
 obtain ⟨w1,hw1⟩ : ∃ z,w.alloc (.cells #[.int .i64 hd.k,.int .i64 hd.n,.bool hd.s1,.slice a3 n3 c3,.slice a4 n4 c4,.bool hd.s2,.slice a6 n6 c6,.slice a7 n7 c7,.string hd.x,.slice a9 n9 c9,.slice a10 n10 c10] 30) = z := ⟨_,rfl⟩
 rw [hw1] at hal1 hz1 hq1
 have hal2 : Below w1.heap.size w1 (w1.alloc (.cells #[.int .i64 0,.int .i64 0,.bool false,.slice none 0 0,.slice none 0 0,.bool false,.slice none 0 0,.slice none 0 0,.string ⟨#[]⟩,.slice none 0 0,.slice none 0 0] 30)) := (Below.refl _ _).alloc (Nat.le_refl _) _
 have hz2 : (w1.alloc (.cells #[.int .i64 0,.int .i64 0,.bool false,.slice none 0 0,.slice none 0 0,.bool false,.slice none 0 0,.slice none 0 0,.string ⟨#[]⟩,.slice none 0 0,.slice none 0 0] 30)).heap.size = B + 2 := by simp [hz1]
 have hq2 := heap_alloc_new w1 (.cells #[.int .i64 0,.int .i64 0,.bool false,.slice none 0 0,.slice none 0 0,.bool false,.slice none 0 0,.slice none 0 0,.string ⟨#[]⟩,.slice none 0 0,.slice none 0 0] 30)
 obtain ⟨w2,hw2⟩ : ∃ z,w1.alloc (.cells #[.int .i64 0,.int .i64 0,.bool false,.slice none 0 0,.slice none 0 0,.bool false,.slice none 0 0,.slice none 0 0,.string ⟨#[]⟩,.slice none 0 0,.slice none 0 0] 30) = z := ⟨_,rfl⟩
 rw [hw2] at hal2 hz2 hq2
 have hb2 : Below w.heap.size w w2 := hal1.trans (hal2.mono hal1.size)
 have hbx2 : Dr.Box0 (B + 1) w2 := by rw [hz1] at hq2; exact hq2
 have hq1' := (hal2.block w.heap.size (by omega)).trans hq1
 have hT2 := Tr.In.mono (S' := fun q => (S q ∧ q < B) ∨ B + 2 ≤ q) (fun q hq => .inl (by rw [← hB]; exact hq)) t _ (ht1.below hb2 (Nat.le_refl _))
 have hL2 := Tr.LIn.mono (S' := fun q => (S q ∧ q < B) ∨ B + 2 ≤ q) (Tr.LIn.kept hl1 (Tr.Kept.all hb2 (Nat.le_refl _))) (fun q hq => .inl (by rw [← hB]; exact hq))
 rw [hB] at hq1' hb2
 have H0 := Lib.hid (show ∃ (k : Nat) (i : Int) (C : Array Value),Value.int .i64 ((n : Int) - 1) = .int .i64 i ∧ i = (k : Int) - 1 ∧ k ≤ n ∧ w2.heap[B]? = some (.cells C 30 (0,0)) ∧ Tr.In w2 (fun q => (S q ∧ q < B) ∨ B + 2 ≤ q) (Dr.listT (ts.drop k) t) (.agg C) ∧ Tr.LIn w2 (fun q => (S q ∧ q < B) ∨ B + 2 ≤ q) ts (.slice ad ts.length cap) ∧ Dr.Box0 (B + 1) w2 ∧ Below B w w2 ∧ B + 2 ≤ w2.heap.size from
   ⟨n,_,_,rfl,rfl,Nat.le_refl _,hq1',by rw [← hn,List.drop_length]; exact hT2,hL2,hbx2,hb2,Nat.le_of_eq hz2.symm⟩)
 have HN := Lib.hid hn
 have HS := Lib.hid (show ∀ q,((S q ∧ q < B) ∨ B + 2 ≤ q) → (S q ∨ w.heap.size ≤ q) from fun q hq => by
   rcases hq with h | h
   · exact .inl h.1
   · exact .inr (by rw [hB]; omega))
 have HBB := Lib.hid hB
 have hwn : IntKind.i64.wrap ((n : Int) - 1) = (n : Int) - 1 := by rw [IntKind.wrap_i64]; omega
 rw [hn] at hlen hcap H0 ⊢
 clear hn hl ht hl1 ht1 hal1 hal2 hq1 hq2 hb2 hbx2 hq1' hT2 hL2
 go_enter Tryz.func40,Tryz.ntmps40
 go_wp2_with fail
 go_loopw [5] (fun v5 wr => ∃ (k : Nat) (i : Int) (C : Array Value),v5 = .int .i64 i ∧ i = (k : Int) - 1 ∧ k ≤ n ∧ wr.heap[B]? = some (.cells C 30 (0,0)) ∧ Tr.In wr (fun q => (S q ∧ q < B) ∨ B + 2 ≤ q) (Dr.listT (ts.drop k) t) (.agg C) ∧ Tr.LIn wr (fun q => (S q ∧ q < B) ∨ B + 2 ≤ q) ts (.slice ad n cap) ∧ Dr.Box0 (B + 1) wr ∧ Below B w wr ∧ B + 2 ≤ wr.heap.size) (fun v _ => (intOf v + 1).toNat)
 case atStart => exact H0.out
 case round =>
  obtain ⟨k,i,C,hv,hi,hk,hq,hT,hL,hbx,hb,hz⟩ := hrel
  subst hv
  obtain ⟨hd',l',b3,b4,b6,b7,b9,b10,m3,m4,m6,m7,m9,m10,d3,d4,d6,d7,d9,d10,e,_,_,_⟩ := Tr.In.form2 hT
  subst e
  unfold Tr.cells at *
  clear H0
  cases k with
  | zero =>
    obtain rfl : i = -1 := by omega
    obtain ⟨k0,k1,k2,k3,k4,k5,k6,k7,k8,k9,k10⟩ := Dr.cells11 hq
    obtain ⟨Y1,Y2,Y3,Y4,Y5,Y6,Y7,Y8,Y9,Y10,Y11,⟨g0,z0,s0⟩,⟨g1,z1,s1'⟩,⟨g2,z2,s2'⟩,⟨g3,z3,s3'⟩,⟨g4,z4,s4'⟩,⟨g5,z5,s5'⟩,⟨g6,z6,s6'⟩,⟨g7,z7,s7'⟩,⟨g8,z8,s8'⟩,⟨g9,z9,s9'⟩,⟨g10,z10,s10'⟩,⟨r0,r1,r2',r3,r4,r5,r6,r7,r8,r9,r10⟩,HY⟩ := hbx.put (.int .i64 hd'.k) (.int .i64 hd'.n) (.bool hd'.s1) (.slice b3 m3 d3) (.slice b4 m4 d4) (.bool hd'.s2) (.slice b6 m6 d6) (.slice b7 m7 d7) (.string hd'.x) (.slice b9 m9 d9) (.slice b10 m10 d10)
    have HE := Lib.hid (show Tr.In Y11 (fun q => S q ∨ w.heap.size ≤ q) (Dr.listT ts t) (.agg #[.int .i64 hd'.k,.int .i64 hd'.n,.bool hd'.s1,.slice b3 m3 d3,.slice b4 m4 d4,.bool hd'.s2,.slice b6 m6 d6,.slice b7 m7 d7,.string hd'.x,.slice b9 m9 d9,.slice b10 m10 d10]) ∧ Below w.heap.size w Y11 from by
      refine ⟨Tr.In.mono (S := fun q => (S q ∧ q < B) ∨ B + 2 ≤ q) HS.out _ _ (Tr.In.kept ⟨Nat.le_of_eq HY.out.2.1.symm,fun q hq _ => HY.out.2.2.1 q (by omega)⟩ _ _ hT),?_⟩;rw [HBB.out]
      exact HY.out.2.2.2 _ _ hb (by omega))
    clear hq hT hL hbx hb hz hk hi HY
    go_wp2_with fail
    refine bodyPost_ret (v := .agg #[.int .i64 hd'.k,.int .i64 hd'.n,.bool hd'.s1,.slice b3 m3 d3,.slice b4 m4 d4,.bool hd'.s2,.slice b6 m6 d6,.slice b7 m7 d7,.string hd'.x,.slice b9 m9 d9,.slice b10 m10 d10]) (by simp [results,Tryz.results40,go_sem,r0,r1,r2',r3,r4,r5,r6,r7,r8,r9,r10]) rfl ⟨_,rfl,HE.out⟩
  | succ j =>
    obtain rfl : i = (j : Int) := by omega
    have hwj : IntKind.i64.wrap ((j : Int) - 1) = (j : Int) - 1 := by rw [IntKind.wrap_i64]; omega
    obtain ⟨a,ha⟩ : ∃ a,ts[j]? = some a := ⟨_,List.getElem?_eq_getElem (by rw [HN.out]; omega)⟩
    obtain ⟨bL,off,rfl,_,_,_,hblt,hSb,hall⟩ := Tr.Sl.at hL (by rw [HN.out]; omega)
    obtain ⟨Ck,hIk,hMk⟩ := Tr.All.at _ _ _ hall j a ha
    rw [Nat.mul_comm 11 j] at hMk
    obtain ⟨he,le,f3,f4,f6,f7,f9,f10,p3,p4,p6,p7,p9,p10,o3,o4,o6,o7,o9,o10,eCb,_,_,_⟩ := Tr.In.form2 hIk
    subst eCb
    unfold Tr.cells at *
    have hMd : Tr.Mem wr.drew bL (off + j * 11) _ := hMk
    have hqd : wr.drew.heap[B]? = _ := hq
    obtain ⟨e0,e1,e2,e3,e4,e5,e6,e7,e8,e9,e10⟩ := Tr.Mem.cells hMd
    obtain ⟨k0,k1,k2,k3,k4,k5,k6,k7,k8,k9,k10⟩ := Dr.cells11 hqd
    have hjn : (j : Int) < (n : Int) := by omega
    have hjn2 : j < n := by omega
    have hbX : Below wr.heap.size wr (wr.alloc (.cells #[.int .i64 he.k,.int .i64 he.n,.bool he.s1,.slice f3 p3 o3,.slice f4 p4 o4,.bool he.s2,.slice f6 p6 o6,.slice f7 p7 o7,.string he.x,.slice f9 p9 o9,.slice f10 p10 o10,.int .i64 hd'.k,.int .i64 hd'.n,.bool hd'.s1,.slice b3 m3 d3,.slice b4 m4 d4,.bool hd'.s2,.slice b6 m6 d6,.slice b7 m7 d7,.string hd'.x,.slice b9 m9 d9,.slice b10 m10 d10] 30)).drew := ((Below.refl _ _).alloc (Nat.le_refl _) _).drew
    have hqX := (hbX.block B (by omega)).trans hq
    have hnX : (wr.alloc (.cells #[.int .i64 he.k,.int .i64 he.n,.bool he.s1,.slice f3 p3 o3,.slice f4 p4 o4,.bool he.s2,.slice f6 p6 o6,.slice f7 p7 o7,.string he.x,.slice f9 p9 o9,.slice f10 p10 o10,.int .i64 hd'.k,.int .i64 hd'.n,.bool hd'.s1,.slice b3 m3 d3,.slice b4 m4 d4,.bool hd'.s2,.slice b6 m6 d6,.slice b7 m7 d7,.string hd'.x,.slice b9 m9 d9,.slice b10 m10 d10] 30)).drew.heap[wr.heap.size]? = _ := heap_alloc_new wr (.cells #[.int .i64 he.k,.int .i64 he.n,.bool he.s1,.slice f3 p3 o3,.slice f4 p4 o4,.bool he.s2,.slice f6 p6 o6,.slice f7 p7 o7,.string he.x,.slice f9 p9 o9,.slice f10 p10 o10,.int .i64 hd'.k,.int .i64 hd'.n,.bool hd'.s1,.slice b3 m3 d3,.slice b4 m4 d4,.bool hd'.s2,.slice b6 m6 d6,.slice b7 m7 d7,.string hd'.x,.slice b9 m9 d9,.slice b10 m10 d10] 30)
    have hzX : (wr.alloc (.cells #[.int .i64 he.k,.int .i64 he.n,.bool he.s1,.slice f3 p3 o3,.slice f4 p4 o4,.bool he.s2,.slice f6 p6 o6,.slice f7 p7 o7,.string he.x,.slice f9 p9 o9,.slice f10 p10 o10,.int .i64 hd'.k,.int .i64 hd'.n,.bool hd'.s1,.slice b3 m3 d3,.slice b4 m4 d4,.bool hd'.s2,.slice b6 m6 d6,.slice b7 m7 d7,.string hd'.x,.slice b9 m9 d9,.slice b10 m10 d10] 30)).drew.heap.size = wr.heap.size + 1 := by simp
    obtain ⟨Y1,Y2,Y3,Y4,Y5,Y6,Y7,Y8,Y9,Y10,Y11,⟨g0,z0,s0,_⟩,⟨g1,z1,s1',_⟩,⟨g2,z2,s2',_⟩,⟨g3,z3,s3',_⟩,⟨g4,z4,s4',_⟩,⟨g5,z5,s5',_⟩,⟨g6,z6,s6',_⟩,⟨g7,z7,s7',_⟩,⟨g8,z8,s8',_⟩,⟨g9,z9,s9',_⟩,⟨g10,z10,s10',_⟩,y1,y2,y3,y4⟩ := Dr.put11 hqX (.int .i64 8) (.int .i64 0) (.bool false) (.slice none 0 0) (.slice none 0 0) (.bool false) (.slice none 0 0) (.slice none 0 0) (.string ⟨#[]⟩) (.slice none 0 0) (.slice (some ⟨wr.heap.size,0,none⟩) 2 2)
    have hKY : Tr.Kept (fun q => (S q ∧ q < B) ∨ B + 2 ≤ q) wr Y11 := ⟨by omega,fun q hq hlq => (y3 q (by omega)).trans (hbX.block q hlq)⟩
    have hnY := (y3 wr.heap.size (by omega)).trans hnX
    obtain ⟨mm1,mm2⟩ := Dr.mem_of hnY
    have hcons := Dr.cons_in (Tr.In.kept hKY _ _ hIk) (Tr.In.kept hKY _ _ hT) mm1 mm2 (by omega) (.inr hz)
    rw [← Dr.list_drop ha] at hcons
    have HGO := Lib.hid (show ∃ (k : Nat) (i : Int) (C : Array Value),Value.int .i64 ((j : Int) - 1) = .int .i64 i ∧ i = (k : Int) - 1 ∧ k ≤ n ∧ Y11.heap[B]? = some (.cells C 30 (0,0)) ∧ Tr.In Y11 (fun q => (S q ∧ q < B) ∨ B + 2 ≤ q) (Dr.listT (ts.drop k) t) (.agg C) ∧ Tr.LIn Y11 (fun q => (S q ∧ q < B) ∨ B + 2 ≤ q) ts (.slice (some ⟨bL,off,none⟩) n cap) ∧ Dr.Box0 (B + 1) Y11 ∧ Below B w Y11 ∧ B + 2 ≤ Y11.heap.size from
      ⟨j,_,_,rfl,rfl,by omega,y1,hcons,Tr.LIn.kept hL hKY,(y3 (B + 1) (by omega)).trans ((hbX.block (B + 1) (by omega)).trans hbx),y4 _ _ (hb.trans (hbX.mono (by omega))) (Nat.le_refl _),by omega⟩)
    clear hMd hqd hi hq hT hL hbx hb hk hIk hMk hall hblt hSb ha hbX hqX hnX y1 y3 y4 hKY hnY mm1 mm2 hcons
    go_wp2_with fail
    go_region
    all_goals
     go_wp2_with fail
     refine ⟨HGO.out,?_⟩
     show ((j : Int) - 1 + 1).toNat < ((j : Int) + 1).toNat
     omega
end Go.Proofs.YteklhapffplohaaGreatDoor
