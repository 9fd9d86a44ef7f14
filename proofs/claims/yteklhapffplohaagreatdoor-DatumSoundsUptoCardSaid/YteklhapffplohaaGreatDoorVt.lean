/-
  Arguments that are data, opened: a datum in memory is a tree. A datum that came in, opened: its tree, whose texts are short.
-/
import Derived.Test.YteklhapffplohaaGreatDoorRows
import Derived.OpenShut
import Derived.WideShapes
import Derived.ChangeArms
import Derived.ChangeSlices
import Derived.Lib.SmallJoins
import Derived.Test.YteklhapffplohaaGreatDoorVs
import Derived.Test.YteklhapffplohaaGreatDoorVo
set_option linter.unusedVariables false
set_option linter.unusedSimpArgs false
namespace Go.Proofs.YteklhapffplohaaGreatDoor
open Go.RowKit
theorem Up.pos {H : Type} (d : DataW H) : 1 ≤ Rows.uptoBulk d := by
 cases d with
 | lit l => cases l <;> simp [Rows.uptoBulk]
 | _ => simp [Rows.uptoBulk]
theorem Up.len {H : Type} : ∀ (l : List (DataW H)),l.length ≤ Rows.uptoBulkAll l
 | [] => Nat.zero_le _
 | d :: r => by
   have h1 := Up.pos d;have h2 := Up.len r;simp only [List.length_cons,Rows.uptoBulkAll];omega
theorem Up.mem {H : Type} : ∀ {l : List (DataW H)} {d : DataW H},d ∈ l → Rows.uptoBulk d ≤ Rows.uptoBulkAll l
 | a :: r,d,h => by
   simp only [Rows.uptoBulkAll];rcases List.mem_cons.1 h with rfl | h
   · omega
   · have := Up.mem h;omega
theorem Up.slc {H : Type} (l r : List (DataW H)) : Rows.uptoBulk (.slice l r) = Rows.uptoBulkAll l + Rows.uptoBulkAll r + 1 := by rw [Rows.uptoBulk]
theorem Up.agg {H : Type} (l : List (DataW H)) : Rows.uptoBulk (.agg l) = Rows.uptoBulkAll l + 1 := by rw [Rows.uptoBulk]
theorem Up.choose {α : Type} {P : Nat → α → Prop} : ∀ n,(∀ i,i < n → ∃ x,P i x) → ∃ l : List α,l.length = n ∧ ∀ i x,l[i]? = some x → P i x
 | 0,_ => ⟨[],rfl,fun i x h => by simp at h⟩
 | n + 1,h => by
   obtain ⟨l,h1,h2⟩ := Up.choose n (fun i hi => h i (by omega));obtain ⟨x,hx⟩ := h n (by omega);refine ⟨l ++ [x],by simp [h1],fun i y hy => ?_⟩;rcases Nat.lt_or_ge i n with hi | hi
   · rw [List.getElem?_append_left (by omega)] at hy;exact h2 i y hy
   · have hlt := (List.getElem?_eq_some_iff.1 hy).1;rw [List.length_append,h1] at hlt;have hin : i = n := by simp at hlt; omega
     subst hin;rw [List.getElem?_append_right (by omega),h1,Nat.sub_self] at hy;simp only [List.getElem?_cons_zero,Option.some.injEq] at hy;subst hy;exact hx
theorem Up.cells {w : World} {base n : Nat} {a : Addr} {cs : List Value} (h : w.cells? base a n = some cs) : cs.length = n ∧ ∀ j,j < n → ∃ u,cs[j]? = some u ∧ w.cell? (a.add j) = some u := by
 unfold World.cells? at h;split at h
 · have hl := mapM_some_length h;rw [List.length_range] at hl;refine ⟨hl,fun j hj => ?_⟩;have hg := mapM_some_get h j j (by simp [hj]);exact ⟨cs[j],List.getElem?_eq_getElem (by omega),hg.trans (List.getElem?_eq_getElem (by omega))⟩
 · cases h
theorem Up.spot {w : World} {a : Addr} {i : Nat} {u : Value} (h : w.cell? ((a.add i).add 0) = some u) (hi : i = 0) : a = ⟨a.block,a.off,none⟩ := by
 subst hi;have := World.cell?_spot h;obtain ⟨b,off,s⟩ := a;simp [Addr.add] at this;subst this;rfl
theorem Up.blk {w : World} {b off : Nat} {u : Value} (h : w.cell? ⟨b,off,none⟩ = some u) : b < w.heap.size := by
 rcases Nat.lt_or_ge b w.heap.size with h1 | h1
 · exact h1
 · simp [World.cell?,Array.getElem?_eq_none h1] at h
theorem Up.add (b off j : Nat) : (⟨b,off,none⟩ : Addr).add j = ⟨b,off + j,none⟩ := by unfold Addr.add; split <;> simp_all
theorem Up.slice {H : Type} {enc : TypeId × Value → H} {P : Program} {w : World} {base : Nat} {spare : Nat → Bool} {held : Bool} {fuel : Nat} {t e : TypeId} {cs : List Value} {x : DataW H × List MemPlace} {sz N : Nat} (ht : P.underlying t = some (.slice e)) (hc : P.cellsOf e = sz) (hsz : 0 < sz)
 (h : DataW.trod enc P w base spare held fuel t cs = some x) (hN : Rows.uptoBulk x.1 ≤ N) :
 cs = [.slice none 0 0] ∨ ∃ len cap n,fuel = n + 1 ∧ len ≤ cap ∧ cap ≤ maxLen ∧ len ≤ N ∧ ((len = 0 ∧ ∃ a,cs = [.slice (some a) 0 cap]) ∨ (0 < len ∧ ∃ b off,cs = [.slice (some ⟨b,off,none⟩) len cap] ∧ b < w.heap.size ∧
   ∀ i,i < len → ∃ (y : DataW H × List MemPlace) (es : List Value),Rows.uptoBulk y.1 ≤ N ∧ DataW.trod enc P w base spare held n e es = some y ∧ es.length = sz ∧ ∀ j,j < sz → ∃ u,es[j]? = some u ∧ w.cell? ⟨b,off + i * sz + j,none⟩ = some u)) := by
 rcases DataW.trod_slice ht h with ⟨hcs,_⟩ | ⟨a,len,cap,elems,rest,n,hf,hcs,hx,_,hl,hm,hlen,hel,_,_⟩
 · exact .inl hcs
 · have hNx : Rows.uptoBulk (DataW.slice (elems.map (·.1)) (rest.map (·.1))) ≤ N := by have := hN; rw [hx] at this; exact this
   rw [Up.slc] at hNx;have hl1 := Up.len (elems.map (·.1));rw [List.length_map,hlen] at hl1;refine .inr ⟨len,cap,n,hf,hl,hm,by omega,?_⟩;have each : ∀ i,i < len → ∃ (y : DataW H × List MemPlace) (es : List Value),Rows.uptoBulk y.1 ≤ N ∧ DataW.trod enc P w base spare held n e es = some y ∧ es.length = sz ∧ ∀ j,j < sz → ∃ u,es[j]? = some u ∧ w.cell? ((a.add (i * sz)).add j) = some u := by
    intro i hi;have h1 := hel i hi;have hy : elems[i]? = some elems[i] := List.getElem?_eq_getElem (by omega);rw [hy,hc,Option.bind_eq_some_iff] at h1;obtain ⟨es,he1,he2⟩ := h1;obtain ⟨h3,h4⟩ := Up.cells he1;refine ⟨elems[i],es,?_,he2,h3,h4⟩;have := Up.mem (l := elems.map (·.1)) (d := elems[i].1) (List.mem_map.2 ⟨elems[i],List.getElem_mem _,rfl⟩);omega
   rcases Nat.eq_zero_or_pos len with h0 | h0
   · subst h0;exact .inl ⟨rfl,a,hcs⟩
   · obtain ⟨_,_,_,_,_,hc0⟩ := each 0 h0;obtain ⟨u,_,hu⟩ := hc0 0 hsz;have ha := Up.spot hu (by omega);refine .inr ⟨h0,a.block,a.off,by rw [hcs]; rw [ha],?_,fun i hi => ?_⟩
     · rw [ha,Up.add,Up.add] at hu;exact Up.blk hu
     · obtain ⟨y,es,h1,h2,h3,h4⟩ := each i hi;refine ⟨y,es,h1,h2,h3,fun j hj => ?_⟩;obtain ⟨u,h5,h6⟩ := h4 j hj;refine ⟨u,h5,?_⟩;rw [ha,Up.add,Up.add] at h6;exact h6
theorem Up.one {l : List Value} (h : l.length = 1) : ∃ u,l = [u] := by
 match l,h with
 | [u],_ => exact ⟨u,rfl⟩
theorem Up.cellsU : Tryz.prog.cellsOf 57 = 1 := by kernel_rfl
theorem Up.words {H : Type} {enc : TypeId × Value → H} {w : World} {base : Nat} {spare : Nat → Bool} {held : Bool} {fuel : Nat} {cs : List Value} {x : DataW H × List MemPlace} {N : Nat} (h : DataW.trod enc Tryz.prog w base spare held fuel 22 cs = some x) (hN : Rows.uptoBulk x.1 ≤ N) :
 ∃ v ws,cs = [v] ∧ Nt.In w v ws ∧ Nt.Wd ws ∧ ws.length ≤ N := by
 rcases Up.slice Tryz.underlying22 Up.cellsU (by decide) h hN with rfl | ⟨len,cap,n,_,hl,hm,hle,h1⟩
 · exact ⟨_,[],rfl,.inl ⟨rfl,rfl⟩,fun y hy => by simp at hy,Nat.zero_le _⟩
 · rcases h1 with ⟨_,a,rfl⟩ | ⟨h0,b,off,rfl,hb,hel⟩
   · exact ⟨_,[],rfl,.inr (.inl ⟨a,cap,rfl,rfl⟩),fun y hy => by simp at hy,Nat.zero_le _⟩
   · obtain ⟨ws,hw1,hw2⟩ := Up.choose (P := fun i z => z < 4294967296 ∧ w.cell? ⟨b,off + i,none⟩ = some (.int .u32 (z : Nat))) len (fun i hi => by
      obtain ⟨y,es,_,hd,hes,hcell⟩ := hel i hi;obtain ⟨u,rfl⟩ := Up.one hes;obtain ⟨k,e,_,hwf⟩ := DataW.trod_int Tryz.underlying57 hd;simp only [List.cons.injEq,and_true] at e;subst e;obtain ⟨u,hu1,hu2⟩ := hcell 0 (by decide);simp only [List.getElem?_cons_zero,Option.some.injEq] at hu1;subst hu1;have hk : 0 ≤ k ∧ k < 4294967296 := by
       simp only [Lit.wf,Bool.and_eq_true,decide_eq_true_eq] at hwf;have e1 : IntKind.min .u32 = 0 := rfl;have e2 : IntKind.max .u32 = 4294967295 := rfl;omega
      refine ⟨k.toNat,by omega,?_⟩;rw [Nat.mul_one,Nat.add_zero] at hu2
      rw [hu2,show ((k.toNat : Nat) : Int) = k by omega])
     refine ⟨_,ws,rfl,.inr (.inr ⟨by omega,b,off,cap,by rw [hw1],by omega,hb,fun j hj => ?_⟩),fun y hy => ?_,by omega⟩
     · have hg : ws[j]? = some ws[j] := List.getElem?_eq_getElem hj;have := (hw2 j _ hg).2;rw [this,List.getD_eq_getElem?_getD,hg];rfl
     · obtain ⟨j,hj,rfl⟩ := List.getElem_of_mem hy;exact (hw2 j _ (List.getElem?_eq_getElem hj)).1
theorem Up.cellsB : Tryz.prog.cellsOf 5 = 1 := by kernel_rfl
theorem Up.bytes {H : Type} {enc : TypeId × Value → H} {w : World} {base : Nat} {spare : Nat → Bool} {held : Bool} {fuel : Nat} {cs : List Value} {x : DataW H × List MemPlace} {N : Nat} (h : DataW.trod enc Tryz.prog w base spare held fuel 27 cs = some x) (hN : Rows.uptoBulk x.1 ≤ N) :
 ∃ v s,cs = [v] ∧ By.In w v s ∧ s.size ≤ N := by
 obtain ⟨a,l,c,rfl⟩ := Go.Joins.slice_form Tryz.underlying27 h
 obtain ⟨s,h1,h2⟩ := By.In.open (v := .slice a l c) Tryz.underlying27 Tryz.underlying5 Up.cellsB ⟨_,_,_,rfl⟩ ⟨fuel,h⟩
 refine ⟨_,s,rfl,h1,?_⟩
 rcases h2 with ⟨_,h2⟩ | ⟨elems,spare,he,h2⟩
 · omega
 · rw [he,Up.slc] at hN;have := Up.len elems;omega
theorem Up.list2 {α : Type} {l : List α} (h : l.length = 2) : ∃ a b,l = [a,b] := by
 match l,h with
 | [a,b],_ => exact ⟨a,b,rfl⟩
theorem Up.list3 {α : Type} {l : List α} (h : l.length = 3) : ∃ a b c,l = [a,b,c] := by
 match l,h with
 | [a,b,c],_ => exact ⟨a,b,c,rfl⟩
theorem Up.list6 {α : Type} {l : List α} (h : l.length = 6) : ∃ a b c d e f,l = [a,b,c,d,e,f] := by
 match l,h with
 | [a,b,c,d,e,f],_ => exact ⟨a,b,c,d,e,f,rfl⟩
theorem Up.list11 {α : Type} {l : List α} (h : l.length = 11) : ∃ c0 c1 c2 c3 c4 c5 c6 c7 c8 c9 c10,l = [c0,c1,c2,c3,c4,c5,c6,c7,c8,c9,c10] := by
 match l,h with
 | [c0,c1,c2,c3,c4,c5,c6,c7,c8,c9,c10],_ => exact ⟨c0,c1,c2,c3,c4,c5,c6,c7,c8,c9,c10,rfl⟩
theorem Up.cellsD : Tryz.prog.cellsOf 30 = 11 := by kernel_rfl
theorem Up.cellsN : Tryz.prog.cellsOf 26 = 6 := by kernel_rfl
theorem Up.cellsR : Tryz.prog.cellsOf 24 = 3 := by kernel_rfl
theorem Up.cellsI : Tryz.prog.cellsOf 3 = 1 := by kernel_rfl
theorem Up.cellsO : Tryz.prog.cellsOf 4 = 1 := by kernel_rfl
theorem Up.cellsS : Tryz.prog.cellsOf 9 = 1 := by kernel_rfl
theorem Up.cells32 : Tryz.prog.cellsOf 22 = 1 := by kernel_rfl
theorem Up.cells8 : Tryz.prog.cellsOf 27 = 1 := by kernel_rfl
theorem Up.cellsL : Tryz.prog.cellsOf 28 = 1 := by kernel_rfl
set_option maxRecDepth 100000
theorem Up.rat {H : Type} {enc : TypeId × Value → H} {w : World} {base : Nat} {spare : Nat → Bool} {held : Bool} {fuel : Nat} {c0 c1 c2 : Value} {x : DataW H × List MemPlace} {N : Nat} (h : DataW.trod enc Tryz.prog w base spare held fuel 24 [c0,c1,c2] = some x) (hN : Rows.uptoBulk x.1 ≤ N) :
 ∃ (b : Bool) (t1 t2 : List Nat),c0 = .bool b ∧ Nt.In w c1 t1 ∧ Nt.In w c2 t2 ∧ Nt.Wd t1 ∧ Nt.Wd t2 ∧ t1.length ≤ N ∧ t2.length ≤ N := by
 obtain ⟨xs,n,_,hx,_,hlen,hf⟩ := DataW.trod_struct Tryz.underlying24 h
 obtain ⟨y0,y1,y2,rfl⟩ := Up.list3 hlen
 have hN2 : Rows.uptoBulkAll [y0.1,y1.1,y2.1] + 1 ≤ N := by rw [← Up.agg]; rw [hx] at hN; exact hN
 have m1 := Up.mem (l := [y0.1,y1.1,y2.1]) (d := y1.1) (by simp)
 have m2 := Up.mem (l := [y0.1,y1.1,y2.1]) (d := y2.1) (by simp)
 have h0 : DataW.trod enc Tryz.prog w base spare held n 4 (([c0,c1,c2].drop 0).take (Tryz.prog.cellsOf 4)) = some y0 := hf 0 _ rfl
 have h1 : DataW.trod enc Tryz.prog w base spare held n 22 (([c0,c1,c2].drop 1).take (Tryz.prog.cellsOf 22)) = some y1 := hf 1 _ rfl
 have h2 : DataW.trod enc Tryz.prog w base spare held n 22 (([c0,c1,c2].drop 2).take (Tryz.prog.cellsOf 22)) = some y2 := hf 2 _ rfl
 rw [Up.cellsO] at h0
 rw [Up.cells32] at h1 h2
 obtain ⟨b,e0,_⟩ := DataW.trod_bool Tryz.underlying4 h0
 obtain ⟨v1,w1,e1,i1,d1,l1⟩ := Up.words (N := N) h1 (by omega)
 obtain ⟨v2,w2,e2,i2,d2,l2⟩ := Up.words (N := N) h2 (by omega)
 simp only [List.drop_zero,List.take_succ_cons,List.take_zero,List.drop_succ_cons,List.cons.injEq,and_true] at e0 e1 e2
 subst e0 e1 e2
 exact ⟨b,w1,w2,rfl,i1,i2,d1,d2,l1,l2⟩
theorem Up.datum {H : Type} {enc : TypeId × Value → H} {w : World} {base : Nat} {spare : Nat → Bool} {held : Bool} {N : Nat} (hN0 : N ≤ 1048576) : ∀ (fuel : Nat) (cs : List Value) (x : DataW H × List MemPlace),DataW.trod enc Tryz.prog w base spare held fuel 30 cs = some x → Rows.uptoBulk x.1 ≤ N →
 ∃ t C,cs = C.toList ∧ Tr.In w (fun _ => True) t (.agg C) ∧ Tr.txt t := by
 intro fuel
 induction fuel using Nat.strongRecOn with
 | ind fuel IH =>
   intro cs x h hN
   obtain ⟨xs,n,hfu,hx,hcl,hlen,hf⟩ := DataW.trod_struct Tryz.underlying30 h
   obtain ⟨y0,y1,y2,y3,y4,y5,rfl⟩ := Up.list6 hlen
   obtain ⟨c0,c1,c2,c3,c4,c5,c6,c7,c8,c9,c10,rfl⟩ := Up.list11 (hcl.trans Up.cellsD)
   have hN2 : Rows.uptoBulkAll [y0.1,y1.1,y2.1,y3.1,y4.1,y5.1] + 1 ≤ N := by rw [← Up.agg]; rw [hx] at hN; exact hN
   have m2 := Up.mem (l := [y0.1,y1.1,y2.1,y3.1,y4.1,y5.1]) (d := y2.1) (by simp)
   have m3 := Up.mem (l := [y0.1,y1.1,y2.1,y3.1,y4.1,y5.1]) (d := y3.1) (by simp)
   have m4 := Up.mem (l := [y0.1,y1.1,y2.1,y3.1,y4.1,y5.1]) (d := y4.1) (by simp)
   have m5 := Up.mem (l := [y0.1,y1.1,y2.1,y3.1,y4.1,y5.1]) (d := y5.1) (by simp)
   have h0 : DataW.trod enc Tryz.prog w base spare held n 3 (([c0,c1,c2,c3,c4,c5,c6,c7,c8,c9,c10].drop 0).take (Tryz.prog.cellsOf 3)) = some y0 := hf 0 _ rfl
   have h1 : DataW.trod enc Tryz.prog w base spare held n 3 (([c0,c1,c2,c3,c4,c5,c6,c7,c8,c9,c10].drop 1).take (Tryz.prog.cellsOf 3)) = some y1 := hf 1 _ rfl
   have h2 : DataW.trod enc Tryz.prog w base spare held n 26 (([c0,c1,c2,c3,c4,c5,c6,c7,c8,c9,c10].drop 2).take (Tryz.prog.cellsOf 26)) = some y2 := hf 2 _ rfl
   have h3 : DataW.trod enc Tryz.prog w base spare held n 9 (([c0,c1,c2,c3,c4,c5,c6,c7,c8,c9,c10].drop 8).take (Tryz.prog.cellsOf 9)) = some y3 := hf 3 _ rfl
   have h4 : DataW.trod enc Tryz.prog w base spare held n 27 (([c0,c1,c2,c3,c4,c5,c6,c7,c8,c9,c10].drop 9).take (Tryz.prog.cellsOf 27)) = some y4 := hf 4 _ rfl
   have h5 : DataW.trod enc Tryz.prog w base spare held n 28 (([c0,c1,c2,c3,c4,c5,c6,c7,c8,c9,c10].drop 10).take (Tryz.prog.cellsOf 28)) = some y5 := hf 5 _ rfl
   clear hf h
   rw [Up.cellsI] at h0 h1
   rw [Up.cellsN] at h2
   rw [Up.cellsS] at h3
   rw [Up.cells8] at h4
   rw [Up.cellsL] at h5
   obtain ⟨k,e0,_,wk⟩ := DataW.trod_int Tryz.underlying3 h0
   obtain ⟨m,e1,_,wm⟩ := DataW.trod_int Tryz.underlying3 h1
   obtain ⟨s,e3,hx3,hs⟩ := DataW.trod_string Tryz.underlying9 h3
   have hxs : s.size ≤ 1048576 := by
    have e8 : s.data.toList.length ≤ Rows.uptoBulk y3.1 := by rw [hx3]; simp only [Rows.uptoBulk]; omega
    have e9 : s.data.toList.length = s.size := Array.length_toList;omega
   obtain ⟨v9,raw,e4,i9,l9⟩ := Up.bytes (N := N) h4 (by omega)
   have h2b : DataW.trod enc Tryz.prog w base spare held n 26 [c2,c3,c4,c5,c6,c7] = some y2 := h2
   obtain ⟨ys,n2,_,hx2,_,hlen2,hg⟩ := DataW.trod_struct Tryz.underlying26 h2b
   obtain ⟨z0,z1,rfl⟩ := Up.list2 hlen2
   have m2' : Rows.uptoBulk y2.1 ≤ N := by omega
   rw [hx2] at m2'
   have hN3 : Rows.uptoBulkAll [z0.1,z1.1] + 1 ≤ N := by
    rw [← Up.agg];exact m2'
   have p0 := Up.mem (l := [z0.1,z1.1]) (d := z0.1) (by simp)
   have p1 := Up.mem (l := [z0.1,z1.1]) (d := z1.1) (by simp)
   have g0 : DataW.trod enc Tryz.prog w base spare held n2 24 (([c2,c3,c4,c5,c6,c7].drop 0).take (Tryz.prog.cellsOf 24)) = some z0 := hg 0 _ rfl
   have g1 : DataW.trod enc Tryz.prog w base spare held n2 24 (([c2,c3,c4,c5,c6,c7].drop 3).take (Tryz.prog.cellsOf 24)) = some z1 := hg 1 _ rfl
   rw [Up.cellsR] at g0 g1
   obtain ⟨b1,t1,t2,rfl,j3,j4,w1,w2,l1,l2⟩ := Up.rat (N := N) (show DataW.trod enc Tryz.prog w base spare held n2 24 [c2,c3,c4] = some z0 from g0) (by omega)
   obtain ⟨b2,t3,t4,rfl,j6,j7,w3,w4,l3,l4⟩ := Up.rat (N := N) (show DataW.trod enc Tryz.prog w base spare held n2 24 [c5,c6,c7] = some z1 from g1) (by omega)
   simp only [List.drop_zero,List.take_succ_cons,List.take_zero,List.drop_succ_cons,List.cons.injEq,and_true] at e0 e1 e3 e4
   subst e0 e1 e3 e4
   have hlist : ∃ l,Tr.LIn w (fun _ => True) l c10 ∧ Tr.txtL l := by
    rcases Up.slice (N := N) Tryz.underlying28 Up.cellsD (by decide) h5 (by omega) with e | ⟨len,cap,n',hn',hl,hm,hle,hh⟩
    · simp only [List.drop_zero,List.take_succ_cons,List.take_zero,List.drop_succ_cons,List.cons.injEq,and_true] at e;subst e;exact ⟨[],.inl ⟨rfl,rfl⟩,Tr.txtL_nil⟩
    · rcases hh with ⟨_,a,e⟩ | ⟨hp,b,off,e,hb,hel⟩
      · simp only [List.drop_zero,List.take_succ_cons,List.take_zero,List.drop_succ_cons,List.cons.injEq,and_true] at e;subst e;exact ⟨[],.inr (.inl ⟨_,_,rfl,rfl⟩),Tr.txtL_nil⟩
      · simp only [List.drop_zero,List.take_succ_cons,List.take_zero,List.drop_succ_cons,List.cons.injEq,and_true] at e;subst e;obtain ⟨l,hl1,hl2⟩ := Up.choose (P := fun i t => ∃ C : Array Value,Tr.In w (fun _ => True) t (.agg C) ∧ Tr.Mem w b (off + i * 11) C ∧ Tr.txt t) len (fun i hi => by
          obtain ⟨y,es,hby,hd,hes,hcell⟩ := hel i hi;obtain ⟨t,C,rfl,hI,hX⟩ := IH n' (by omega) es y hd hby;exact ⟨t,C,hI,fun j hj => by
            obtain ⟨u,q1,q2⟩ := hcell j hj
            exact ⟨u,by rw [← Array.getElem?_toList]; exact q1,q2⟩,hX⟩)
        refine ⟨l,.inr (.inr ⟨by omega,b,off,cap,by rw [hl1],by omega,by simp only [maxLen] at hm; omega,hb,trivial,Tr.All.of l b off (fun k t hk => ?_)⟩),Tr.txtL_of (fun k t hk => by obtain ⟨C,_,_,q3⟩ := hl2 k t hk; exact q3)⟩;obtain ⟨C,q1,q2,_⟩ := hl2 k t hk;exact ⟨C,q1,by rw [Nat.mul_comm 11 k]; exact q2⟩
   obtain ⟨l,hL,hX⟩ := hlist
   simp only [Lit.wf,Bool.and_eq_true,decide_eq_true_eq] at wk wm
   have q1 : IntKind.min .i64 = -9223372036854775808 := rfl
   have q2 : IntKind.max .i64 = 9223372036854775807 := rfl
   refine ⟨.mk ⟨k,m,b1,t1,t2,b2,t3,t4,s,raw⟩ l,_,rfl,?_,Tr.txt_mk.2 ⟨hxs,hX⟩⟩
   rw [Tr.In_mk]
   refine ⟨c3,c4,c6,c7,c9,c10,rfl,⟨⟨by show (_ : Int) ≤ k; omega,by show k ≤ _; omega,by show (_ : Int) ≤ m; omega,by show m ≤ _; omega,w1,w2,w3,w4,by show t1.length ≤ _; omega,by show t2.length ≤ _; omega,by show t3.length ≤ _; omega,by show t4.length ≤ _; omega,hs,by show raw.size ≤ _; omega⟩,j3,j4,j6,j7,i9,fun _ _ _ _ _ _ => trivial,fun _ _ _ _ _ _ => trivial,fun _ _ _ _ _ _ => trivial,fun _ _ _ _ _ _ => trivial,fun _ _ _ _ _ _ => trivial⟩,hL⟩
end Go.Proofs.YteklhapffplohaaGreatDoor
namespace Go.Proofs.YteklhapffplohaaGreatDoor
open Go.ChangeShapes Go.WideShapes Go.RowKit Go.Joins
set_option maxRecDepth 100000
theorem Up.treeX {H : Type} {enc : TypeId × Value → H} {w : World} {base b0 : Nat} {r : Reach} {spare : Nat → Bool} {held : Bool} {N : Nat} {v : Value} {d : DataW H} {p : List MemPlace} (hN0 : N ≤ 1048576) (hv : Value.okWide Tryz.prog w r b0 30 v) (h : DataW.Trod enc Tryz.prog w base spare held 30 v d p) (hN : Rows.uptoBulk d ≤ N) : ∃ t,Tr.In w (fun _ => True) t v ∧ Tr.txt t := by
 obtain ⟨cs,rfl,hsz⟩ := okWide_struct Tryz.underlying30 hv;obtain ⟨fuel,hf⟩ := h;obtain ⟨t,C,e,h1,h2⟩ := Up.datum hN0 fuel _ _ hf hN;have e2 : cs = C := Array.toList_inj.1 (by simpa [Value.cells] using e);subst e2;exact ⟨t,h1,h2⟩
end Go.Proofs.YteklhapffplohaaGreatDoor
