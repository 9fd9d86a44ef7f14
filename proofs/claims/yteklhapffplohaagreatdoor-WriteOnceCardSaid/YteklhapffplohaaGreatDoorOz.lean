/-
  What is read has short texts and short rows of bytes. The reader's door: the deferred closure that catches a fault.
-/
import Derived.Tactics2
import Derived.Defers
import Derived.Recover
import Derived.Laws.Pointers
import Derived.Test.YteklhapffplohaaGreatDoorOy
import Derived.Test.YteklhapffplohaaGreatDoorOl
import Derived.Test.YteklhapffplohaaGreatDoorOu
set_option maxHeartbeats 4000000
set_option maxRecDepth 1000000
set_option linter.unusedVariables false
set_option linter.unusedSimpArgs false
namespace Go.Proofs.YteklhapffplohaaGreatDoor
open Go.RowKit
def Dr.Job.tx : Dr.Job → List UInt8
 | .blanks l => l
 | .datum l => l
 | .items _ l => l
 | .pairs _ _ l => l
def Dr.Res.fit (n : Nat) : Dr.Res → Prop
 | .got t _ _ => Wt.fit t
 | .list ts r _ => Wt.fitL ts ∧ ts.length + r.length ≤ n
 | .lst ts last _ _ => Wt.fitL ts ∧ Wt.fit last
 | _ => True
theorem Dr.bytesOf_len : ∀ {ts : List Tr} {b : List UInt8},Dr.bytesOf ts = some b → b.length = ts.length
 | [],b,h => by
   unfold Dr.bytesOf at h;cases h;rfl
 | t :: ts,b,h => by
   rw [Dr.bytesOf] at h;cases ht : Dr.byteOf t with
   | none => rw [ht] at h; cases h
   | some x =>
     rw [ht] at h;cases hb : Dr.bytesOf ts with
     | none => rw [hb] at h; cases h
     | some y =>
       rw [hb] at h;simp only [Option.map_some,Option.some.injEq] at h;rw [← h,List.length_cons,List.length_cons,Dr.bytesOf_len hb]
theorem Dr.leaf_fit (k n : Int) (x : List UInt8) (h : x.length ≤ 1048576) : Wt.fit (Dr.leaf k n x) := by
 unfold Dr.leaf;rw [Wt.fit_mk];exact ⟨⟨by show x.toArray.size ≤ _; simpa using h,Nat.zero_le _⟩,Wt.fitL_nil⟩
theorem Dr.cons_fit {a r : Tr} (h1 : Wt.fit a) (h2 : Wt.fit r) : Wt.fit (Dr.cons a r) := by
 unfold Dr.cons;rw [Wt.fit_mk,Wt.fitL_cons,Wt.fitL_cons];exact ⟨⟨Nat.zero_le _,Nat.zero_le _⟩,h1,h2,Wt.fitL_nil⟩
theorem Dr.list_fit : ∀ {ts : List Tr} {last : Tr},Wt.fitL ts → Wt.fit last → Wt.fit (Dr.listT ts last)
 | [],last,_,h => h
 | a :: ts,last,h,h2 => by
   rw [Wt.fitL_cons] at h;exact Dr.cons_fit h.1 (Dr.list_fit h.2 h2)
theorem Dr.vec_fit {ts : List Tr} (h : Wt.fitL ts) : Wt.fit (Dr.vec ts) := by
 unfold Dr.vec;rw [Wt.fit_mk];exact ⟨⟨Nat.zero_le _,Nat.zero_le _⟩,h⟩
theorem Dr.upto_len (l r : List UInt8) : (Dr.upto l r).length ≤ l.length := by
 unfold Dr.upto;rw [List.length_take]; omega
theorem Dr.atom_fit {t : List UInt8} {x : Tr × Bool} (h : Dr.atom t = some x) (hl : t.length ≤ 65536) : Wt.fit x.1 := by
 unfold Dr.atom at h;split at h
 · cases h; exact Dr.leaf_fit _ _ _ (by simp)
 · split at h
   · cases h; exact Dr.leaf_fit _ _ _ (by simp)
   · split at h
     · cases h; exact Dr.leaf_fit _ _ _ (by omega)
     · split at h
       · cases h;unfold Dr.numT;rw [Wt.fit_mk];exact ⟨⟨Nat.zero_le _,Nat.zero_le _⟩,Wt.fitL_nil⟩
       · split at h
         · cases h; exact Dr.leaf_fit _ _ _ (by simp)
         · split at h
           · cases h
           · cases hs : Dr.symbol t with
             | none => rw [hs] at h; cases h
             | some y =>
               rw [hs] at h;simp only [Option.map_some,Option.some.injEq] at h;rw [← h];have := Dr.symbol_len hs;exact Dr.leaf_fit _ _ _ (by omega)
theorem Dr.dk_fit {l r : List UInt8} {t : Tr} {big : Bool} (h : Dr.dk l = .done t r big) (hl : l.length ≤ 65536) : Wt.fit t := by
 unfold Dr.dk at h;split at h
 · cases h
 · split at h
   · cases h
   · split at h
     · cases h
     · split at h
       · split at h
         · cases h
         · rename_i x hx;cases h;have := Dr.text_len0 _ _ x (Nat.le_refl _) hx;rw [List.length_drop] at this;exact Dr.leaf_fit _ _ _ (by omega)
       · split at h
         · cases h
         · split at h
           · cases h
           · split at h
             · cases h
             · split at h
               · split at h
                 · cases h
                 · cases h; exact Dr.leaf_fit _ _ _ (by simp)
               · split at h
                 · cases h
                 · split at h
                   · cases h
                   · rename_i ha;cases h;exact Dr.atom_fit ha (Nat.le_trans (Dr.upto_len _ _) hl)
theorem Dr.skl {l r : List UInt8} (h : Dr.Rel (.blanks l) (.skip r)) : r.length ≤ l.length := h.less
theorem Dr.gtl {l r : List UInt8} {t : Tr} {b : Bool} (h : Dr.Rel (.datum l) (.got t r b)) : r.length < l.length := h.less
theorem Dr.Res.fit_skip {l : List UInt8} {R : Dr.Res} {n m : Nat} (h : Dr.Rel (.blanks l) R) (hf : R.fit n) : R.fit m := by
 cases R with
 | list ts r big => exact absurd h.less (by simp [Dr.Res.less])
 | _ => exact hf
theorem Dr.Rel.fit {j : Dr.Job} {R : Dr.Res} (h : Dr.Rel j R) : j.tx.length ≤ 65536 → R.fit j.tx.length := by
 induction h with
 | @bGo l r R h h2 ih => intro hl; exact Dr.Res.fit_skip h2 (ih (Nat.le_trans (Nat.le_of_lt (Dr.bk_go h)) hl))
 | bDat3 h h2 h3 h4 i2 i3 i4 => intro hl; exact Dr.Res.fit_skip h4 (i4 (by
     have a := Dr.bk_datum h; have b := Dr.skl h2; have c := Dr.gtl h3
     simp only [Dr.Job.tx] at *; omega))
 | dDone h => intro hl; exact Dr.dk_fit h hl
 | @dPairs2 l e r ts last r2 big h h2 i2 =>
   intro hl;have a := Dr.dk_less l;rw [h] at a;have := i2 (by simp only [Dr.Job.tx,Dr.Dk.less] at *; omega);exact Dr.list_fit this.1 this.2
 | @dQuote3 l r r1 t r2 big h h2 h3 i2 i3 =>
   intro hl;have a := Dr.dk_less l;rw [h] at a;have b := Dr.skl h2;have := i3 (by simp only [Dr.Job.tx,Dr.Dk.less] at *; omega);exact Dr.cons_fit (Dr.leaf_fit _ _ _ (by simp)) (Dr.cons_fit this (Dr.leaf_fit _ _ _ (by simp)))
 | @dVec2 l r ts r2 big h h2 i2 =>
   intro hl;have a := Dr.dk_less l;rw [h] at a;exact Dr.vec_fit (i2 (by simp only [Dr.Job.tx,Dr.Dk.less] at *; omega)).1
 | @dByt3 l r ts r2 big b h h2 h3 i2 =>
   intro hl;have a := Dr.dk_less l;rw [h] at a;have k := (i2 (by simp only [Dr.Job.tx,Dr.Dk.less] at *; omega)).2;have k2 := Dr.bytesOf_len h3;show Wt.fit (Dr.bytesT _);unfold Dr.bytesT;rw [Wt.fit_mk];refine ⟨⟨Nat.zero_le _,?_⟩,Wt.fitL_nil⟩;show b.toArray.size ≤ _;simp only [Dr.Job.tx,Dr.Dk.less] at *;rw [List.size_toArray];omega
 | @iStop e l r r2 h h2 =>
   intro _;have b := Dr.skl h;have a := Dr.pk_less e true r;rw [h2] at a;simp only [Dr.Job.tx,Dr.Pk.less] at *;exact ⟨Wt.fitL_nil,by simp only [List.length_nil]; omega⟩
 | iItem3 h h2 h3 h4 i1 i3 i4 =>
   intro hl;have b := Dr.skl h; have c := Dr.gtl h3;show Wt.fitL (_ :: _) ∧ _;rw [Wt.fitL_cons];simp only [Dr.Job.tx] at *;have k := i4 (by omega);exact ⟨⟨i3 (by omega),k.1⟩,by have := k.2; simp only [List.length_cons]; omega⟩
 | pStop => intro _; exact ⟨Wt.fitL_nil,Dr.leaf_fit _ _ _ (by simp)⟩
 | @pDot5 e f l r r2 r3 t r4 big r5 r6 h h2 h3 h4 h5 h6 i1 i3 i4 i5 =>
   intro hl;have b := Dr.skl h; have c := Dr.skl h3;have a := Dr.pk_less e f r;rw [h2] at a;simp only [Dr.Job.tx,Dr.Pk.less] at *;exact ⟨Wt.fitL_nil,i4 (by omega)⟩
 | pItem3 h h2 h3 h4 i1 i3 i4 =>
   intro hl;have b := Dr.skl h; have c := Dr.gtl h3;simp only [Dr.Job.tx] at *;have := i4 (by omega);show Wt.fitL (_ :: _) ∧ _;rw [Wt.fitL_cons];exact ⟨⟨i3 (by omega),this.1⟩,this.2⟩
 | _ => intro _; trivial
theorem Dr.One.fit {s : List UInt8} {t : Tr} {n : Nat} (h : Dr.One s (.ok t n)) (hs : s.length ≤ 65536) : Wt.fit t := by
 cases h with
 | ok h1 hr h2 hb => exact h2.fit (Nat.le_trans (Dr.skl h1) hs)
structure Dr.Door (B : Nat) (w : World) : Prop where
 d : Dr.Box0 B w
 n : w.heap[B + 1]? = some (.cells #[.int .i64 0] 3 (0,0))
 e : w.heap[B + 2]? = some (.cells #[.int .i64 0] 31 (0,0))
structure Dr.Told (B : Nat) (x : Int) (w w' : World) : Prop where
 d : Dr.Box0 B w'
 n : w'.cell? ⟨B + 1,0,none⟩ = some (.int .i64 0)
 e : w'.cell? ⟨B + 2,0,none⟩ = some (.int .i64 x)
 below : ∀ (K : Nat) (z : World),Below K z w → K ≤ B → Below K z w'
theorem Dr.same11 {B : Nat} {w : World} (h : Dr.Box0 B w) :
 (w.setCell ⟨B,0,none⟩ (.int .i64 0) = w ∧ w.setCell ⟨B,1,none⟩ (.int .i64 0) = w ∧ w.setCell ⟨B,2,none⟩ (.bool false) = w ∧ w.setCell ⟨B,3,none⟩ (.slice none 0 0) = w ∧ w.setCell ⟨B,4,none⟩ (.slice none 0 0) = w ∧ w.setCell ⟨B,5,none⟩ (.bool false) = w ∧ w.setCell ⟨B,6,none⟩ (.slice none 0 0) = w ∧ w.setCell ⟨B,7,none⟩ (.slice none 0 0) = w ∧ w.setCell ⟨B,8,none⟩ (.string ⟨#[]⟩) = w ∧ w.setCell ⟨B,9,none⟩ (.slice none 0 0) = w ∧ w.setCell ⟨B,10,none⟩ (.slice none 0 0) = w) ∧
 (w.frozen? ⟨B,0,none⟩ = false ∧ w.frozen? ⟨B,1,none⟩ = false ∧ w.frozen? ⟨B,2,none⟩ = false ∧ w.frozen? ⟨B,3,none⟩ = false ∧ w.frozen? ⟨B,4,none⟩ = false ∧ w.frozen? ⟨B,5,none⟩ = false ∧ w.frozen? ⟨B,6,none⟩ = false ∧ w.frozen? ⟨B,7,none⟩ = false ∧ w.frozen? ⟨B,8,none⟩ = false ∧ w.frozen? ⟨B,9,none⟩ = false ∧ w.frozen? ⟨B,10,none⟩ = false) :=
 ⟨⟨Dr.put_same h 0 _ rfl,Dr.put_same h 1 _ rfl,Dr.put_same h 2 _ rfl,Dr.put_same h 3 _ rfl,Dr.put_same h 4 _ rfl,Dr.put_same h 5 _ rfl,Dr.put_same h 6 _ rfl,Dr.put_same h 7 _ rfl,Dr.put_same h 8 _ rfl,Dr.put_same h 9 _ rfl,Dr.put_same h 10 _ rfl⟩,
   Rt.frozen_of h 0,Rt.frozen_of h 1,Rt.frozen_of h 2,Rt.frozen_of h 3,Rt.frozen_of h 4,Rt.frozen_of h 5,Rt.frozen_of h 6,Rt.frozen_of h 7,Rt.frozen_of h 8,Rt.frozen_of h 9,Rt.frozen_of h 10⟩
theorem Dr.same1 {b : Nat} {w : World} {v : Value} {t : TypeId} (h : w.heap[b]? = some (.cells #[v] t (0,0))) : w.setCell ⟨b,0,none⟩ v = w ∧ w.frozen? ⟨b,0,none⟩ = false ∧ w.cell? ⟨b,0,none⟩ = some v :=
 ⟨Dr.put_same h 0 _ rfl,Rt.frozen_of h 0,Lib.cell_of_heap h 0⟩
theorem Dr.Door.below {B K : Nat} {w w' : World} (h : Dr.Door B w) (hb : Below K w w') (hK : B + 3 ≤ K) : Dr.Door B w' :=
 ⟨(hb.block B (by omega)).trans h.d,(hb.block (B + 1) (by omega)).trans h.n,(hb.block (B + 2) (by omega)).trans h.e⟩
theorem Dr.Door.lt {B : Nat} {w : World} (h : Dr.Door B w) : B + 2 < w.heap.size := (Array.getElem?_eq_some_iff.1 h.e).1
theorem Dr.Door.tell {B : Nat} {w : World} (h : Dr.Door B w) (x : Int) : ∃ W,w.setCell ⟨B + 2,0,none⟩ (.int .i64 x) = W ∧ Dr.Box0 B W ∧ W.heap[B + 1]? = some (.cells #[.int .i64 0] 3 (0,0)) ∧ W.heap[B + 2]? = some (.cells #[.int .i64 x] 31 (0,0)) ∧ Hid (Dr.Told B x w W) := by
 have hd : (w.setCell ⟨B + 2,0,none⟩ (.int .i64 x)).heap[B]? = w.heap[B]? := heap_setCell_other w ⟨B + 2,0,none⟩ B _ (by simp);have hn : (w.setCell ⟨B + 2,0,none⟩ (.int .i64 x)).heap[B + 1]? = w.heap[B + 1]? := heap_setCell_other w ⟨B + 2,0,none⟩ (B + 1) _ (by simp);have he : (w.setCell ⟨B + 2,0,none⟩ (.int .i64 x)).heap[B + 2]? = some (.cells #[.int .i64 x] 31 (0,0)) := heap_setCell_same w (B + 2) 0 _ _ (.int .i64 x) h.e;refine ⟨_,rfl,hd.trans h.d,hn.trans h.n,he,Lib.hid ⟨hd.trans h.d,Lib.cell_of_heap (hn.trans h.n) 0,Lib.cell_of_heap he 0,fun K z hb hK => hb.setCell (by show K ≤ B + 2; omega) _⟩⟩
theorem Dr.catch_idle (p q r : Addr) (w : World) :
 CallsD Tryz.prog 19 #[.pointer (some p),.pointer (some q),.pointer (some r)] .returning w fun e u' w' => e = .returned (.tuple #[]) ∧ u' = .returning ∧ w = w' := by
 refine callsD_of_wpS Tryz.func19 rfl fun c₀ cs hu => ?_
 apply wpS_seq
 apply wpS_region
 simp [wpOpsS,go_sem,recoverD,hu,Tryz.ntmps19,Exit.thenS]
 refine wpS_of_wp ?_
 change Code.wp _ _ _ { tmps := #[.pointer (some p),.pointer (some q),.pointer (some r),.nilIface,undef,undef,.nilIface,undef,undef,undef,undef,undef,undef,undef,undef,undef,undef,undef,undef,undef],defers := [] } w
 go_wp2_with fail
 cases c₀
 simp_all [bodyPostS,results,Tryz.results19]
theorem Dr.assertF (x : Int) (w : World) : (Instr.typeAssert (.iface 51 (.agg #[.int .i64 x])) 20 51 true).run Tryz.prog w = .ok (.tuple #[.agg #[.int .i64 x],.bool true]) w := by
 first
  | (simp [Instr.typeAssert,go_sem,Tryz.underlying51]; done)
  | rfl
  | kernel_rfl
theorem Dr.catch_fault (B : Nat) (x : Int) (w : World) (h : Dr.Door B w) :
 CallsD Tryz.prog 19 #[.pointer (some ⟨B,0,none⟩),.pointer (some ⟨B + 1,0,none⟩),.pointer (some ⟨B + 2,0,none⟩)] (.panicking [{ v := .iface 51 (.agg #[.int .i64 x]),recovered := false }]) w fun e u' w' =>
  e = .returned (.tuple #[]) ∧ u' = .panicking [{ v := .iface 51 (.agg #[.int .i64 x]),recovered := true }] ∧ Dr.Told B x w w' := by
 have hal : Below w.heap.size w (w.alloc (.cells #[.int .i64 x] 51)).drew := ((Below.refl _ _).alloc (Nat.le_refl _) _).drew
 have hlt := h.lt
 have hD := h.below hal (by omega)
 have hqF : (w.alloc (.cells #[.int .i64 x] 51)).drew.heap[w.heap.size]? = some (.cells #[.int .i64 x] 51 (0,0)) := heap_alloc_new w _
 obtain ⟨W,hW,hWd,hWn,hWe,HT⟩ := hD.tell x
 obtain ⟨⟨a0,a1,a2,a3,a4,a5,a6,a7,a8,a9,a10⟩,z0,z1,z2,z3,z4,z5,z6,z7,z8,z9,z10⟩ := Dr.same11 hD.d
 obtain ⟨b0,b1,b2⟩ := Dr.same1 hD.n
 obtain ⟨_,c1,c2⟩ := Dr.same1 hD.e
 obtain ⟨⟨e0,e1,e2,e3,e4,e5,e6,e7,e8,e9,e10⟩,y0,y1,y2,y3,y4,y5,y6,y7,y8,y9,y10⟩ := Dr.same11 hWd
 obtain ⟨f0,f1,f2⟩ := Dr.same1 hWn
 obtain ⟨k0,k1,k2,k3,k4,k5,k6,k7,k8,k9,k10⟩ := Dr.cells11 hD.d
 obtain ⟨m0,m1,m2,m3,m4,m5,m6,m7,m8,m9,m10⟩ := Dr.cells11 hWd
 have hcF := Lib.cell_of_heap hqF 0
 have hWF : W.cell? ⟨w.heap.size,0,none⟩ = some (.int .i64 x) := by rw [← hW]; exact (World.cell?_of_block (heap_setCell_other _ ⟨B + 2,0,none⟩ w.heap.size _ (by simp; omega))).trans hcF
 have HE := Lib.hid (show Dr.Told B x w W from ⟨HT.out.d,HT.out.n,HT.out.e,fun K z hb hK => HT.out.below K z (hb.trans (hal.mono (by omega))) hK⟩)
 have hTA := Dr.assertF x w
 clear hal hD hqF hWd hWn hWe HT h
 refine callsD_of_wpS Tryz.func19 rfl fun c₀ cs hu => ?_
 apply wpS_seq
 apply wpS_region
 simp [wpOpsS,go_sem,recoverD,hu,Tryz.ntmps19,Exit.thenS]
 refine wpS_of_wp ?_
 change Code.wp _ _ _ { tmps := #[.pointer (some ⟨B,0,none⟩),.pointer (some ⟨B + 1,0,none⟩),.pointer (some ⟨B + 2,0,none⟩),.iface 51 (.agg #[.int .i64 x]),undef,undef,.iface 51 (.agg #[.int .i64 x]),undef,undef,undef,undef,undef,undef,undef,undef,undef,undef,undef,undef,undef],defers := [] } w
 go_wp2_with fail
 go_region
 all_goals
  go_wp2_with fail
  have HT2 := HE.out
  clear a0 a1 a2 a3 a4 a5 a6 a7 a8 a9 a10 z0 z1 z2 z3 z4 z5 z6 z7 z8 z9 z10 b0 b1 b2 c1 c2 e0 e1 e2 e3 e4 e5 e6 e7 e8 e9 e10 y0 y1 y2 y3 y4 y5 y6 y7 y8 y9 y10 f0 f1 f2 k0 k1 k2 k3 k4 k5 k6 k7 k8 k9 k10 m0 m1 m2 m3 m4 m5 m6 m7 m8 m9 m10 hcF hWF hTA hW HE
  cases c₀
  simp_all [bodyPostS,results,Tryz.results19]
end Go.Proofs.YteklhapffplohaaGreatDoor
