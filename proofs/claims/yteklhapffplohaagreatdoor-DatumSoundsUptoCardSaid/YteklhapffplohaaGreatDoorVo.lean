/-
  datum.Sound of any datum. Blanks and remarks that stand ahead of a text. The fixed text of layer 8, in plain Lean.
-/
import Derived.Lib.DecodeN
import Derived.Laws.BitsLemmas
import Derived.Test.YteklhapffplohaaGreatDoorVn
import Derived.Test.YteklhapffplohaaGreatDoorVk
import Derived.Test.YteklhapffplohaaGreatDoorVa
set_option linter.unusedVariables false
set_option linter.unusedSimpArgs false
namespace Go.Proofs.YteklhapffplohaaGreatDoor
open Go.RowKit
theorem Tr.In.agg {w : World} {S : Nat → Prop} {t : Tr} {v : Value} (h : Tr.In w S t v) : ∃ C,v = .agg C := by
 obtain ⟨hd,l⟩ := t;rw [Tr.In_mk] at h;obtain ⟨v3,v4,v6,v7,v9,v10,e,_⟩ := h;exact ⟨_,e⟩
set_option maxHeartbeats 4000000
set_option maxRecDepth 1000000
theorem Tr.Sound_any (t : Tr) (S : Nat → Prop) (v : Value) (w : World) (hI : Tr.In w S t v) (hT : Tr.Tabs w) : Calls Tryz.prog 7 #[v] w fun e w' => e = .returned (.bool (Tr.sound t)) ∧ Below w.heap.size w w' := by
 obtain ⟨C,rfl⟩ := hI.agg;have K := fun w' L hb hL hp => Tr.sound_says t S C w w' L 1 20000 hI hT hb hL hp (by decide) (by decide) (by decide);obtain ⟨hb,lb,a3,a4,a6,a7,a9,a10,n3,n4,n6,n7,n9,n10,c3,c4,c6,c7,c9,c10,eC,_,_,_⟩ := Tr.In.form2 hI;subst eC;unfold Tr.cells at K ⊢;rw [show ((1 : Nat) : Int) = 1 from rfl] at K;have hdef : Tr.sound t = (Tr.snd t 1 20000).1 := rfl;rw [← hdef] at K;have hA : ∀ o1 o2,Below w.heap.size w ((w.alloc o1).alloc o2) := fun o1 o2 => ((Below.refl _ _).alloc (Nat.le_refl _) _).alloc (by simp) _;have hN : ∀ o,((w.alloc o).alloc (.cells #[.int .i64 20000] 3)).heap[w.heap.size + 1]? = some (.cells #[.int .i64 20000] 3 (0,0)) := by
  intro o;have := heap_alloc_new (w.alloc o) (.cells #[.int .i64 20000] 3);rwa [show (w.alloc o).heap.size = w.heap.size + 1 by simp] at this
 have HK := Lib.hid K;have HA := Lib.hid hA;have HN := Lib.hid hN;clear K hA hN hI hT hdef;generalize Tr.sound t = R at *;go_enter Tryz.func7,Tryz.ntmps7;go_wp2_with fail;refine (HK.out _ _ (HA.out _ _) (Nat.le_succ _) (HN.out _)).mono ?_;rintro y w1 ⟨rfl,_,hbt⟩;have HB := Lib.hid ((HA.out _ _).trans (hbt.below (Nat.le_succ _) (HA.out _ _).size));clear hbt;go_wp2_with fail;go_ret;exact ⟨rfl,HB.out⟩
set_option maxHeartbeats 200000
set_option maxRecDepth 512
theorem Dr.enc_asc (b : UInt8) (h : b.toNat < 128) : Lib.encodeRune (b.toNat : Int) = [b] := by
 unfold Lib.encodeRune;rw [Lib.encodeRuneZ_one (by omega) (by omega)];simp
theorem Dr.token_stop (b : UInt8) (t : List UInt8) (h : b.toNat < 128) (hd : Dr.delim (b.toNat : Int) = true) : Dr.token (b :: t) = some (b :: t) := by
 rw [Dr.token,dif_neg (by simp),if_neg (by rw [Dr.asc_bad b t h]; simp),(Dr.asc b t h).1,if_pos hd]
theorem Dr.token_one (b c : UInt8) (t : List UInt8) (h : b.toNat < 128) (hd : Dr.delim (b.toNat : Int) = false) (h92 : ¬ (b.toNat : Int) = 92) (hc : c.toNat < 128) (hcd : Dr.delim (c.toNat : Int) = true) : Dr.token (b :: c :: t) = some (c :: t) := by
 rw [Dr.token,dif_neg (by simp),if_neg (by rw [Dr.asc_bad b _ h]; simp),(Dr.asc b _ h).1,if_neg (by rw [hd]; simp),if_neg h92,(Dr.asc b _ h).2];exact Dr.token_stop c t hc hcd
theorem Dr.upto_one (b : UInt8) (t : List UInt8) : Dr.upto (b :: t) t = [b] := by
 unfold Dr.upto;rw [List.length_cons,show t.length + 1 - t.length = 1 by omega];rfl
theorem Dr.bk_stop (b : UInt8) (t : List UInt8) (h : b.toNat < 128) (hb : Ch.blankB (b.toNat : Int) = false) (h1 : b ≠ 59) (h2 : b ≠ 35) : Dr.bk (b :: t) = .stop := by
 unfold Dr.bk;rw [if_neg (by simp),if_neg (by rw [Dr.asc_bad b t h]; simp),(Dr.asc b t h).1,if_neg (by rw [hb]; simp),if_neg (by
   intro e
   exact h1 (UInt8.toNat.inj (by show b.toNat = 59; omega))),if_neg (by
   intro e;have := congrArg (·[0]?) e;simp at this
   exact h2 this),if_neg (by
   intro e;have := congrArg (·[0]?) e;simp at this
   exact h2 this)]
theorem Dr.pk_item (e : Int) (f : Bool) (b : UInt8) (t : List UInt8) (h : b.toNat < 128) (h1 : ¬ (b.toNat : Int) = e) (h2 : ¬ (b.toNat : Int) = 46) : Dr.pk e f (b :: t) = .item := by
 unfold Dr.pk;rw [if_neg (by simp),if_neg (by rw [Dr.asc_bad b t h]; simp),(Dr.asc b t h).1,if_neg h1,if_neg (by rw [decide_eq_false h2]; simp)]
def Dr.awkL : List UInt8 := [32,40,97,32,46,32,35,116,41,120]
def Dr.awkT : Tr := Dr.cons (Dr.leaf 6 0 [97]) (Dr.leaf 2 1 [])
theorem Dr.bk_blank (t : List UInt8) : Dr.bk (32 :: t) = .go t := by
 unfold Dr.bk;rw [if_neg (by simp),if_neg (by rw [Dr.asc_bad 32 t (by decide)]; simp),(Dr.asc 32 t (by decide)).1,if_pos (by decide),(Dr.asc 32 t (by decide)).2];rfl
theorem Dr.num_a : Dr.num [97] = .err 5 := by
 have hf : Dr.frac 10 false [97] 0 = none := by
  unfold Dr.frac Dr.digs;rw [if_pos (by rfl)]
 have hn : Dr.number 10 [97] = none := by
  unfold Dr.number;rw [show Dr.sign [97] = (false,false,[97]) from rfl];simp only [Bool.false_and];rw [hf];simp
 unfold Dr.num;rw [show Dr.pre 10 false false [97] = some (10,[97]) from rfl];simp only;rw [hn]
theorem Dr.sym_a : Dr.symbol [97] = some [97] := by
 have e1 : Dr.next [97] = some (97,[]) := by
  unfold Dr.next;rw [if_neg (by simp),if_neg (by rw [Dr.asc_bad 97 [] (by decide)]; simp),(Dr.asc 97 [] (by decide)).1,(Dr.asc 97 [] (by decide)).2];rfl
 have e2 : Dr.sym1 true [97] = some ([97],[]) := by
  unfold Dr.sym1;rw [e1];simp only;rw [if_neg (by decide),if_neg (by decide)];rw [show Lib.encodeRune 97 = [97] from Dr.enc_asc 97 (by decide)]
 unfold Dr.symbol;rw [if_neg (by decide),Dr.syms_eq true [97] (by simp),e2];simp only;rw [Dr.syms,if_pos ⟨rfl,rfl⟩];rfl
theorem Dr.atom_a : Dr.atom [97] = some (Dr.leaf 6 0 [97],false) := by
 unfold Dr.atom;rw [if_neg (by decide),if_neg (by decide),if_neg (by decide),Dr.num_a];simp only;rw [if_neg (by decide),if_neg (by decide),Dr.sym_a];rfl
theorem Dr.datum_a (t : List UInt8) : Dr.Rel (.datum (97 :: 32 :: t)) (.got (Dr.leaf 6 0 [97]) (32 :: t) false) := by
 refine .dDone ?_;have htk : Dr.token (97 :: 32 :: t) = some (32 :: t) := Dr.token_one 97 32 t (by decide) (by decide) (by decide) (by decide) (by decide);unfold Dr.dk;rw [if_neg (by simp),if_neg (by rw [Dr.asc_bad 97 _ (by decide)]; simp),(Dr.asc 97 _ (by decide)).1,if_neg (by decide),if_neg (by decide),if_neg (by decide),if_neg (by
   intro e;have := congrArg (·[0]?) e
   simp at this),if_neg (by
   intro e;have := congrArg (·[0]?) e
   simp at this),if_neg (by
   intro e;have := congrArg (·[0]?) e
   simp at this),htk]
 simp only [Dr.upto_one,Dr.atom_a]
theorem Dr.datum_t (t : List UInt8) : Dr.Rel (.datum (35 :: 116 :: 41 :: t)) (.got (Dr.leaf 2 1 []) (41 :: t) false) := by
 refine .dDone ?_;have htk : Dr.token (35 :: 116 :: 41 :: t) = some (41 :: t) := by
  rw [Dr.token,dif_neg (by simp),if_neg (by rw [Dr.asc_bad 35 _ (by decide)]; simp),(Dr.asc 35 _ (by decide)).1,if_neg (by decide),if_neg (by decide),(Dr.asc 35 _ (by decide)).2];exact Dr.token_one 116 41 t (by decide) (by decide) (by decide) (by decide) (by decide)
 have hup : Dr.upto (35 :: 116 :: 41 :: t) (41 :: t) = [35,116] := by
  unfold Dr.upto;rw [show (35 :: 116 :: 41 :: t : List UInt8).length - (41 :: t : List UInt8).length = 2 by simp only [List.length_cons]; omega];rfl
 unfold Dr.dk;rw [if_neg (by simp),if_neg (by rw [Dr.asc_bad 35 _ (by decide)]; simp),(Dr.asc 35 _ (by decide)).1,if_neg (by decide),if_neg (by decide),if_neg (by decide),if_neg (by
   intro e;have := congrArg (·[1]?) e
   simp at this),if_neg (by
   intro e;have := congrArg (·[1]?) e
   simp at this),if_neg (by
   intro e;have := congrArg (·[1]?) e
   simp at this),htk]
 simp only;rw [hup];rfl
theorem Dr.bk_hash_t (t : List UInt8) : Dr.bk (35 :: 116 :: t) = .stop := by
 unfold Dr.bk;rw [if_neg (by simp),if_neg (by rw [Dr.asc_bad 35 _ (by decide)]; simp),(Dr.asc 35 _ (by decide)).1,if_neg (by decide),if_neg (by decide),if_neg (by
   intro e;have := congrArg (·[1]?) e
   simp at this),if_neg (by
   intro e;have := congrArg (·[1]?) e
   simp at this)]
theorem Dr.awk_one : Dr.One Dr.awkL (.ok Dr.awkT 9) := by
 have b1 : Dr.Rel (.blanks Dr.awkL) (.skip [40,97,32,46,32,35,116,41,120]) := .bGo (Dr.bk_blank _) (.bStop (Dr.bk_stop 40 _ (by decide) (by decide) (by decide) (by decide)));have p2 : Dr.Rel (.pairs 41 false [32,46,32,35,116,41,120]) (.lst [] (Dr.leaf 2 1 []) [120] false) := by
  have hb : Dr.Rel (.blanks [32,46,32,35,116,41,120]) (.skip [46,32,35,116,41,120]) := .bGo (Dr.bk_blank _) (.bStop (Dr.bk_stop 46 _ (by decide) (by decide) (by decide) (by decide)));have hp : Dr.pk 41 false [46,32,35,116,41,120] = .dot [32,35,116,41,120] := by
   unfold Dr.pk;rw [if_neg (by simp),if_neg (by rw [Dr.asc_bad 46 _ (by decide)]; simp),(Dr.asc 46 _ (by decide)).1,if_neg (by decide),if_pos (by decide),Dr.token_one 46 32 _ (by decide) (by decide) (by decide) (by decide) (by decide)];simp only [Dr.upto_one];exact if_pos trivial
  have hb2 : Dr.Rel (.blanks [32,35,116,41,120]) (.skip [35,116,41,120]) := .bGo (Dr.bk_blank _) (.bStop (Dr.bk_hash_t _));have hb3 : Dr.Rel (.blanks [41,120]) (.skip [41,120]) := .bStop (Dr.bk_stop 41 _ (by decide) (by decide) (by decide) (by decide));have hp3 : Dr.pk 41 true [41,120] = .stop [120] := by
   unfold Dr.pk;rw [if_neg (by simp),if_neg (by rw [Dr.asc_bad 41 _ (by decide)]; simp),(Dr.asc 41 _ (by decide)).1,if_pos (by decide),(Dr.asc 41 _ (by decide)).2];rfl
  exact .pDot5 hb hp hb2 (Dr.datum_t [120]) hb3 hp3
 have p1 : Dr.Rel (.pairs 41 true [97,32,46,32,35,116,41,120]) (.lst [Dr.leaf 6 0 [97]] (Dr.leaf 2 1 []) [120] (false || false)) :=
  .pItem3 (.bStop (Dr.bk_stop 97 _ (by decide) (by decide) (by decide) (by decide))) (Dr.pk_item 41 true 97 _ (by decide) (by decide) (by decide)) (Dr.datum_a _) p2
 have d1 : Dr.Rel (.datum [40,97,32,46,32,35,116,41,120]) (.got (Dr.listT [Dr.leaf 6 0 [97]] (Dr.leaf 2 1 [])) [120] (false || false)) := by
  refine .dPairs2 (e := 41) (r := [97,32,46,32,35,116,41,120]) ?_ p1;unfold Dr.dk;rw [if_neg (by simp),if_neg (by rw [Dr.asc_bad 40 _ (by decide)]; simp),(Dr.asc 40 _ (by decide)).1,if_pos (by decide),(Dr.asc 40 _ (by decide)).2];rfl
 exact Dr.One.ok b1 (by simp) d1 (by decide)
mutual
def Tr.txt : Tr → Prop
 | .mk h l => h.x.size ≤ 1048576 ∧ Tr.txtL l
def Tr.txtL : List Tr → Prop
 | [] => True
 | t :: ts => Tr.txt t ∧ Tr.txtL ts
end
theorem Tr.txt_mk {h : Tr.Hd} {l : List Tr} : Tr.txt (.mk h l) ↔ h.x.size ≤ 1048576 ∧ Tr.txtL l := by rw [Tr.txt]
theorem Tr.txtL_cons {t : Tr} {ts : List Tr} : Tr.txtL (t :: ts) ↔ Tr.txt t ∧ Tr.txtL ts := by rw [Tr.txtL]
theorem Tr.txtL_at : ∀ {l : List Tr},Tr.txtL l → ∀ {k : Nat} {t : Tr},l[k]? = some t → Tr.txt t
 | a :: r,h,0,t,e => by
   simp only [List.getElem?_cons_zero,Option.some.injEq] at e;subst e;exact (Tr.txtL_cons.1 h).1
 | a :: r,h,k + 1,t,e => by
   simp only [List.getElem?_cons_succ] at e;exact Tr.txtL_at (Tr.txtL_cons.1 h).2 e
theorem Tr.txtL_nil : Tr.txtL [] := by first | (rw [Tr.txtL]; trivial) | rw [Tr.txtL] | simp [Tr.txtL]
theorem Tr.txtL_of : ∀ {l : List Tr},(∀ (k : Nat) (t : Tr),l[k]? = some t → Tr.txt t) → Tr.txtL l
 | [],_ => Tr.txtL_nil
 | a :: r,h => Tr.txtL_cons.2 ⟨h 0 a rfl,Tr.txtL_of (fun k t e => h (k + 1) t (by simpa using e))⟩
def Cd.refU (u : Cd.U) : Int × Bool × Int := if u.2.1 then (u.1,false,u.2.2) else (0,true,u.2.2)
def Cd.cellsU (us : List (Int × Bool × Int)) : List Value := us.flatMap fun u => [.int .i32 u.1,.bool u.2.1,.int .i64 u.2.2]
theorem Cd.cellsU_append (a b : List (Int × Bool × Int)) : Cd.cellsU (a ++ b) = Cd.cellsU a ++ Cd.cellsU b := by simp [Cd.cellsU]
theorem Cd.and31 (x : Int) (h0 : 0 ≤ x) (h1 : x < 256) : bits .and .u8 x 31 = x % 32 := bits_mask .u8 8 (by decide) wraps_u8 5 (by decide) x h0 h1
theorem Cd.and15 (x : Int) (h0 : 0 ≤ x) (h1 : x < 256) : bits .and .u8 x 15 = x % 16 := bits_mask .u8 8 (by decide) wraps_u8 4 (by decide) x h0 h1
theorem Cd.and7 (x : Int) (h0 : 0 ≤ x) (h1 : x < 256) : bits .and .u8 x 7 = x % 8 := bits_mask .u8 8 (by decide) wraps_u8 3 (by decide) x h0 h1
theorem Cd.and63 (x : Int) (h0 : 0 ≤ x) (h1 : x < 256) : bits .and .u8 x 63 = x % 64 := bits_mask .u8 8 (by decide) wraps_u8 6 (by decide) x h0 h1
theorem Cd.utf8U_at (s : ByteArray) (k : Nat) (h : k < s.size) (V W : Nat) (hd : Lib.decodeN (s.size - k) (s.get! k).toNat (s.get! (k + 1)).toNat (s.get! (k + 2)).toNat (s.get! (k + 3)).toNat = (V,W)) (F : Bool) (hF : F = !decide (V ≠ 65533 ∨ 1 < W)) :
 (Cd.utf8U s k).map Cd.refU = (if F then ((0 : Int),true,(k : Int)) else ((V : Int),false,(k : Int))) :: (Cd.utf8U s (k + W)).map Cd.refU := by
 have e := Lib.decode_at s k
 rw [hd] at e
 rw [Cd.utf8U_one s k h,e,List.map_cons]
 subst hF
 unfold Cd.refU
 by_cases hc : V ≠ 65533 ∨ 1 < W <;> simp [hc]
end Go.Proofs.YteklhapffplohaaGreatDoor
