/-
  The writer's datum of a vector. '[]byte(s)' of a text, in plain Lean over worlds. The writer's datum of bytes.
-/
import Derived.Laws.IdiomStrings
import Derived.Test.YteklhapffplohaaGreatDoorRows
import Derived.Lib.LaidU8
import Derived.Test.YteklhapffplohaaGreatDoorOr
import Derived.Test.YteklhapffplohaaGreatDoorOk
import Derived.Test.YteklhapffplohaaGreatDoorOa
import Derived.Test.YteklhapffplohaaGreatDoorOs
import Derived.Test.YteklhapffplohaaGreatDoorOp
import Derived.Test.YteklhapffplohaaGreatDoorOl
set_option maxHeartbeats 4000000
set_option maxRecDepth 1000000
set_option linter.unusedVariables false
set_option linter.unusedSimpArgs false
namespace Go.Proofs.YteklhapffplohaaGreatDoor
open Go.RowKit
structure Wt.VecRel (B b : Nat) (m : Bool) (bs : List Value) (l : List Tr) (W0 : World) (k : Nat) (acc : List UInt8) (wr : World) : Prop where
 at_ : Wr.At B b (.pointer (some ⟨b,0,none⟩)) m (bs ++ Lib.byteCells acc) wr
 kept : Wt.Kept B b W0 wr
 le : k ≤ l.length
 says : acc ++ (Wt.row m (k == 0) (l.drop k) ++ [41]) = [35,40] ++ (Wt.row m true l ++ [41])
 len : acc.length + 16777216 * Tr.sizeL (l.drop k) ≤ 16777216 * Tr.sizeL l + 2
theorem Wt.VecRel.next {B b : Nat} {m : Bool} {bs : List Value} {l : List Tr} {W0 : World} {k : Nat} {acc : List UInt8} {wr w1 : World} (h : Wt.VecRel B b m bs l W0 k acc wr) {t : Tr} (ht : l[k]? = some t) (hg : Tr.good t) (hf : Wt.fit t)
 (h1 : Wr.At B b (.pointer (some ⟨b,0,none⟩)) m (bs ++ Lib.byteCells (acc ++ ((if k = 0 then [] else [32]) ++ Wt.tell m t))) w1) (k1 : Wt.Kept B b wr w1) :
 Wt.VecRel B b m bs l W0 (k + 1) (acc ++ ((if k = 0 then [] else [32]) ++ Wt.tell m t)) w1 := by
 have hd : l.drop k = t :: l.drop (k + 1) := by
  obtain ⟨h2,h3⟩ := List.getElem?_eq_some_iff.1 ht;rw [List.drop_eq_getElem_cons h2,h3]
 have hk : k < l.length := (List.getElem?_eq_some_iff.1 ht).1
 refine ⟨h1,h.kept.trans k1,hk,?_,?_⟩
 · rw [← h.says,hd,Wt.row_cons];by_cases h0 : k = 0 <;> simp [h0]
 · have h2 := h.len;rw [hd,Tr.sizeL_cons] at h2;have h3 := (Wt.small m t hg hf).1;have : (if k = 0 then ([] : List UInt8) else [32]).length ≤ 1 := by split <;> simp
   simp only [List.length_append];omega
theorem Wt.datum_vec (m : Bool) (h : Tr.Hd) (l : List Tr) (h9 : h.k = 9) (IH : ∀ u,Tr.size u < Tr.size (.mk h l) → Wt.Says m u) : Wt.Says m (.mk h l) := by
 intro B b bs C w hW hI hE hg hf hlen;obtain ⟨hsh,hgl⟩ := Tr.good_mk.1 hg;obtain ⟨⟨hx,hr⟩,hfl⟩ := Wt.fit_mk.1 hf;rw [Wt.tell_atom (by omega)];rw [Tr.size_mk] at hlen;obtain ⟨hBb,hblt⟩ := hW.blk;rw [Tr.In_mk] at hI;obtain ⟨v3,v4,v6,v7,v9,v10,e,hH,hL⟩ := hI;cases e;obtain ⟨W0,hW0⟩ : ∃ z,w.alloc (.cells (Tr.cells h v3 v4 v6 v7 v9 v10) 30) = z := ⟨_,rfl⟩;have hb0 : Below w.heap.size w W0 := by rw [← hW0]; exact (Below.refl _ _).alloc (Nat.le_refl _) _
 obtain ⟨hIs,hEn,hKe⟩ := Wt.boxed hW hE (Tr.cells h v3 v4 v6 v7 v9 v10);rw [hW0] at hIs hEn hKe;have hz0 := hb0.size;obtain ⟨p10,d10,rfl,hcap10,hmax10⟩ := Tr.Sl.slice hL;have hlen10 : l.length ≤ 9223372036854775807 := by
  rcases hmax10 with h0 | h0 <;> omega
 have hdata : ∀ k t,l[k]? = some t → ∃ (bb off : Nat) (C : Array Value),p10 = some ⟨bb,off,none⟩ ∧ ∀ wr,Wt.Kept B b W0 wr → Tr.In wr (fun q => q < B) t (.agg C) ∧ Tr.Mem wr bb (off + k * 11) C := by
  intro k t ht;have hk := (List.getElem?_eq_some_iff.1 ht).1;obtain ⟨bb,off,e,_,_,_,hblt,hSb,hall⟩ := Tr.Sl.at hL (by omega);obtain ⟨Ck,hIk,hMk⟩ := Tr.All.at _ _ _ hall k t ht;rw [Nat.mul_comm 11 k] at hMk;refine ⟨bb,off,Ck,e,fun wr hkw => ?_⟩;have hkp : Tr.Kept (fun q => q < B) w wr := ⟨Nat.le_trans hz0 hkw.size,fun q hq hl => (hkw.1.block q hq).trans (hb0.block q hl)⟩;exact ⟨Tr.In.kept hkp t _ hIk,hMk.kept hkp hSb hblt⟩
 have K5 := Lib.hid (Wt.writeString B b m bs ⟨#[35,40]⟩ W0 hIs (by show _ + 2 ≤ _; omega) (by omega));obtain ⟨dd,_⟩ := hKe W0 (Wt.Kept.refl _ _ _);have q0 := dd 0;have HDATA := Lib.hid hdata;have HKE := Lib.hid hKe;have HEN := Lib.hid hEn;have HIH : Hid (∀ k t,l[k]? = some t → Wt.Says m t ∧ Tr.good t ∧ Wt.fit t ∧ Tr.size t ≤ Tr.sizeL (l.drop k)) := Lib.hid (fun k t ht => by
   refine ⟨IH t (Tr.size_lt (t := .mk h l) ht),Tr.goodL_at l hgl k t ht,Wt.fitL_at hfl ht,?_⟩;have hd : l.drop k = t :: l.drop (k + 1) := by
    obtain ⟨h2,h3⟩ := List.getElem?_eq_some_iff.1 ht;rw [List.drop_eq_getElem_cons h2,h3]
   rw [hd,Tr.sizeL_cons]
   omega)
 have HGET : Hid (∀ k,k < l.length → ∃ t,l[k]? = some t) := Lib.hid (fun k hk => ⟨_,List.getElem?_eq_getElem hk⟩);obtain ⟨k,n,s1,t1,b1,s2,t2,b2,x,raw⟩ := h;simp only at h9;subst h9;unfold Tr.cells at q0 HKE hW0 ⊢;obtain ⟨L,hL2⟩ : ∃ z,z = l.length := ⟨_,rfl⟩;rw [← hL2] at q0 HKE hW0 HGET hcap10 hlen10 ⊢;have HLL := Lib.hid hL2;clear dd hdata hKe hIs hEn hH hL hL2 hW hE hg hf hfl hgl hsh hb0 hmax10 IH;go_enter Tryz.func30,Tryz.ntmps30;go_wp2_with fail;refine K5.out.mono ?_;rintro e w1 ⟨rfl,h1,k1⟩;obtain ⟨dd1,kw1⟩ := HKE.out _ k1;have q10 := dd1 10;have H0 : Wt.VecRel B b m bs l W0 0 [35,40] w1 := ⟨h1,k1,Nat.zero_le _,rfl,by simp; omega⟩;clear h1 dd1 q0;go_wp2_with fail;go_loopw [115] (fun i wr => ∃ (k : Nat) (acc : List UInt8),i = .int .i64 k ∧ Wt.VecRel B b m bs l W0 k acc wr) (fun i _ => L - (intOf i).toNat);case atStart => exact ⟨0,_,rfl,H0⟩
 case round =>
  obtain ⟨k,acc,rfl,hR⟩ := hrel;clear H0 q10;have hle := hR.le;rw [← HLL.out] at hle;have hal := hR.len;have hbW := Wr.At.is hR.at_ |>.blk;by_cases hk : k < L
  · obtain ⟨t,ht⟩ := HGET.out k hk;obtain ⟨bb,off,C,rfl,hel⟩ := HDATA.out k t ht;obtain ⟨hS,hgt,hft,hst⟩ := HIH.out k t ht;have hIk := (hel wr hR.kept).1;obtain ⟨he,le,ab3,ab4,ab6,ab7,ab9,ab10,nb3,nb4,nb6,nb7,nb9,nb10,cb3,cb4,cb6,cb7,cb9,cb10,eCb,ebt,hbH,hbL⟩ := Tr.In.form2 hIk;subst eCb;clear ebt hbH hbL hIk;have hM := (hel wr hR.kept).2;unfold Tr.cells at hM hel;obtain ⟨e0,e1,e2,e3,e4,e5,e6,e7,e8,e9,e10⟩ := Tr.Mem.cells hM;clear hM;have hEW := HEN.out.kept hR.kept;have HREC := Lib.hid (fun (w5 : World) (k5 : Wt.Kept B b wr w5) (ac : List UInt8) (hAt : Wr.At B b (.pointer (some ⟨b,0,none⟩)) m (bs ++ Lib.byteCells ac) w5) (hac : ac.length ≤ acc.length + 1) =>
      hS B b (bs ++ Lib.byteCells ac) _ w5 hAt.is (hel w5 (hR.kept.trans k5)).1 (hEW.kept k5) hgt hft (by rw [List.length_append,Lib.byteCells_length]; omega))
    have HN := Lib.hid (fun w2 => hR.next (w1 := w2) ht hgt hft);have HAT := Lib.hid hR.at_;have HKA := Lib.hid (fun o => (Wt.Kept.refl B b wr).alloc (by omega) o);by_cases hk0 : k = 0
    · subst hk0;rw [Nat.zero_mul,Nat.add_zero] at e0 e1 e2 e3 e4 e5 e6 e7 e8 e9 e10;clear hR hel hS;go_wp2_with fail;refine (HREC.out _ (HKA.out _) acc (HAT.out.alloc _) (by omega)).mono ?_;rintro e w3 ⟨rfl,h3,k3⟩;rw [Wt.cells_app] at h3;go_wp2_with fail;go_roundw;case rel => exact ⟨1,_,by first | rfl | go_num | (simp; try omega),HN.out w3 h3 ((HKA.out _).trans k3)⟩
      case measure => simp [intOf]; omega
    · have hk0I : (0 : Int) < (k : Int) := by omega
      have HB := Lib.hid (fun o => Wt.writeByte B b m (bs ++ Lib.byteCells acc) 32 (wr.alloc o) (HAT.out.alloc o).is (by rw [List.length_append,Lib.byteCells_length]; omega) (by simp; omega));clear hR hel hS hle;go_wp2_with fail;refine (HB.out _).mono ?_;rintro e w5 ⟨rfl,h5,k5⟩;have h5 : Wr.At B b (.pointer (some ⟨b,0,none⟩)) m (bs ++ Lib.byteCells (acc ++ [32])) w5 := by rw [← Wt.cells_snoc]; exact h5
      have HBX := k5.box (heap_alloc_new wr _) (by omega) (by decide);have hc := Lib.cell_of_heap HBX;have d0 := hc 0;have d1 := hc 1;have d2 := hc 2;have d3 := hc 3;have d4 := hc 4;have d5 := hc 5;have d6 := hc 6;have d7 := hc 7;have d8 := hc 8;have d9 := hc 9;have d10 := hc 10;have HREC2 := Lib.hid (HREC.out w5 ((HKA.out _).trans k5) (acc ++ [32]) h5 (by simp));have HKK := Lib.hid ((HKA.out _).trans k5);clear h5 k5 HBX hc e0 e1 e2 e3 e4 e5 e6 e7 e8 e9 e10;go_wp2_with fail;refine HREC2.out.mono ?_;rintro e w3 ⟨rfl,h3,k3⟩;rw [Wt.cells_app] at h3;go_wp2_with fail;go_roundw;case rel =>
       refine ⟨k + 1,_,by first | rfl | go_num | (simp; try omega),HN.out w3 ?_ (HKK.out.trans k3)⟩;rw [if_neg hk0,← List.append_assoc];exact h3
      case measure => simp [intOf]; omega
  · have hkL : k = L := by omega
    have HB := Lib.hid (Wt.writeByte B b m (bs ++ Lib.byteCells acc) 41 wr hR.at_.is (by rw [List.length_append,Lib.byteCells_length]; omega) (by omega));have hsay : Hid (acc ++ [41] = [35,40] ++ (Wt.row m true l ++ [41])) := Lib.hid (by
      rw [← hR.says,List.drop_eq_nil_of_le (by have := HLL.out; omega),Wt.row_nil]
      simp)
    have HKW := Lib.hid (HKE.out _ hR.kept).2;clear hR hal hle;go_wp2_with fail;refine HB.out.mono ?_;rintro e w2 ⟨rfl,h2,k2⟩;go_wp2_with fail;go_end0;refine ⟨rfl,?_,HKW.out.trans k2⟩;have h3 := Wt.cells_snoc bs acc 41;rw [hsay.out] at h3;show Wr.At B b _ m (bs ++ Lib.byteCells ([35,40] ++ (Wt.row m true l ++ [41]))) w2;rw [← h3];exact h2
theorem By.byt_data (s : ByteArray) (j : Nat) (h : j < s.data.size) : Cd.byt s j = (s.data[j].toNat : Int) := by
 unfold Cd.byt;have : s.get! j = s.data[j] := by
  exact getElem!_pos s.data j h
 rw [this]
structure Wt.BytRel (B b : Nat) (m : Bool) (bs : List Value) (raw : ByteArray) (W0 : World) (k : Nat) (acc : List UInt8) (wr : World) : Prop where
 at_ : Wr.At B b (.pointer (some ⟨b,0,none⟩)) m (bs ++ Lib.byteCells acc) wr
 kept : Wt.Kept B b W0 wr
 le : k ≤ raw.size
 says : acc ++ (Wt.raws (k == 0) (raw.data.toList.drop k) ++ [41]) = [35,118,117,56,40] ++ (Wt.raws true raw.data.toList ++ [41])
 len : acc.length ≤ 5 + 10 * k
theorem Wt.BytRel.next {B b : Nat} {m : Bool} {bs : List Value} {raw : ByteArray} {W0 : World} {k : Nat} {acc : List UInt8} {wr w1 : World} (h : Wt.BytRel B b m bs raw W0 k acc wr) (hk : k < raw.size) {x : UInt8} (hx : raw.data.toList[k]? = some x)
 (h1 : Wr.At B b (.pointer (some ⟨b,0,none⟩)) m (bs ++ Lib.byteCells (acc ++ ((if k = 0 then [] else [32]) ++ Tx.dec x.toNat))) w1) (k1 : Wt.Kept B b wr w1) :
 Wt.BytRel B b m bs raw W0 (k + 1) (acc ++ ((if k = 0 then [] else [32]) ++ Tx.dec x.toNat)) w1 := by
 refine ⟨h1,h.kept.trans k1,hk,?_,?_⟩
 · rw [← h.says];have hd : raw.data.toList.drop k = x :: raw.data.toList.drop (k + 1) := by
    obtain ⟨h2,h3⟩ := List.getElem?_eq_some_iff.1 hx;rw [List.drop_eq_getElem_cons h2,h3]
   rw [hd,Wt.raws];by_cases h0 : k = 0 <;> simp [h0]
 · have := h.len;have := Wt.dec_byte x;have : (if k = 0 then ([] : List UInt8) else [32]).length ≤ 1 := by split <;> simp
   simp only [List.length_append];omega
theorem Wt.datum_bytes (m : Bool) (h : Tr.Hd) (l : List Tr) (h7 : h.k = 7) : Wt.Says m (.mk h l) := by
 intro B b bs C w hW hI hE hg hf hlen;obtain ⟨⟨hx,hr⟩,hfl⟩ := Wt.fit_mk.1 hf;rw [Wt.tell_atom (by omega)];have hlen2 : bs.length + 16777216 ≤ 140737488355328 := by
  have := Tr.size_pos (.mk h l);omega
 obtain ⟨hBb,hblt⟩ := hW.blk;rw [Tr.In_mk] at hI;obtain ⟨v3,v4,v6,v7,v9,v10,e,hH,hL⟩ := hI;cases e;obtain ⟨W0,hW0⟩ : ∃ z,w.alloc (.cells (Tr.cells h v3 v4 v6 v7 v9 v10) 30) = z := ⟨_,rfl⟩;have hb0 : Below w.heap.size w W0 := by rw [← hW0]; exact (Below.refl _ _).alloc (Nat.le_refl _) _
 obtain ⟨hIs,hEn,hKe⟩ := Wt.boxed hW hE (Tr.cells h v3 v4 v6 v7 v9 v10);rw [hW0] at hIs hEn hKe;have hz0 := hb0.size;obtain ⟨a9,c9,hv9⟩ := hH.i9.slice;have hI9 := hH.i9;have hO9 := hH.o9;rw [hv9] at hI9 hO9;have hdata : ∀ k,k < h.raw.size → ∃ (bb off : Nat) (x : UInt8),a9 = some ⟨bb,off,none⟩ ∧ h.raw.data.toList[k]? = some x ∧ ∀ wr,Wt.Kept B b W0 wr → wr.cell? ⟨bb,off + k,none⟩ = some (.int .u8 x.toNat) := by
  intro k hk;obtain ⟨bb,off,e,hlt,_,hc⟩ := By.In.at hI9 (by omega);have hS := hO9 (by omega) bb off _ _ (by rw [e]);have hk2 : k < h.raw.data.size := hk;refine ⟨bb,off,h.raw.data[k],e,by simp [hk2],fun wr hkw => ?_⟩;have h1 := hc k hk;rw [By.byt_data h.raw k hk2] at h1;rw [hkw.1.cell (p := ⟨bb,off + k,none⟩) hS,hb0.cell (p := ⟨bb,off + k,none⟩) hlt];exact h1
 have hcap : h.raw.size ≤ c9 ∨ True := .inr trivial;have K5 := Lib.hid (Wt.writeString B b m bs ⟨#[35,118,117,56,40]⟩ W0 hIs (by show _ + 5 ≤ _; omega) (by omega));obtain ⟨dd,_⟩ := hKe W0 (Wt.Kept.refl _ _ _);have q0 := dd 0;have HDATA := Lib.hid hdata;have HKE := Lib.hid hKe;have HEN := Lib.hid hEn;subst hv9;obtain ⟨k,n,s1,t1,b1,s2,t2,b2,x,raw⟩ := h;simp only at h7;subst h7;simp only at hr hx HDATA;unfold Tr.cells at q0 HKE hW0 ⊢;obtain ⟨L,hL⟩ : ∃ z,z = raw.size := ⟨_,rfl⟩;rw [← hL] at q0 HKE hW0 HDATA hr ⊢;have HLL := Lib.hid hL;clear dd hdata hKe hIs hEn hH hL hW hE hg hf hlen hfl hb0 hI9 hO9 hcap;go_enter Tryz.func30,Tryz.ntmps30;go_wp2_with fail;refine K5.out.mono ?_;rintro e w1 ⟨rfl,h1,k1⟩;obtain ⟨dd1,kw1⟩ := HKE.out _ k1;have q9 := dd1 9;have H0 : Wt.BytRel B b m bs raw W0 0 [35,118,117,56,40] w1 := ⟨h1,k1,Nat.zero_le _,rfl,by simp⟩;clear h1 dd1 q0;go_wp2_with fail;go_loopw [78] (fun i wr => ∃ (k : Nat) (acc : List UInt8),i = .int .i64 k ∧ Wt.BytRel B b m bs raw W0 k acc wr) (fun i _ => L - (intOf i).toNat);case atStart => exact ⟨0,_,rfl,H0⟩
 case round =>
  obtain ⟨k,acc,rfl,hR⟩ := hrel;clear H0 q9;have hle := hR.le;rw [← HLL.out] at hle;have hal := hR.len;have hbW := Wr.At.is hR.at_ |>.blk;by_cases hk : k < L
  · obtain ⟨bb,off,x,rfl,hxk,hcell⟩ := HDATA.out k hk;have c := hcell wr hR.kept;have hxb := x.toNat_lt;have hwx : IntKind.i64.wrap (x.toNat : Int) = x.toNat := by rw [IntKind.wrap_i64]; omega
    have HI := Lib.hid (fun W (hkW : Wt.Kept B b W0 W) => Wt.itoa_any x W (HEN.out.kept hkW).tab);have HS : Hid (∀ (W : World) (ac : List UInt8),Wr.At B b (.pointer (some ⟨b,0,none⟩)) m (bs ++ Lib.byteCells ac) W → ac.length ≤ 10485800 → ∀ W2,Below W.heap.size W W2 → Calls Tryz.prog 56 #[.pointer (some ⟨b,0,none⟩),.string ⟨(Tx.dec x.toNat).toArray⟩] W2 fun e w' => e = .returned (.tuple #[.int .i64 (⟨(Tx.dec x.toNat).toArray⟩ : ByteArray).size,.nilIface]) ∧ (Wr.At B b (.pointer (some ⟨b,0,none⟩)) m (bs ++ Lib.byteCells (ac ++ Tx.dec x.toNat)) w' ∧ Wt.Kept B b W w')) := Lib.hid (fun W ac hAt hac W2 hb2 => by
      have hd := Wt.dec_byte x;have hz := hb2.size;have hbl := (Wr.At.is hAt).blk;refine (Wt.writeString B b m _ _ W2 (hAt.keptBelow hb2).is (by rw [List.length_append,Lib.byteCells_length]; show _ + (List.toArray _).size ≤ _; simp; omega) (by omega)).mono ?_;rintro e w2 ⟨rfl,h2,k2⟩;rw [Wt.strCells_str,Wt.cells_app] at h2
      exact ⟨rfl,h2,(Wt.Kept.below hb2 (by omega)).trans k2⟩)
    have HN := Lib.hid (fun w2 => hR.next (w1 := w2) (by have := HLL.out; omega) hxk);have HAT := Lib.hid hR.at_;have HKW := Lib.hid hR.kept;by_cases hk0 : k = 0
    · subst hk0;have HS2 := Lib.hid (HS.out wr acc HAT.out (by omega));clear hR hcell hxk hle hal;rw [Nat.add_zero] at c;go_wp2_with fail;go_region_held3 (fun w' => wr.heap.size ≤ w'.heap.size)
       (first | exact Nat.le_refl _ | exact hkeep)
       (first
         | (go_at_call 62
            refine (HI.out wr.drew HKW.out.drew).mono ?_
            rintro z1 w2 ⟨rfl,hb2⟩
            have hbe : Below wr.heap.size wr w2 := (Below.drew (Below.refl _ _)).trans hb2
            have hkeep : wr.heap.size ≤ w2.heap.size := hb2.size)
         | (go_at_call 56
            refine (HS2.out w2 hbe).mono ?_
            rintro z2 w3 ⟨rfl,h3,k3⟩
            have hkeep : wr.heap.size ≤ w3.heap.size := k3.size))
      go_wp2_with fail;go_roundw;case rel => exact ⟨1,_,by first | rfl | go_num | (simp; try omega),HN.out w3 h3 k3⟩
      case measure => simp [intOf]; omega
    · have HB := Lib.hid (Wt.writeByte B b m (bs ++ Lib.byteCells acc) 32 wr HAT.out.is (by rw [List.length_append,Lib.byteCells_length]; omega) (by omega));have hk0I : (0 : Int) < (k : Int) := by omega
      clear hR hcell hxk hle;go_wp2_with fail;refine HB.out.mono ?_;rintro e w5 ⟨rfl,h5,k5⟩;have h5 : Wr.At B b (.pointer (some ⟨b,0,none⟩)) m (bs ++ Lib.byteCells (acc ++ [32])) w5 := by rw [← Wt.cells_snoc]; exact h5
      have HS2 := Lib.hid (HS.out w5 (acc ++ [32]) h5 (by simp; omega));have HK5 := Lib.hid (HKW.out.trans k5);have HKK := Lib.hid k5;clear h5 k5 hal;go_wp2_with fail;go_region_held3 (fun w' => w5.heap.size ≤ w'.heap.size)
       (first | exact Nat.le_refl _ | exact hkeep)
       (first
         | (go_at_call 62
            refine (HI.out w5.drew HK5.out.drew).mono ?_
            rintro z1 w2 ⟨rfl,hb2⟩
            have hbe : Below w5.heap.size w5 w2 := (Below.drew (Below.refl _ _)).trans hb2
            have hkeep : w5.heap.size ≤ w2.heap.size := hb2.size)
         | (go_at_call 56
            refine (HS2.out w2 hbe).mono ?_
            rintro z2 w3 ⟨rfl,h3,k3⟩
            have hkeep : w5.heap.size ≤ w3.heap.size := k3.size))
      go_wp2_with fail;go_roundw;case rel =>
       refine ⟨k + 1,_,by first | rfl | go_num | (simp; try omega),HN.out w3 ?_ (HKK.out.trans k3)⟩;rw [if_neg hk0,← List.append_assoc];exact h3
      case measure => simp [intOf]; omega
  · have hkL : k = L := by omega
    have HB := Lib.hid (Wt.writeByte B b m (bs ++ Lib.byteCells acc) 41 wr hR.at_.is (by rw [List.length_append,Lib.byteCells_length]; omega) (by omega));have hsay : Hid (acc ++ [41] = [35,118,117,56,40] ++ (Wt.raws true raw.data.toList ++ [41])) := Lib.hid (by
      rw [← hR.says,List.drop_eq_nil_of_le (by rw [Array.length_toList]; have := HLL.out; show raw.size ≤ k; omega)]
      simp [Wt.raws])
    have HKW := Lib.hid (HKE.out _ hR.kept).2;clear hR hal hle;go_wp2_with fail;refine HB.out.mono ?_;rintro e w2 ⟨rfl,h2,k2⟩;go_wp2_with fail;go_end0;refine ⟨rfl,?_,HKW.out.trans k2⟩;have h3 := Wt.cells_snoc bs acc 41;rw [hsay.out] at h3;show Wr.At B b _ m (bs ++ Lib.byteCells ([35,118,117,56,40] ++ (Wt.raws true raw.data.toList ++ [41]))) w2;rw [← h3];exact h2
set_option maxHeartbeats 8000000 in
theorem Wt.pair_quote (m : Bool) (h : Tr.Hd) (a r : Tr) (h8 : h.k = 8) (hq : (Wt.isQ a && Wt.isOne r) = true) (IH : ∀ u,Tr.size u < Tr.size (.mk h [a,r]) → Wt.Says m u) : Wt.PSays m (.mk h [a,r]) := by
 intro B b bs C w hW hI hE hg hf hlen;obtain ⟨a',r',bL,oL,cap,v3,v4,v6,v7,v9,Ca,Cr,e1,eC,hbB,hcap,hIa,hMa,hIr,hMr⟩ := Wt.two hI hg h8;simp only [List.cons.injEq,and_true] at e1;obtain ⟨rfl,rfl⟩ := e1;obtain ⟨hBb,hblt⟩ := hW.blk;have g1 := Tr.goodL_cons.1 (Tr.good_mk.1 hg).2;have g2 := (Tr.goodL_cons.1 g1.2).1;have f1 := Wt.fitL_cons.1 (Wt.fit_mk.1 hf).2;have f2 := (Wt.fitL_cons.1 f1.2).1;have hsz : Tr.size (.mk h [a,r]) = 1 + (Tr.size a + Tr.size r) := by rw [Tr.size_mk,Tr.sizeL_cons,Tr.sizeL_cons,Tr.sizeL_nil]; omega
 obtain ⟨ha,la,aa3,aa4,aa6,aa7,aa9,aa10,na3,na4,na6,na7,na9,na10,ca3,ca4,ca6,ca7,ca9,ca10,eCa,eat,_,_⟩ := Tr.In.form2 hIa;subst eCa;obtain ⟨hr,lr,ar3,ar4,ar6,ar7,ar9,ar10,nr3,nr4,nr6,nr7,nr9,nr10,cr3,cr4,cr6,cr7,cr9,cr10,eCr,ert,_,_⟩ := Tr.In.form2 hIr;subst eCr;subst eat ert;subst eC;obtain ⟨hqa,hqr⟩ := Bool.and_eq_true_iff.1 hq;obtain ⟨hr',b',hc,lc,e5,hrk,hck⟩ := Wt.isOne_form hqr;simp only [Tr.mk.injEq] at e5;obtain ⟨rfl,rfl⟩ := e5;rw [Wt.tell_quo h8 hq];unfold Wt.isQ at hqa;simp only [Bool.and_eq_true,decide_eq_true_eq] at hqa;rw [hsz] at hlen;obtain ⟨P,hP⟩ : ∃ z,w.heap.size = z := ⟨_,rfl⟩;obtain ⟨hIs,hEn,hKe⟩ := Wt.boxed hW hE (Tr.cells h v3 v4 v6 v7 v9 (.slice (some ⟨bL,oL,none⟩) 2 cap));obtain ⟨W0,hW0⟩ : ∃ z,w.alloc (.cells (Tr.cells h v3 v4 v6 v7 v9 (.slice (some ⟨bL,oL,none⟩) 2 cap)) 30) = z := ⟨_,rfl⟩;have hz0 : W0.heap.size = w.heap.size + 1 := by rw [← hW0]; simp
 rw [hW0] at hIs hEn hKe;obtain ⟨hIs1,hEn1,hKe1⟩ := Wt.boxed hIs hEn (Tr.cells hr (.slice ar3 nr3 cr3) (.slice ar4 nr4 cr4) (.slice ar6 nr6 cr6) (.slice ar7 nr7 cr7) (.slice ar9 nr9 cr9) (.slice ar10 nr10 cr10));obtain ⟨W1,hW1⟩ : ∃ z,W0.alloc (.cells (Tr.cells hr (.slice ar3 nr3 cr3) (.slice ar4 nr4 cr4) (.slice ar6 nr6 cr6) (.slice ar7 nr7 cr7) (.slice ar9 nr9 cr9) (.slice ar10 nr10 cr10)) 30) = z := ⟨_,rfl⟩;have hq1 : W1.heap[W0.heap.size]? = some (.cells (Tr.cells hr (.slice ar3 nr3 cr3) (.slice ar4 nr4 cr4) (.slice ar6 nr6 cr6) (.slice ar7 nr7 cr7) (.slice ar9 nr9 cr9) (.slice ar10 nr10 cr10)) 30 (0,0)) := by rw [← hW1]; exact heap_alloc_new W0 _
 rw [hW1] at hIs1 hEn1 hKe1;have k00 := (hKe W0 (Wt.Kept.refl _ _ _)).2;have k11 := (hKe1 W1 (Wt.Kept.refl _ _ _)).2;have hz1 := k11.size;have KALL : ∀ w',Wt.Kept B b W1 w' → (∀ j,w'.cell? ⟨w.heap.size,j,none⟩ = (Tr.cells h v3 v4 v6 v7 v9 (.slice (some ⟨bL,oL,none⟩) 2 cap))[j]?) ∧ w'.heap[W0.heap.size]? = some (.cells (Tr.cells hr (.slice ar3 nr3 cr3) (.slice ar4 nr4 cr4) (.slice ar6 nr6 cr6) (.slice ar7 nr7 cr7) (.slice ar9 nr9 cr9) (.slice ar10 nr10 cr10)) 30 (0,0)) ∧ Wt.Kept B b w w' := fun w' hk =>
  ⟨(hKe w' (k11.trans hk)).1,hk.box hq1 (by omega) (by decide),(hKe w' (k11.trans hk)).2⟩
 have KA : ∀ w',Wt.Kept B b W1 w' → Tr.Mem w' bL oL (Tr.cells ha (.slice aa3 na3 ca3) (.slice aa4 na4 ca4) (.slice aa6 na6 ca6) (.slice aa7 na7 ca7) (.slice aa9 na9 ca9) (.slice aa10 na10 ca10)) := fun w' hk => Wt.mem_kept hMa hbB (KALL w' hk).2.2;obtain ⟨r0,r1,r2,r3,r4,r5,r6,r7,r8,r9,r10⟩ := Tr.Mem.cells (Wt.mem_kept hMr hbB k00);have KB := Lib.hid (Wt.writeByte B b m bs 39 W1 hIs1 (by omega) (by omega));obtain ⟨x,y,bR,oR,capR,_,_,_,_,_,Cx,Cy,e1,e2,hbR,hcR,hIx,hMx,hIy,hMy⟩ := Wt.two hIr g2 hrk;simp only [List.cons.injEq,and_true] at e1;obtain ⟨rfl,rfl⟩ := e1;have e3 := congrArg (fun (A : Array Value) => A[10]?) e2;simp only [Tr.cells] at e3;simp at e3;obtain ⟨rfl,rfl,rfl⟩ := e3;clear e2;obtain ⟨y3,y4,y6,y7,y9,y10,eCy⟩ := Wt.own_hd hIy;subst eCy;obtain ⟨c0,_⟩ := Tr.Mem.cells (Wt.mem_kept hMy hbR (k00.trans k11));have gx := (Tr.goodL_cons.1 (Tr.good_mk.1 g2).2).1;have fx := (Wt.fitL_cons.1 (Wt.fit_mk.1 f2).2).1;have hsx : Tr.size b' < Tr.size (.mk hr [b',.mk hc lc]) := Tr.size_lt (t := .mk hr [b',.mk hc lc]) (k := 0) rfl;have KREC : ∀ w2,Wt.Kept B b W1 w2 → Wr.At B b (.pointer (some ⟨b,0,none⟩)) m (bs ++ Lib.byteCells [39]) w2 → _ := fun w2 hk hAt => IH b' (by omega) B b (bs ++ Lib.byteCells [39]) _ w2 hAt.is (Wt.in_kept hIx (KALL w2 hk).2.2) (hE.kept (KALL w2 hk).2.2) gx fx (by rw [List.length_append,Lib.byteCells_length]; simp only [List.length_cons,List.length_nil]; omega)
 have KX : ∀ w',Wt.Kept B b W1 w' → Tr.Mem w' bR oR Cx := fun w' hk => Wt.mem_kept hMx hbR (KALL w' hk).2.2;obtain ⟨hx2,lx,ax3,ax4,ax6,ax7,ax9,ax10,nx3,nx4,nx6,nx7,nx9,nx10,cx3,cx4,cx6,cx7,cx9,cx10,eCx,ext,_,_⟩ := Tr.In.form2 hIx;subst eCx;obtain ⟨pc,hpc,_⟩ := KALL W1 (Wt.Kept.refl _ _ _);have p10 := pc 10;have p10a := (hKe W0 (Wt.Kept.refl _ _ _)).1 10;have hbc := Lib.cell_of_heap hpc;have d0 := hbc 0;have d10 := hbc 10;have ma := KA W1 (Wt.Kept.refl _ _ _);obtain ⟨e0,e1,e2,e3,e4,e5,e6,e7,e8,e9,e10⟩ := Tr.Mem.cells ma;obtain ⟨q,hq0⟩ : ∃ z,W0.heap.size = z := ⟨_,rfl⟩;rw [hq0] at KALL d0 d10;have HALL := Lib.hid KALL;have HX := Lib.hid KX;have HREC := Lib.hid KREC;have h6 : (ha.k == 6) = true := by rw [hqa.1]; rfl
 have hx : (ha.x.toList == [113,117,111,116,101]) = true := by rw [ByteArray.toList_eq,hqa.2]; rfl
 have hk8 : (hr.k == 8) = true := by rw [hrk]; rfl
 have hkc : (hc.k == 1) = true := by rw [hck]; rfl
 have hcapI : (2 : Int) ≤ cap := by omega
 have hcRI : (2 : Int) ≤ cr10 := by omega
 clear h8 hKe hKe1 hIs hIs1 hEn hEn1 hq1 k00 k11 KALL KA KREC KX hIa hIr hMa hMr hI hq hg hf g1 f1 g2 f2 IH hsz hlen hW hE hz0 hpc hbc ma pc hP hqa hqr hrk hck hIx hMx hIy hMy hsx gx fx ext;unfold Tr.cells at p10 p10a hW0 hW1 d0 d10 HX HALL HREC ⊢;go_enter Tryz.func63,Tryz.ntmps63;go_wp2_with fail;refine KB.out.mono ?_;rintro e w2 ⟨rfl,h2,k2⟩;clear e0 e1 e2 e3 e4 e5 e6 e7 e8 e9 e10 d0 d10 p10 p10a r0 r1 r2 r3 r4 r5 r6 r7 r8 r9 r10 c0;obtain ⟨_,hbx,_⟩ := HALL.out w2 k2;have d10 := Lib.cell_of_heap hbx 10;obtain ⟨e0,e1,e2,e3,e4,e5,e6,e7,e8,e9,e10⟩ := Tr.Mem.cells (HX.out w2 k2);have HR2 := Lib.hid (HREC.out w2 k2 h2);have HK2 := Lib.hid (HALL.out w2 k2).2.2;clear h2 k2 hbx;go_wp2_with fail;refine HR2.out.mono ?_;rintro e w3 ⟨rfl,h3,k3⟩;rw [Wt.cells_app] at h3;go_wp2_with fail;refine bodyPost_ret (results_none rfl _ _ _) rfl ?_;exact ⟨rfl,h3,HK2.out.trans k3⟩
theorem Wt.pair_step (m : Bool) (h : Tr.Hd) (l : List Tr) (h8 : h.k = 8) (IH : ∀ u,Tr.size u < Tr.size (.mk h l) → Wt.Says m u) : Wt.PSays m (.mk h l) := by
 intro B b bs C w hW hI hE hg hf hlen;have hl := Tr.Hd.shape_pair (Tr.good_mk.1 hg).1 h8;match l,hl,IH,hI,hg,hf,hlen with
 | [a,r],_,IH,hI,hg,hf,hlen =>
   cases hq : Wt.isQ a && Wt.isOne r
   · exact Wt.pair_list m h a r h8 hq IH B b bs C w hW hI hE hg hf hlen
   · exact Wt.pair_quote m h a r h8 hq IH B b bs C w hW hI hE hg hf hlen
theorem Wt.datum_pair (m : Bool) (h : Tr.Hd) (l : List Tr) (h8 : h.k = 8) (IH : ∀ u,Tr.size u < Tr.size (.mk h l) → Wt.Says m u) : Wt.Says m (.mk h l) := by
 intro B b bs C w hW hI hE hg hf hlen;have hI2 := hI;rw [Tr.In_mk] at hI2;obtain ⟨v3,v4,v6,v7,v9,v10,e,hH,hL⟩ := hI2;cases e;obtain ⟨hBb,hblt⟩ := hW.blk;obtain ⟨W0,hW0⟩ : ∃ z,w.alloc (.cells (Tr.cells h v3 v4 v6 v7 v9 v10) 30) = z := ⟨_,rfl⟩;obtain ⟨hIs,hEn,hKe⟩ := Wt.boxed hW hE (Tr.cells h v3 v4 v6 v7 v9 v10);rw [hW0] at hIs hEn hKe;obtain ⟨dd,k0⟩ := hKe W0 (Wt.Kept.refl _ _ _);have KP := Lib.hid (Wt.pair_step m h l h8 IH B b bs _ W0 hIs (Wt.in_kept hI k0) hEn hg hf hlen);have HKE := Lib.hid (fun w' hk => (hKe w' hk).2);obtain ⟨k,n,s1,t1,b1,s2,t2,b2,x,raw⟩ := h;simp only at h8;subst h8;unfold Tr.cells at dd hW0 KP ⊢;have q0 := dd 0;have q1 := dd 1;have q2 := dd 2;have q3 := dd 3;have q4 := dd 4;have q5 := dd 5;have q6 := dd 6;have q7 := dd 7;have q8 := dd 8;have q9 := dd 9;have q10 := dd 10;clear dd hKe hIs hEn hW hI hE hg hf hlen hH hL IH;go_enter Tryz.func30,Tryz.ntmps30;go_wp2_with fail;refine KP.out.mono ?_;rintro e w2 ⟨rfl,h2,k2⟩;go_wp2_with fail;go_end0;exact ⟨rfl,h2,HKE.out _ k2⟩
theorem Wt.says_step (m : Bool) (t : Tr) (IH : ∀ u,Tr.size u < Tr.size t → Wt.Says m u) : Wt.Says m t := by
 obtain ⟨h,l⟩ := t;by_cases h7 : h.k = 7
 · exact Wt.datum_bytes m h l h7
 by_cases h8 : h.k = 8
 · exact Wt.datum_pair m h l h8 IH
 by_cases h9 : h.k = 9
 · exact Wt.datum_vec m h l h9 IH
 exact Wt.datum_leaf m h l h7 h8 h9
theorem Wt.says (m : Bool) (t : Tr) : Wt.Says m t := Wt.says_step m t (fun u _ => Wt.says m u)
termination_by Tr.size t
decreasing_by assumption
structure Wt.Tabs (w : World) : Prop where
 utf : Tr.Tabs w
 bits : Wt.Bits w
 tab : Lib.TabIs Tryz.prog w "internal/strconv.uint64pow10" .u64 Lib.pow10Tab
theorem Wt.Tabs.lt {w : World} (h : Wt.Tabs w) : 5 < w.heap.size ∧ 3 < w.heap.size := by
 refine ⟨World.block_lt_of_cell? w _ h.bits,?_⟩;have h1 := h.tab;unfold Lib.TabIs World.var? at h1;rw [Wt.named] at h1;simp only [Option.bind_some] at h1;cases e : w.heap[3]? with
 | none => rw [e] at h1; cases h1
 | some o => exact (Array.getElem?_eq_some_iff.1 e).1
theorem Wt.Tabs.below {w w' : World} (h : Wt.Tabs w) (hb : Below w.heap.size w w') : Wt.Tabs w' :=
 ⟨h.utf.below hb,h.bits.below hb,Wt.tabIs_block h.tab (hb.block _ h.lt.2)⟩
def Wt.answer (m : Bool) (t : Tr) : Value := if Tr.sound t = true then .tuple #[.string (Tx.str (Wt.tell m t)),.int .i64 0] else .tuple #[.string ⟨#[]⟩,.int .i64 2]
theorem Wt.tell_any (m : Bool) (t : Tr) (S : Nat → Prop) (v : Value) (w : World) (hI : Tr.In w S t v) (hT : Wt.Tabs w) (hf : Wt.fit t) :
 Calls Tryz.prog 17 #[v,.bool m] w fun e w' => e = .returned (Wt.answer m t) ∧ Below w.heap.size w w' := by
 obtain ⟨C,rfl⟩ := hI.agg
 obtain ⟨h,l⟩ := t
 have hI2 := hI
 rw [Tr.In_mk] at hI2
 obtain ⟨v3,v4,v6,v7,v9,v10,e,hH,hL⟩ := hI2
 cases e
 have HB0 : Hid (∀ o,Below w.heap.size w (w.alloc o)) := Lib.hid (fun o => (Below.refl _ _).alloc (Nat.le_refl _) o)
 have hq0 : (w.alloc (.cells (Tr.cells h v3 v4 v6 v7 v9 v10) 30)).heap[w.heap.size]? = some (.cells (Tr.cells h v3 v4 v6 v7 v9 v10) 30 (0,0)) := heap_alloc_new w _
 obtain ⟨W0,hW0⟩ : ∃ z,w.alloc (.cells (Tr.cells h v3 v4 v6 v7 v9 v10) 30) = z := ⟨_,rfl⟩
 have hz0 : W0.heap.size = w.heap.size + 1 := by rw [← hW0]; simp
 have hb0 : Below w.heap.size w W0 := by rw [← hW0]; exact HB0.out _
 rw [hW0] at hq0
 have KS := Lib.hid (Tr.Sound_any (.mk h l) S _ W0 (hI.below hb0 (Nat.le_refl _)) (hT.utf.below hb0))
 have hdd := Lib.cell_of_heap hq0
 obtain ⟨sd,hsd⟩ : ∃ z,Tr.sound (.mk h l) = z := ⟨_,rfl⟩
 have HANS : Hid (Wt.answer m (.mk h l) = if sd = true then .tuple #[.string (Tx.str (Wt.tell m (.mk h l))),.int .i64 0] else .tuple #[.string ⟨#[]⟩,.int .i64 2]) := Lib.hid (by unfold Wt.answer; rw [hsd])
 have HTOP := Lib.hid (Tr.In.top _ _ hI)
 have HT := Lib.hid hT
 have HF := Lib.hid hf
 have HSD := Lib.hid hsd
 have HBB := Lib.hid hb0
 have HQ := Lib.hid hq0
 rw [hsd] at KS
 unfold Tr.cells at hdd hW0 KS ⊢
 have q0 := hdd 0
 have q1 := hdd 1
 have q2 := hdd 2
 have q3 := hdd 3
 have q4 := hdd 4
 have q5 := hdd 5
 have q6 := hdd 6
 have q7 := hdd 7
 have q8 := hdd 8
 have q9 := hdd 9
 have q10 := hdd 10
 clear hdd hI hT hf hH hL hsd hb0 hq0
 go_enter Tryz.func17,Tryz.ntmps17
 go_wp2_with fail
 refine KS.out.mono ?_
 rintro e w1 ⟨rfl,hb1⟩
 have HB1 := Lib.hid hb1
 clear q0 q1 q2 q3 q4 q5 q6 q7 q8 q9 q10 hb1
 cases sd
 · go_wp2_with fail;go_ret2;refine ⟨?_,HBB.out.trans (HB1.out.mono HBB.out.size)⟩;rw [HANS.out];rfl
 · have hz1 := HB1.out.size;have hbw : Below w.heap.size w w1 := HBB.out.trans (HB1.out.mono HBB.out.size);obtain ⟨W2,hW2⟩ : ∃ z,w1.alloc (.cells #[.pointer none,.slice none 0 0,.bool m] 65) = z := ⟨_,rfl⟩;have hnew : W2.heap[w1.heap.size]? = some (.cells #[.pointer none,.slice none 0 0,.bool m] 65 (0,0)) := by rw [← hW2]; exact heap_alloc_new w1 _
   have hb2 : Below w1.heap.size w1 W2 := by rw [← hW2]; exact (Below.refl _ _).alloc (Nat.le_refl _) _
   have hz2 : w1.heap.size < W2.heap.size := (Array.getElem?_eq_some_iff.1 hnew).1;have hq2 : W2.heap[w.heap.size]? = some (.cells (Tr.cells h v3 v4 v6 v7 v9 v10) 30 (0,0)) := by
    rw [hb2.block _ (by omega),HB1.out.block _ (by omega)];exact HQ.out
   have hbW2 : Below w.heap.size w W2 := hbw.trans (hb2.mono hbw.size);have hIs : Wr.Is w1.heap.size w1.heap.size m [] W2 := .inl ⟨Nat.le_refl _,.slice none 0 0,hnew,World.ownsRowF_nil _ _ _ _,by simp [Value.ownBlock]⟩;have hTT := HT.out.below hbW2;have hEn : Wt.Env w1.heap.size W2 := ⟨hTT.bits,hTT.tab,by have := HT.out.lt; have := hbw.size; omega⟩;have hIn : Tr.In W2 (fun q => q < w1.heap.size) (.mk h l) (.agg (Tr.cells h v3 v4 v6 v7 v9 v10)) :=
    Tr.In.below (Tr.In.mono (fun q hq => by have := hbw.size; omega) _ _ HTOP.out) hbW2 (Nat.le_refl _)
   have hsz := Tr.sound_size HSD.out;have KD := Lib.hid (Wt.says m (.mk h l) w1.heap.size w1.heap.size [] _ W2 hIs hIn hEn (Tr.sound_good HSD.out) HF.out (by simp only [List.length_nil]; omega));have hdd := Lib.cell_of_heap hq2;have HBW2 := Lib.hid hbW2;unfold Tr.cells at hdd KD;have q0 := hdd 0;have q1 := hdd 1;have q2 := hdd 2;have q3 := hdd 3;have q4 := hdd 4;have q5 := hdd 5;have q6 := hdd 6;have q7 := hdd 7;have q8 := hdd 8;have q9 := hdd 9;have q10 := hdd 10;have hwz := hbw.size;clear hdd hq2 hnew hb2 hbW2 hIs hTT hEn hIn hbw;go_wp2_with fail;refine KD.out.mono ?_;rintro e w3 ⟨rfl,h3,k3⟩;rw [List.nil_append] at h3;have KST := Lib.hid (Wt.string w1.heap.size w1.heap.size m (Wt.tell m (.mk h l)) _ w3 h3 (by have := k3.size; omega));have HK3 := Lib.hid (HBW2.out.trans (k3.1.mono hwz));clear h3 k3 q0 q1 q2 q3 q4 q5 q6 q7 q8 q9 q10;go_wp2_with fail;refine KST.out.mono ?_;rintro e w4 ⟨rfl,hb4⟩;go_wp2_with fail;go_ret2;refine ⟨?_,HK3.out.trans (hb4.mono hwz)⟩;rw [HANS.out];rfl
theorem Wt.answer_form (m : Bool) (t : Tr) : ∃ (x : ByteArray) (e : Int),Wt.answer m t = .tuple #[.string x,.int .i64 e] := by
 unfold Wt.answer;split
 · exact ⟨_,_,rfl⟩
 · exact ⟨_,_,rfl⟩
theorem Wt.Write_any (t : Tr) (S : Nat → Prop) (v : Value) (w : World) (hI : Tr.In w S t v) (hT : Wt.Tabs w) (hf : Wt.fit t) :
 Calls Tryz.prog 11 #[v] w fun e w' => e = .returned (Wt.answer true t) ∧ Below w.heap.size w w' := by
 obtain ⟨C,rfl⟩ := hI.agg
 obtain ⟨h,l⟩ := t
 have hI2 := hI
 rw [Tr.In_mk] at hI2
 obtain ⟨v3,v4,v6,v7,v9,v10,e,hH,hL⟩ := hI2
 cases e
 obtain ⟨x,en,hans⟩ := Wt.answer_form true (.mk h l)
 obtain ⟨W0,hW0⟩ : ∃ z,w.alloc (.cells (Tr.cells h v3 v4 v6 v7 v9 v10) 30) = z := ⟨_,rfl⟩
 have hb0 : Below w.heap.size w W0 := by rw [← hW0]; exact (Below.refl _ _).alloc (Nat.le_refl _) _
 have hq0 : W0.heap[w.heap.size]? = some (.cells (Tr.cells h v3 v4 v6 v7 v9 v10) 30 (0,0)) := by rw [← hW0]; exact heap_alloc_new w _
 have KT := Lib.hid (Wt.tell_any true (.mk h l) S _ W0 (hI.below hb0 (Nat.le_refl _)) (hT.below hb0) hf)
 rw [hans] at KT
 have hdd := Lib.cell_of_heap hq0
 have HB := Lib.hid hb0
 have HA := Lib.hid hans
 unfold Tr.cells at hdd hW0 KT ⊢
 have q0 := hdd 0
 have q1 := hdd 1
 have q2 := hdd 2
 have q3 := hdd 3
 have q4 := hdd 4
 have q5 := hdd 5
 have q6 := hdd 6
 have q7 := hdd 7
 have q8 := hdd 8
 have q9 := hdd 9
 have q10 := hdd 10
 clear hdd hq0 hb0 hans hI hT hf hH hL
 go_enter Tryz.func11,Tryz.ntmps11
 go_wp2_with fail
 refine KT.out.mono ?_
 rintro e w1 ⟨rfl,hb1⟩
 go_wp2_with fail
 go_ret2
 exact ⟨by rw [HA.out]; rfl,HB.out.trans (hb1.mono HB.out.size)⟩
theorem Wt.tab_of {W : World} {name : String} {k : IntKind} {zs : List Int} {g : Nat} {t e : TypeId} {n : Nat} {d : DataW Unit}
 (hg : Tryz.prog.globalNamed name = some g) (hty : (Tryz.prog.globals[g]?).map (·.type) = some t) (ht : Tryz.prog.underlying t = some (.array n e)) (he : Tryz.prog.underlying e = some (.int k)) (hce : Tryz.prog.cellsOf e = 1) (hct : Tryz.prog.cellsOf t = n)
 (hd : d = Lib.tabData k zs) (h : Lib.VarReads Tryz.prog W name d) : Lib.TabIs Tryz.prog W name k zs := by
 obtain ⟨g',t',cs,fuel,p,hg',ht',hvar,hr⟩ := h
 obtain rfl := Option.some.inj (hg.symm.trans hg')
 obtain rfl := Option.some.inj (hty.symm.trans ht')
 subst hd
 unfold Lib.TabIs
 rw [hvar,← Lib.cells_of_tab ht he hce hct hr]
def Wt.dB64 : List Int := [0,1,56,2,57,49,28,3,61,58,42,50,38,29,17,4,62,47,59,36,45,43,51,22,53,39,33,30,24,18,12,5,63,55,48,27,60,41,37,16,46,35,44,21,52,32,23,11,54,26,40,15,34,20,31,10,25,14,19,9,13,8,7,6]
theorem Wt.bits_of {W : World} (h : Lib.VarReads Tryz.prog W "math/bits.deBruijn64tab" Rows.laid_math_bits_deBruijn64tab) : Wt.Bits W :=
 (Wt.tab_of (zs := Wt.dB64) (k := .u8) (g := 5) (t := 176) (e := 5) (n := 64) (by kernel_rfl) (by kernel_rfl) (by kernel_rfl) Tryz.underlying5 (by kernel_rfl) (by kernel_rfl) (by kernel_rfl) h).cell (by kernel_rfl) 15 (by decide)
theorem Wt.pow_of {W : World} (h : Lib.VarReads Tryz.prog W "internal/strconv.uint64pow10" Rows.laid_internal_strconv_uint64pow10) : Lib.TabIs Tryz.prog W "internal/strconv.uint64pow10" .u64 Lib.pow10Tab :=
 Wt.tab_of (g := 3) (t := 169) (e := 113) (n := 20) (by kernel_rfl) (by kernel_rfl) (by kernel_rfl) (by kernel_rfl) (by kernel_rfl) (by kernel_rfl) (by kernel_rfl) h
def Wt.lf (k n : Int) (s : ByteArray) : Tr := .mk ⟨k,n,false,[],[],false,[],[],s,⟨#[]⟩⟩ []
def Wt.lfV (k n : Int) (s : ByteArray) : Value := .agg #[.int .i64 k,.int .i64 n,.bool false,.slice none 0 0,.slice none 0 0,.bool false,.slice none 0 0,.slice none 0 0,.string s,.slice none 0 0,.slice none 0 0]
theorem Wt.lf_in (k n : Int) (s : ByteArray) (w : World) (hk : -9223372036854775808 ≤ k ∧ k ≤ 9223372036854775807) (hn : -9223372036854775808 ≤ n ∧ n ≤ 9223372036854775807) (hs : s.size ≤ maxLen) : Tr.In w (fun _ => True) (Wt.lf k n s) (Wt.lfV k n s) := by
 unfold Wt.lf;rw [Tr.In_mk];exact ⟨.slice none 0 0,.slice none 0 0,.slice none 0 0,.slice none 0 0,.slice none 0 0,.slice none 0 0,rfl,⟨⟨hk.1,hk.2,hn.1,hn.2,fun x h => by simp at h,fun x h => by simp at h,fun x h => by simp at h,fun x h => by simp at h,Nat.zero_le _,Nat.zero_le _,Nat.zero_le _,Nat.zero_le _,hs,Nat.zero_le _⟩,.inl ⟨rfl,rfl⟩,.inl ⟨rfl,rfl⟩,.inl ⟨rfl,rfl⟩,.inl ⟨rfl,rfl⟩,.inl ⟨rfl,rfl⟩,fun h => absurd h (Nat.lt_irrefl 0),fun h => absurd h (Nat.lt_irrefl 0),fun h => absurd h (Nat.lt_irrefl 0),fun h => absurd h (Nat.lt_irrefl 0),fun h => absurd h (Nat.lt_irrefl 0)⟩,.inl ⟨rfl,rfl⟩⟩
theorem Wt.sym_ab : Wt.sym [97,32,98] = [97,92,120,50,48,59,98] := by
 have h1 : Wt.hex 32 = [50,48] := by
  rw [Wt.hex_big (by decide),Wt.hex_small (by decide)];rfl
 have e1 : Wt.symU true 97 = [97] := by decide +kernel
 have e3 : Wt.symU false 98 = [98] := by decide +kernel
 have e2 : Wt.symU false 32 = Wt.esc 32 := by
  unfold Wt.symU;rw [if_neg (by decide +kernel)]
 have e4 : Wt.esc 32 = [92,120,50,48,59] := by
  unfold Wt.esc;rw [show (32 : Int).toNat = 32 from rfl,h1];rfl
 have hr : Ru.runes [97,32,98] = [97,32,98] := by
  rw [Wt.runes_asc 97 _ (by decide),Wt.runes_asc 32 _ (by decide),Wt.runes_asc 98 _ (by decide),Ru.runes_nil];rfl
 unfold Wt.sym;rw [if_neg (by decide),if_neg (by decide)];show Wt.syms true (Ru.runes [97,32,98]) = _;rw [hr];simp only [Wt.syms,e1,e2,e3,e4];rfl
theorem Wt.ab_sound : Tr.sound (Wt.lf 6 0 ⟨#[97,32,98]⟩) = true := by
 unfold Tr.sound Wt.lf;have hsh : Tr.Hd.shape ⟨6,0,false,[],[],false,[],[],⟨#[97,32,98]⟩,⟨#[]⟩⟩ 0 = true := by decide +kernel
 rw [Tr.snd_list (by rw [List.length_nil,hsh]; decide) (by decide),Tr.sndL_nil]
theorem Wt.ab_answer : Wt.answer true (Wt.lf 6 0 ⟨#[97,32,98]⟩) = .tuple #[.string ⟨#[97,92,120,50,48,59,98]⟩,.int .i64 0] := by
 unfold Wt.answer;rw [if_pos Wt.ab_sound];have h : Wt.tell true (Wt.lf 6 0 ⟨#[97,32,98]⟩) = [97,92,120,50,48,59,98] := by
  unfold Wt.lf;rw [Wt.tell_atom (by decide)];show Wt.sym [97,32,98] = _;exact Wt.sym_ab
 rw [h];rfl
theorem Wt.awake (w : World) (hT : Wt.Tabs w) : Calls Tryz.prog 9 #[] w fun e w' => e = .returned (.bool true) ∧ Below w.heap.size w w' := by
 have KW := Lib.hid (Wt.Write_any (Wt.lf 6 0 ⟨#[97,32,98]⟩) (fun _ => True) (Wt.lfV 6 0 ⟨#[97,32,98]⟩) w (Wt.lf_in 6 0 ⟨#[97,32,98]⟩ w (by decide) (by decide) (by decide)) hT (Wt.fit_mk.2 ⟨⟨by decide,by decide⟩,Wt.fitL_nil⟩));rw [Wt.ab_answer] at KW;unfold Wt.lfV at KW;clear hT;go_enter Tryz.func9,Tryz.ntmps9;go_wp2_with fail;refine KW.out.mono ?_;rintro e w1 ⟨rfl,hb1⟩;go_wp2_with fail;go_ret;exact ⟨rfl,hb1⟩
end Go.Proofs.YteklhapffplohaaGreatDoor
