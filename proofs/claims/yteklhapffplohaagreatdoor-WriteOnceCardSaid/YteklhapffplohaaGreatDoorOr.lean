/-
  write's text of a string. write's symbol. The writer's datum of a node that has no list and no bytes.
-/
import Derived.Deep.RegionHeld3
import Derived.Lib.Hide
import Derived.Test.YteklhapffplohaaGreatDoorOn
import Derived.Test.YteklhapffplohaaGreatDoorOe
import Derived.Test.YteklhapffplohaaGreatDoorOf
import Derived.Test.YteklhapffplohaaGreatDoorOq
set_option maxHeartbeats 4000000
set_option maxRecDepth 1000000
set_option linter.unusedVariables false
set_option linter.unusedSimpArgs false
namespace Go.Proofs.YteklhapffplohaaGreatDoor
open Go.RowKit
theorem Wt.strU_esc {r : Int} (h7 : ¬ (7 ≤ r ∧ r ≤ 13)) (h34 : r ≠ 34) (h92 : r ≠ 92) (ho : (Wt.odd r || decide (r = 8232) || decide (r = 65279)) = true) : Wt.strU r = Wt.esc r := by
 unfold Wt.strU;rw [if_neg (by omega),if_neg (by omega),if_neg (by omega),if_neg (by omega),if_neg (by omega),if_neg (by omega),if_neg (by omega),if_neg h34,if_neg h92,if_pos ho]
theorem Wt.strU_enc {r : Int} (h7 : ¬ (7 ≤ r ∧ r ≤ 13)) (h34 : r ≠ 34) (h92 : r ≠ 92) (ho : (Wt.odd r || decide (r = 8232) || decide (r = 65279)) = false) : Wt.strU r = Lib.encodeRune r := by
 unfold Wt.strU;rw [if_neg (by omega),if_neg (by omega),if_neg (by omega),if_neg (by omega),if_neg (by omega),if_neg (by omega),if_neg (by omega),if_neg h34,if_neg h92,if_neg (by rw [ho]; decide)]
theorem Wt.wr32 : IntKind.i32.wrap 0 = 0 ∧ IntKind.i32.wrap 1 = 1 ∧ IntKind.i32.wrap 2 = 2 ∧ IntKind.i32.wrap 3 = 3 ∧ IntKind.i32.wrap 4 = 4 ∧ IntKind.i32.wrap 5 = 5 ∧ IntKind.i32.wrap 6 = 6 ∧ IntKind.i32.wrap 7 = 7 := by decide
theorem Wt.size_cons (c : ByteArray) : (⟨#[92]⟩ ++ c : ByteArray).size = 1 + c.size := by simp; rfl
structure Wt.TxtRel (B b it : Nat) (bs : List Value) (s : ByteArray) (w : World) (pos : Nat) (acc : List UInt8) (wr : World) : Prop where
 at_ : Wr.At B b (.pointer (some ⟨b,0,none⟩)) true (bs ++ Lib.byteCells acc) wr
 it_ : wr.heap[it]? = some (.stringIter s pos)
 kept : Wt.Kept B b w wr
 says : acc ++ ((Ru.runes (s.data.toList.drop pos)).flatMap Wt.strU ++ [34]) = Wt.str s.data.toList
 len : acc.length ≤ 1 + 9 * pos
 lo : B ≤ b ∧ b < w.heap.size ∧ w.heap.size ≤ it
theorem Wt.TxtRel.next {B b it : Nat} {bs : List Value} {s : ByteArray} {w : World} {pos : Nat} {acc : List UInt8} {wr w1 : World} (h : Wt.TxtRel B b it bs s w pos acc wr) (hp : pos < s.size) {u : List UInt8}
 (h1 : Wr.At B b (.pointer (some ⟨b,0,none⟩)) true (bs ++ Lib.byteCells acc ++ Lib.byteCells u) w1) (k1 : Wt.Kept B b (wr.iterAt it s (pos + (Utf8.decode s pos).2)) w1) (hu : Wt.strU ((Utf8.decode s pos).1 : Int) = u) :
 Wt.TxtRel B b it bs s w (pos + (Utf8.decode s pos).2) (acc ++ u) w1 := by
 have hwd := Lib.decode_width_pos s pos hp
 have hlt : it < wr.heap.size := (Array.getElem?_eq_some_iff.1 h.it_).1
 have hb := h.lo
 refine ⟨by rw [← Wt.cells_app]; exact h1,k1.iter (Lib.iterAt_heap wr it s pos _ h.it_) (by omega),(h.kept.iterAt (by omega) hb.2.2 s _).trans k1,?_,?_,hb⟩
 · rw [← h.says,Wt.runes_at s pos hp,List.flatMap_cons,hu];simp
 · have := Wt.strU_len (Wt.decode_ok s pos hp);rw [hu] at this;have := h.len;rw [List.length_append];omega
theorem Wt.text_any (B b : Nat) (m : Bool) (bs : List Value) (s : ByteArray) (w : World) (h : Wr.Is B b m bs w) (hd : Wt.Bits w) (hT : 5 < B) (hs : s.size ≤ 1048576) (hlen : bs.length + 16777216 ≤ 140737488355328) :
 Calls Tryz.prog 59 #[.pointer (some ⟨b,0,none⟩),.string s] w fun e w' => e = .returned (.tuple #[]) ∧ (Wr.At B b (.pointer (some ⟨b,0,none⟩)) m (bs ++ Lib.byteCells (if m = true then Wt.str s.data.toList else s.data.toList)) w' ∧ Wt.Kept B b w w') := by
 have hm := h.marked
 obtain ⟨hBb,hblt⟩ := h.blk
 cases m
 · go_enter Tryz.func59,Tryz.ntmps59;go_wp2_with (go_at_call 56; refine (Wt.writeString B b false bs s _ h (by omega) (by omega)).mono ?_);rintro e w1 ⟨rfl,h1,k1⟩;go_wp2;refine bodyPost_ret (results_none rfl _ _ _) rfl ?_;rw [Wt.strCells] at h1;exact ⟨rfl,h1,k1⟩
 · go_enter Tryz.func59,Tryz.ntmps59;go_wp2_with (go_at_call 61; refine (Wt.writeByte B b true bs 34 _ h (by omega) (by omega)).mono ?_);rintro e w1 ⟨rfl,h1,k1⟩;have hz1 := k1.size;have hit0 : (w1.alloc (.stringIter s 0)).heap[w1.heap.size]? = some (.stringIter s 0) := heap_alloc_new w1 _;have H0 : Wt.TxtRel B b w1.heap.size bs s w 0 [34] (w1.alloc (.stringIter s 0)) :=
    ⟨h1.alloc _,hit0,k1.alloc (by omega) _,rfl,by simp,hBb,hblt,hz1⟩
   have HD := Lib.hid (fun w' (hk : Wt.Kept B b w w') => hd.kept hT hk);clear h hd h1 hit0;go_wp2;go_loopw [] (fun wr => ∃ (pos : Nat) (acc : List UInt8),Wt.TxtRel B b w1.heap.size bs s w pos acc wr) (fun wr => s.size - wr.iterPos w1.heap.size);case atStart => exact ⟨0,[34],H0⟩
   case round =>
    obtain ⟨pos,acc,hR⟩ := hrel;have hit := hR.it_;have hsz : w1.heap.size < wr.heap.size := (Array.getElem?_eq_some_iff.1 hit).1;clear H0 hm;by_cases hp : pos < s.size
    · have hwd := Lib.decode_width_pos s pos hp;have hd1 := decode_le s pos;have hok := Wt.decode_ok s pos hp;have HN := Lib.hid (fun u w2 => hR.next (u := u) (w1 := w2) hp);have hAt := hR.at_.iterAt hit (pos + (Utf8.decode s pos).2);have hit2 := Lib.iterAt_heap wr w1.heap.size s pos (pos + (Utf8.decode s pos).2) hit;have hnx : ∀ ty,(Instr.next (.pointer (some ⟨w1.heap.size,0,none⟩)) true ty).run Tryz.prog wr = _ := fun ty => Lib.run_next_any_at wr w1.heap.size s pos ty hit hp;have hkW := (hR.kept.iterAt (by omega) hz1 s (pos + (Utf8.decode s pos).2));have hal := hR.len;obtain ⟨W,hW⟩ : ∃ z,wr.iterAt w1.heap.size s (pos + (Utf8.decode s pos).2) = z := ⟨_,rfl⟩;obtain ⟨r,hr⟩ : ∃ z,(Utf8.decode s pos).1 = z := ⟨_,rfl⟩;obtain ⟨n,hn⟩ : ∃ z,(Utf8.decode s pos).2 = z := ⟨_,rfl⟩;rw [hW] at HN hAt hit2 hnx hkW;rw [hr] at HN hok hd1 hnx;rw [hn] at HN hwd hit2;have hrb : r ≤ 1114111 := by unfold Ru.okR at hok; omega
      have hbW := HD.out W hkW;have hms : s.size - wr.iterPos w1.heap.size = s.size - pos := by simp [World.iterPos,hit]
      have HM := Lib.hid (fun (w2 : World) (k2 : Wt.Kept B b W w2) => (show s.size - w2.iterPos w1.heap.size < s.size - wr.iterPos w1.heap.size by
        rw [hms];have := k2.iter hit2 (by omega);simp only [World.iterPos,this]
        omega))
      have hBW : B ≤ W.heap.size := Nat.le_trans (by omega) hkW.size;have hal2 : (bs ++ Lib.byteCells acc).length + 100 ≤ 140737488355328 := by rw [List.length_append,Lib.byteCells_length]; omega
      clear hR hit hW hr hn hit2 hkW hms hd1 hal hwd hp;have hcase : (r = 7 ∨ r = 8 ∨ r = 9 ∨ r = 10 ∨ r = 11 ∨ r = 12 ∨ r = 13) ∨ (r = 34 ∨ r = 92) ∨ (¬ (7 ≤ r ∧ r ≤ 13) ∧ r ≠ 34 ∧ r ≠ 92) := by omega
      rcases hcase with hcase | hcase | ⟨h7,h34,h92⟩
      · have KW : ∀ w3,Below W.heap.size W w3 → ∀ c : ByteArray,c.size = 1 → Calls Tryz.prog 56 #[.pointer (some ⟨b,0,none⟩),.string (⟨#[92]⟩ ++ c)] w3 fun e w' => e = .returned (.tuple #[.int .i64 (⟨#[92]⟩ ++ c : ByteArray).size,.nilIface]) ∧ (Wr.At B b (.pointer (some ⟨b,0,none⟩)) true (bs ++ Lib.byteCells acc ++ Lib.strCells (⟨#[92]⟩ ++ c)) w' ∧ Wt.Kept B b W w') := by
         intro w3 hb3 c hc;refine (Wt.writeString B b true _ _ w3 (hAt.keptBelow hb3).is (by rw [Wt.size_cons,hc]; omega) (by have := hb3.size; omega)).mono ?_;rintro e w4 ⟨rfl,h4,k4⟩;exact ⟨rfl,h4,(Wt.Kept.below hb3 hBW).trans k4⟩
        have HW := Lib.hid KW;clear KW hbW hAt;obtain ⟨g0,g1,g2,g3,g4,g5,g6,g7⟩ := Wt.wr32;rcases hcase with rfl | rfl | rfl | rfl | rfl | rfl | rfl;all_goals
         go_wp2_with fail;go_region_held3 (fun w' => W.heap.size ≤ w'.heap.size)
          (first | exact Nat.le_refl _ | exact hkeep)
          (first
            | (go_at_call 56
               refine (HW.out W.drew (Below.drew (Below.refl _ _)) _ (by rfl)).mono ?_
               rintro z2 w2 ⟨rfl,h2,k2⟩
               have hkeep : W.heap.size ≤ w2.heap.size := k2.size))
         go_wp2_with fail;exact ⟨⟨_,_,HN.out _ w2 h2 k2 rfl⟩,HM.out w2 k2⟩
      · have KW : ∀ c : ByteArray,c.size = 1 → Calls Tryz.prog 56 #[.pointer (some ⟨b,0,none⟩),.string (⟨#[92]⟩ ++ c)] W fun e w' => e = .returned (.tuple #[.int .i64 (⟨#[92]⟩ ++ c : ByteArray).size,.nilIface]) ∧ (Wr.At B b (.pointer (some ⟨b,0,none⟩)) true (bs ++ Lib.byteCells acc ++ Lib.strCells (⟨#[92]⟩ ++ c)) w' ∧ Wt.Kept B b W w') := by
         intro c hc;exact Wt.writeString B b true _ _ W hAt.is (by rw [Wt.size_cons,hc]; omega) hBW
        have HW := Lib.hid KW;clear KW hbW hAt;rcases hcase with rfl | rfl;all_goals
         go_wp2_with fail;refine (HW.out _ (by rfl)).mono ?_;rintro z2 w2 ⟨rfl,h2,k2⟩;go_wp2_with fail;exact ⟨⟨_,_,HN.out _ w2 h2 k2 rfl⟩,HM.out w2 k2⟩
      · have KH := Wt.hex_any B b true (bs ++ Lib.byteCells acc) r [92] [59] W hAt.is hrb hbW (by decide) (by decide) hal2;have KR := Wt.writeRune B b true (bs ++ Lib.byteCells acc) (r : Int) (by omega) (by omega) W hAt.is (by omega) hBW;rw [← Lib.byteCells_encodeRune] at KR;have HH := Lib.hid KH;have HR := Lib.hid KR;have i34 : ((r : Int) == 34) = false := beq_eq_false_iff_ne.2 (by omega);have i92 : ((r : Int) == 92) = false := beq_eq_false_iff_ne.2 (by omega);have hI : ¬ (7 ≤ (r : Int) ∧ (r : Int) ≤ 13) := by omega
        have HU := Lib.hid (fun ho => Wt.strU_esc (r := (r : Int)) hI (by omega) (by omega) ho);have HV := Lib.hid (fun ho => Wt.strU_enc (r := (r : Int)) hI (by omega) (by omega) ho);have HE : Hid (Wt.esc (r : Int) = [92] ++ [120] ++ Wt.hex r ++ [59]) := Lib.hid (by simp [Wt.esc]);have h713 : (r : Int) < 7 ∨ 13 < (r : Int) := by omega
        clear KH KR hbW hAt hI h7 h34 h92 hrb hok;obtain ⟨o,ho⟩ : ∃ z,Wt.odd (r : Int) = z := ⟨_,rfl⟩;obtain ⟨p,hp8⟩ : ∃ z,((r : Int) == 8232) = z := ⟨_,rfl⟩;obtain ⟨q,hq6⟩ : ∃ z,((r : Int) == 65279) = z := ⟨_,rfl⟩;have HO : Hid ((Wt.odd (r : Int) || decide ((r : Int) = 8232) || decide ((r : Int) = 65279)) = (o || p || q)) := Lib.hid (by rw [ho,← hp8,← hq6]; simp [Bool.beq_eq_decide_eq]);rcases h713 with h713 | h713;all_goals cases o
        all_goals cases p
        all_goals cases q
        all_goals
         go_wp2_with (first
           | (go_at_call 87; refine (Wt.odd_any _ _).mono ?_; rintro e w' ⟨rfl,rfl⟩)
           | (go_at_call 88; refine HH.out.mono ?_; rintro e w2 ⟨rfl,h2,k2⟩)
           | (go_at_call 67; refine HR.out.mono ?_; rintro e w2 ⟨rfl,h2,k2⟩))
        all_goals first | exact ⟨⟨_,_,HN.out _ w2 h2 k2 ((HU.out (HO.out.trans rfl)).trans HE.out)⟩,HM.out w2 k2⟩ | exact ⟨⟨_,_,HN.out _ w2 h2 k2 (HV.out (HO.out.trans rfl))⟩,HM.out w2 k2⟩
    · have hnx : ∀ ty,(Instr.next (.pointer (some ⟨w1.heap.size,0,none⟩)) true ty).run Tryz.prog wr = _ := fun ty => Lib.run_next_end_at wr w1.heap.size s pos ty hit hp;have hsay := hR.says;rw [Wt.runes_end s pos hp] at hsay;have hacc : acc ++ [34] = Wt.str s.data.toList := by simpa using hsay
      have hal : acc.length ≤ 9437186 := by
       have h1 := Wt.str_len s.data.toList;have h2 := congrArg List.length hacc;rw [List.length_append] at h2;have h3 : s.data.toList.length = s.size := by simp
       simp only [List.length_cons,List.length_nil] at h2;omega
      have KB := Wt.writeByte B b true (bs ++ Lib.byteCells acc) 34 wr hR.at_.is (by rw [List.length_append,Lib.byteCells_length]; omega) (by omega);have HB := Lib.hid KB;have HK := Lib.hid hR.kept;have HA := Lib.hid hacc;clear KB hR hsay hacc hit hp;go_wp2_with fail;refine HB.out.mono ?_;rintro e w2 ⟨rfl,h2,k2⟩;go_wp2_with fail;go_end0;refine ⟨rfl,?_,HK.out.trans k2⟩;have h3 := Wt.cells_snoc bs acc 34;rw [HA.out] at h3;show Wr.At B b _ true (bs ++ Lib.byteCells (Wt.str s.data.toList)) w2;rw [← h3];exact h2
theorem Wt.str_ne {x : ByteArray} (hn : ¬ x.toList = []) : (x.toList = []) = False ∧ x.toList.isEmpty = false := ⟨by simp [hn],by simpa using hn⟩
structure Wt.SymRel (B b it : Nat) (bs : List Value) (s : ByteArray) (R : List UInt8) (F : Bool) (w : World) (pos : Nat) (f : Bool) (acc : List UInt8) (wr : World) : Prop where
 at_ : Wr.Is B b true (bs ++ Lib.byteCells acc) wr
 used : 0 < pos ∨ f = false → Wr.At B b (.pointer (some ⟨b,0,none⟩)) true (bs ++ Lib.byteCells acc) wr
 fst : f = true → F = true
 it_ : wr.heap[it]? = some (.stringIter s pos)
 kept : Wt.Kept B b w wr
 says : acc ++ Wt.syms f (Ru.runes (s.data.toList.drop pos)) = R
 len : acc.length ≤ 2 + 9 * pos
 lo : B ≤ b ∧ b < w.heap.size ∧ w.heap.size ≤ it
theorem Wt.SymRel.next {B b it : Nat} {bs : List Value} {s : ByteArray} {R : List UInt8} {F : Bool} {w : World} {pos : Nat} {f : Bool} {acc : List UInt8} {wr w1 : World} (h : Wt.SymRel B b it bs s R F w pos f acc wr) (hp : pos < s.size) {u : List UInt8}
 (h1 : Wr.At B b (.pointer (some ⟨b,0,none⟩)) true (bs ++ Lib.byteCells acc ++ Lib.byteCells u) w1) (k1 : Wt.Kept B b (wr.iterAt it s (pos + (Utf8.decode s pos).2)) w1) (hu : Wt.symU f ((Utf8.decode s pos).1 : Int) = u) :
 Wt.SymRel B b it bs s R F w (pos + (Utf8.decode s pos).2) false (acc ++ u) w1 := by
 have hwd := Lib.decode_width_pos s pos hp
 have hlt : it < wr.heap.size := (Array.getElem?_eq_some_iff.1 h.it_).1
 have hb := h.lo
 rw [Wt.cells_app] at h1
 refine ⟨h1.is,fun _ => h1,fun e => (by cases e),k1.iter (Lib.iterAt_heap wr it s pos _ h.it_) (by omega),(h.kept.iterAt (by omega) hb.2.2 s _).trans k1,?_,?_,hb⟩
 · rw [← h.says,Wt.runes_at s pos hp,Wt.syms,hu];simp
 · have := Wt.symU_len (f := f) (Wt.decode_ok s pos hp);rw [hu] at this;have := h.len;rw [List.length_append];omega
theorem Wr.Is.iterAt {B b : Nat} {m : Bool} {bs : List Value} {w : World} (h : Wr.Is B b m bs w) {k : Nat} {s : ByteArray} {pos : Nat} (hk : w.heap[k]? = some (.stringIter s pos)) (pos' : Nat) : Wr.Is B b m bs (w.iterAt k s pos') := h.imp (·.iterAt hk pos') (·.iterAt hk pos')
theorem Wt.symbol_any (B b : Nat) (m : Bool) (bs : List Value) (s : ByteArray) (w : World) (h : Wr.Is B b m bs w) (hd : Wt.Bits w) (hT : 5 < B) (hs : s.size ≤ 1048576) (hlen : bs.length + 16777216 ≤ 140737488355328) :
 Calls Tryz.prog 60 #[.pointer (some ⟨b,0,none⟩),.string s] w fun e w' => e = .returned (.tuple #[]) ∧ (Wr.At B b (.pointer (some ⟨b,0,none⟩)) m (bs ++ Lib.byteCells (if m = true then Wt.sym s.data.toList else s.data.toList)) w' ∧ Wt.Kept B b w w') := by
 have hm := h.marked
 obtain ⟨hBb,hblt⟩ := h.blk
 have KW := Lib.hid (Wt.writeString B b m bs s w h (by omega) (by omega))
 have KN := Lib.hid (Wt.writeString B b m bs ⟨#[124,124]⟩ w h (by show _ + 2 ≤ _; omega) (by omega))
 cases m
 · go_enter Tryz.func60,Tryz.ntmps60;go_wp2_with (go_at_call 56; refine KW.out.mono ?_);rintro e w1 ⟨rfl,h1,k1⟩;go_wp2;refine bodyPost_ret (results_none rfl _ _ _) rfl ?_;rw [Wt.strCells] at h1;exact ⟨rfl,h1,k1⟩
 · by_cases hone : s = ⟨#[43]⟩ ∨ s = ⟨#[45]⟩ ∨ s = ⟨#[46,46,46]⟩
   · have hsym : Wt.sym s.data.toList = s.data.toList := by
      rcases hone with rfl | rfl | rfl <;> rfl
     have HS := Lib.hid hsym;clear hsym;rcases hone with rfl | rfl | rfl;all_goals
      go_enter Tryz.func60,Tryz.ntmps60;go_wp2_with (go_at_call 56; refine KW.out.mono ?_; rintro e w1 ⟨rfl,h1,k1⟩);refine bodyPost_ret (results_none rfl _ _ _) rfl ?_;rw [Wt.strCells] at h1;refine ⟨rfl,?_,k1⟩;first | rw [if_pos rfl,HS.out] | rw [HS.out]
      exact h1
   · have hby : ∀ l : List UInt8,s.toList = l → s = ⟨l.toArray⟩ := fun l e => by
      rw [ByteArray.toList_eq] at e;exact ByteArray.ext (by have := congrArg List.toArray e; simpa using this)
     have n43 : (s.toList == [43]) = false := beq_eq_false_iff_ne.2 (fun e => hone (.inl (hby _ e)));have n45 : (s.toList == [45]) = false := beq_eq_false_iff_ne.2 (fun e => hone (.inr (.inl (hby _ e))));have n46 : (s.toList == [46,46,46]) = false := beq_eq_false_iff_ne.2 (fun e => hone (.inr (.inr (hby _ e))));by_cases h0 : s = ⟨#[]⟩
     · subst h0;go_enter Tryz.func60,Tryz.ntmps60;go_wp2_with (go_at_call 56; refine KN.out.mono ?_);rintro e w1 ⟨rfl,h1,k1⟩;go_wp2;refine bodyPost_ret (results_none rfl _ _ _) rfl ?_;exact ⟨rfl,h1,k1⟩
     · obtain ⟨n0,n1⟩ := Wt.str_ne (x := s) (fun e => h0 (hby _ e));clear hby;have hl0 : s.data.toList ≠ [] := fun e => h0 (ByteArray.ext (by have := congrArg List.toArray e; simpa using this));have hsym : Wt.sym s.data.toList = Wt.symL s.data.toList := by
        unfold Wt.sym;rw [if_neg (by
          rintro (e | e | e)
          · exact hone (.inl (ByteArray.ext (by have := congrArg List.toArray e; simpa using this)))
          · exact hone (.inr (.inl (ByteArray.ext (by have := congrArg List.toArray e; simpa using this))))
          · exact hone (.inr (.inr (ByteArray.ext (by have := congrArg List.toArray e; simpa using this))))),if_neg hl0]
       have KA := Lib.hid (Wt.writeString B b true bs ⟨#[45,62]⟩ w h (by show _ + 2 ≤ _; omega) (by omega));have KC := fun w' => Tryz.strings_CutPrefix s ⟨#[45,62]⟩ w';have harrow : (∃ T : List UInt8,Lib.trimPrefix s.data.toList [45,62] = T ∧ T.length ≤ s.size ∧ Lib.hasPrefix s.data.toList [45,62] = true ∧ Wt.symL s.data.toList = [45,62] ++ Wt.syms false (Ru.runes T)) ∨ (Lib.trimPrefix s.data.toList [45,62] = s.data.toList ∧ Lib.hasPrefix s.data.toList [45,62] = false ∧ Wt.symL s.data.toList = Wt.syms true (Ru.runes s.data.toList)) := by
        have hlen2 : s.data.toList.length = s.size := by simp
        rw [← hlen2];generalize s.data.toList = l;unfold Wt.symL;split
        · rename_i t;refine .inl ⟨t,?_,?_,?_,rfl⟩
          · simp [Lib.trimPrefix,Lib.hasPrefix]
          · simp; omega
          · simp [Lib.hasPrefix]
        · rename_i hn;have hp : Lib.hasPrefix l [45,62] = false := by
           unfold Lib.hasPrefix;match l,hn with
           | [],_ => rfl
           | [x],_ => simp [List.isPrefixOf]
           | x :: y :: t,hn =>
             simp [List.isPrefixOf];rintro rfl rfl;exact hn t rfl
          exact .inr ⟨by simp [Lib.trimPrefix,hp],hp,rfl⟩
       obtain ⟨R,hR⟩ : ∃ z,Wt.symL s.data.toList = z := ⟨_,rfl⟩;rw [hR] at harrow hsym;have hRlen : R.length ≤ 9 * s.size + 2 := by
        have := Wt.symL_len s.data.toList;have h3 : s.data.toList.length = s.size := by simp
        rw [hR] at this;omega
       have HSYM := Lib.hid hsym;have HD := Lib.hid (fun w' (hk : Wt.Kept B b w w') => hd.kept hT hk);have HIS := Lib.hid h;have K0 : Wt.Kept B b w w := Wt.Kept.refl _ _ _;have HRL := Lib.hid hRlen;clear hsym hl0 hone h0 hR hd h KW KN hRlen;have harrow2 : ∃ (X : ByteArray) (F : Bool),X.size ≤ s.size ∧ (F = true → X = s) ∧ (∀ w',Calls Tryz.prog 89 #[.string s,.string ⟨#[45,62]⟩] w' fun e w'' => e = .returned (.tuple #[.string X,.bool (!F)]) ∧ w'' = w') ∧ (if F = true then [] else [45,62]) ++ Wt.syms F (Ru.runes X.data.toList) = R := by
        rcases harrow with ⟨T,hT1,hT2,hT3,hT4⟩ | ⟨hT1,hT2,hT4⟩
        · refine ⟨⟨T.toArray⟩,false,(by show (List.toArray T).size ≤ _; simpa using hT2),(fun e => by cases e),fun w' => ?_,hT4.symm⟩;have := KC w';rw [show (⟨#[45,62]⟩ : ByteArray).data.toList = [45,62] from rfl,hT1,hT3] at this;exact this
        · refine ⟨s,true,Nat.le_refl _,fun _ => rfl,fun w' => ?_,hT4.symm⟩;have := KC w';rw [show (⟨#[45,62]⟩ : ByteArray).data.toList = [45,62] from rfl,hT1,hT2] at this;exact this
       obtain ⟨X,F,hXs,hXe,KX,hXR⟩ := harrow2;have hXs2 : X.size ≤ 1048576 := by omega
       have hs0 : 0 < s.size := by
        rcases Nat.eq_zero_or_pos s.size with h | h
        · rw [ByteArray.toList_eq] at n0;have h5 : s.data.toList.length = 0 := by rw [Array.length_toList]; exact h
          exact absurd (List.length_eq_zero_iff.1 h5) (by rw [n0]; exact fun e => e)
        · exact h
       have HEND : Hid (∀ (pos : Nat) (f : Bool) (acc : List UInt8) (it : Nat) (wr : World),Wt.SymRel B b it bs X R F w pos f acc wr → ¬ pos < X.size → Wr.At B b (.pointer (some ⟨b,0,none⟩)) true (bs ++ Lib.byteCells R) wr ∧ Wt.Kept B b w wr) := Lib.hid (fun pos f acc it wr hR hp => by
         have hsay := hR.says;rw [Wt.runes_end X pos hp] at hsay;have hacc : acc = R := by cases f <;> simpa [Wt.syms] using hsay
         rw [← hacc];refine ⟨hR.used ?_,hR.kept⟩;cases f with
         | false => exact .inr rfl
         | true =>
           have := hXe (hR.fst rfl);rw [this] at hp
           exact .inl (by omega))
       have HX0 : Hid (∀ w1,Wr.Is B b true (bs ++ Lib.byteCells (if F = true then [] else [45,62])) w1 → (F = false → Wr.At B b (.pointer (some ⟨b,0,none⟩)) true (bs ++ Lib.byteCells [45,62]) w1) → Wt.Kept B b w w1 → Wt.SymRel B b w1.heap.size bs X R F w 0 F (if F = true then [] else [45,62]) (w1.alloc (.stringIter X 0))) := Lib.hid (fun w1 h1 h2 k1 => by
         have hz := k1.size;refine ⟨h1.alloc _,fun e => ?_,fun e => e,heap_alloc_new w1 _,k1.alloc (by omega) _,by simpa using hXR,by split <;> simp,hBb,hblt,hz⟩;have hF : F = false := by rcases e with e | e; exact absurd e (by omega); exact e
         subst hF
         exact (h2 rfl).alloc _)
       have HXE := Lib.hid hXe;clear harrow KC hXR hXe hXs n0;cases F;all_goals
        go_enter Tryz.func60,Tryz.ntmps60;go_wp2_with (first
          | (go_at_call 89; refine (KX _).mono ?_; rintro e w' ⟨rfl,hw⟩; have hw2 := hw.symm; subst hw2; clear hw)
          | (go_at_call 56; refine KA.out.mono ?_; rintro e w1 ⟨rfl,h1,k1⟩))
       · have H0 := HX0.out w1 h1.is (fun _ => h1) k1;have hz1 := k1.size;clear h1;go_loopw [4] (fun v wr => ∃ (pos : Nat) (f : Bool) (acc : List UInt8),v = .bool f ∧ Wt.SymRel B b w1.heap.size bs X R false w pos f acc wr) (fun _ wr => X.size - wr.iterPos w1.heap.size);case atStart => exact ⟨0,false,_,rfl,H0⟩
         case round =>
          obtain ⟨pos,f,acc,rfl,hR⟩ := hrel;have hit := hR.it_;have hsz : w1.heap.size < wr.heap.size := (Array.getElem?_eq_some_iff.1 hit).1;clear H0 HX0 hm;by_cases hp : pos < X.size
          · have hwd := Lib.decode_width_pos X pos hp;have hok := Wt.decode_ok X pos hp;have HN := Lib.hid (fun u w2 => hR.next (u := u) (w1 := w2) hp);have hIs := hR.at_.iterAt hit (pos + (Utf8.decode X pos).2);have hit2 := Lib.iterAt_heap wr w1.heap.size X pos (pos + (Utf8.decode X pos).2) hit;have hnx : ∀ ty,(Instr.next (.pointer (some ⟨w1.heap.size,0,none⟩)) true ty).run Tryz.prog wr = _ := fun ty => Lib.run_next_any_at wr w1.heap.size X pos ty hit hp;have hkW := (hR.kept.iterAt (by omega) hz1 X (pos + (Utf8.decode X pos).2));have hal := hR.len;obtain ⟨W,hW⟩ : ∃ z,wr.iterAt w1.heap.size X (pos + (Utf8.decode X pos).2) = z := ⟨_,rfl⟩;obtain ⟨r,hr⟩ : ∃ z,(Utf8.decode X pos).1 = z := ⟨_,rfl⟩;obtain ⟨n,hn⟩ : ∃ z,(Utf8.decode X pos).2 = z := ⟨_,rfl⟩;rw [hW] at HN hIs hit2 hnx hkW;rw [hr] at HN hok hnx;rw [hn] at HN hwd hit2;have hrb : r ≤ 1114111 := by unfold Ru.okR at hok; omega
            have hbW := HD.out W hkW;have hms : X.size - wr.iterPos w1.heap.size = X.size - pos := by simp [World.iterPos,hit]
            have HM := Lib.hid (fun (w2 : World) (k2 : Wt.Kept B b W w2) => (show X.size - w2.iterPos w1.heap.size < X.size - wr.iterPos w1.heap.size by
              rw [hms];have := k2.iter hit2 (by omega);simp only [World.iterPos,this]
              omega))
            have hBW : B ≤ W.heap.size := Nat.le_trans (by omega) hkW.size;have hal2 : (bs ++ Lib.byteCells acc).length + 100 ≤ 140737488355328 := by rw [List.length_append,Lib.byteCells_length]; omega
            have HF := Lib.hid (fun w' => Wt.First_any (r : Int) hok w');have HG := Lib.hid (fun w' => Wt.Rest_any (r : Int) hok w');have HH := Lib.hid (fun (W2 : World) (hb2 : Below W.heap.size W W2) => ((Wt.hex_any B b true (bs ++ Lib.byteCells acc) r [92] [59] W2 (hIs.keptBelow hb2) hrb (hbW.below hb2) (by decide) (by decide) hal2).mono (fun e w2 h2 => ⟨h2.1,h2.2.1,(Wt.Kept.below hb2 hBW).trans h2.2.2⟩ : ∀ e w2,_ → (e = .returned (.tuple #[]) ∧ (Wr.At B b (.pointer (some ⟨b,0,none⟩)) true (bs ++ Lib.byteCells acc ++ Lib.byteCells ([92] ++ [120] ++ Wt.hex r ++ [59])) w2 ∧ Wt.Kept B b W w2)))));have HR := Lib.hid (fun (W2 : World) (hb2 : Below W.heap.size W W2) => ((Wt.writeRune B b true (bs ++ Lib.byteCells acc) (r : Int) (by omega) (by omega) W2 (hIs.keptBelow hb2) (by omega) (by have := hb2.size; omega)).mono (fun e w2 h2 => ⟨h2.1,by rw [Lib.byteCells_encodeRune]; exact h2.2.1,(Wt.Kept.below hb2 hBW).trans h2.2.2⟩ : ∀ e w2,_ → (e = .returned (.tuple #[.int .i64 (Lib.runeCells r).length,.nilIface]) ∧ (Wr.At B b (.pointer (some ⟨b,0,none⟩)) true (bs ++ Lib.byteCells acc ++ Lib.byteCells (Lib.encodeRune (r : Int))) w2 ∧ Wt.Kept B b W w2)))));have HE : Hid (Wt.esc (r : Int) = [92] ++ [120] ++ Wt.hex r ++ [59]) := Lib.hid (by simp [Wt.esc]);obtain ⟨x,hx⟩ : ∃ z,Wt.firstB (r : Int) = z := ⟨_,rfl⟩;obtain ⟨y,hy⟩ : ∃ z,Wt.restB (r : Int) = z := ⟨_,rfl⟩;rw [hx] at HF;rw [hy] at HG
            have HU : Hid (Wt.symU f (r : Int) = if (if f = true then x else y) = true then Lib.encodeRune r else Wt.esc r) := Lib.hid (by unfold Wt.symU; rw [hx,hy]);clear hR hit hW hr hn hit2 hkW hms hal hwd hp hIs hbW hx hy hok hal2;cases f;all_goals cases x
            all_goals cases y
            all_goals
             go_wp2_with (first
               | (go_at_call 90; refine (HF.out _).mono ?_; rintro e w3 ⟨rfl,hb3⟩)
               | (go_at_call 91; refine (HG.out _).mono ?_; rintro e w3 ⟨rfl,hb3⟩)
               | (go_at_call 88; refine (HH.out _ hb3).mono ?_; rintro e w2 ⟨rfl,h2,k2⟩)
               | (go_at_call 67; refine (HR.out _ hb3).mono ?_; rintro e w2 ⟨rfl,h2,k2⟩))
            all_goals first | exact ⟨⟨_,false,_,rfl,HN.out _ w2 h2 k2 (HU.out.trans HE.out)⟩,HM.out w2 k2⟩ | exact ⟨⟨_,false,_,rfl,HN.out _ w2 h2 k2 HU.out⟩,HM.out w2 k2⟩
          · have hnx : ∀ ty,(Instr.next (.pointer (some ⟨w1.heap.size,0,none⟩)) true ty).run Tryz.prog wr = _ := fun ty => Lib.run_next_end_at wr w1.heap.size X pos ty hit hp;have HZ := Lib.hid (HEND.out _ _ _ _ _ hR hp);clear hR hit hp HEND;go_wp2_with fail;go_end0;refine ⟨rfl,?_,HZ.out.2⟩;show Wr.At B b _ true (bs ++ Lib.byteCells (Wt.sym s.data.toList)) wr;rw [HSYM.out];exact HZ.out.1
       · have hxs : X = s := (by first | exact HXE.out rfl | exact HXE.out trivial | exact HXE.out);subst hxs;have H0 := HX0.out w (by simpa [Lib.byteCells] using HIS.out) (fun e => by cases e) K0;have hz1 : w.heap.size ≤ w.heap.size := Nat.le_refl _;go_loopw [4] (fun v wr => ∃ (pos : Nat) (f : Bool) (acc : List UInt8),v = .bool f ∧ Wt.SymRel B b w.heap.size bs X R true w pos f acc wr) (fun _ wr => X.size - wr.iterPos w.heap.size);case atStart => exact ⟨0,true,_,rfl,H0⟩
         case round =>
          obtain ⟨pos,f,acc,rfl,hR⟩ := hrel;have hit := hR.it_;have hsz : w.heap.size < wr.heap.size := (Array.getElem?_eq_some_iff.1 hit).1;clear H0 HX0 hm;by_cases hp : pos < X.size
          · have hwd := Lib.decode_width_pos X pos hp;have hok := Wt.decode_ok X pos hp;have HN := Lib.hid (fun u w2 => hR.next (u := u) (w1 := w2) hp);have hIs := hR.at_.iterAt hit (pos + (Utf8.decode X pos).2);have hit2 := Lib.iterAt_heap wr w.heap.size X pos (pos + (Utf8.decode X pos).2) hit;have hnx : ∀ ty,(Instr.next (.pointer (some ⟨w.heap.size,0,none⟩)) true ty).run Tryz.prog wr = _ := fun ty => Lib.run_next_any_at wr w.heap.size X pos ty hit hp;have hkW := (hR.kept.iterAt (by omega) hz1 X (pos + (Utf8.decode X pos).2));have hal := hR.len;obtain ⟨W,hW⟩ : ∃ z,wr.iterAt w.heap.size X (pos + (Utf8.decode X pos).2) = z := ⟨_,rfl⟩;obtain ⟨r,hr⟩ : ∃ z,(Utf8.decode X pos).1 = z := ⟨_,rfl⟩;obtain ⟨n,hn⟩ : ∃ z,(Utf8.decode X pos).2 = z := ⟨_,rfl⟩;rw [hW] at HN hIs hit2 hnx hkW;rw [hr] at HN hok hnx;rw [hn] at HN hwd hit2;have hrb : r ≤ 1114111 := by unfold Ru.okR at hok; omega
            have hbW := HD.out W hkW;have hms : X.size - wr.iterPos w.heap.size = X.size - pos := by simp [World.iterPos,hit]
            have HM := Lib.hid (fun (w2 : World) (k2 : Wt.Kept B b W w2) => (show X.size - w2.iterPos w.heap.size < X.size - wr.iterPos w.heap.size by
              rw [hms];have := k2.iter hit2 (by omega);simp only [World.iterPos,this]
              omega))
            have hBW : B ≤ W.heap.size := Nat.le_trans (by omega) hkW.size;have hal2 : (bs ++ Lib.byteCells acc).length + 100 ≤ 140737488355328 := by rw [List.length_append,Lib.byteCells_length]; omega
            have HF := Lib.hid (fun w' => Wt.First_any (r : Int) hok w');have HG := Lib.hid (fun w' => Wt.Rest_any (r : Int) hok w');have HH := Lib.hid (fun (W2 : World) (hb2 : Below W.heap.size W W2) => ((Wt.hex_any B b true (bs ++ Lib.byteCells acc) r [92] [59] W2 (hIs.keptBelow hb2) hrb (hbW.below hb2) (by decide) (by decide) hal2).mono (fun e w2 h2 => ⟨h2.1,h2.2.1,(Wt.Kept.below hb2 hBW).trans h2.2.2⟩ : ∀ e w2,_ → (e = .returned (.tuple #[]) ∧ (Wr.At B b (.pointer (some ⟨b,0,none⟩)) true (bs ++ Lib.byteCells acc ++ Lib.byteCells ([92] ++ [120] ++ Wt.hex r ++ [59])) w2 ∧ Wt.Kept B b W w2)))));have HR := Lib.hid (fun (W2 : World) (hb2 : Below W.heap.size W W2) => ((Wt.writeRune B b true (bs ++ Lib.byteCells acc) (r : Int) (by omega) (by omega) W2 (hIs.keptBelow hb2) (by omega) (by have := hb2.size; omega)).mono (fun e w2 h2 => ⟨h2.1,by rw [Lib.byteCells_encodeRune]; exact h2.2.1,(Wt.Kept.below hb2 hBW).trans h2.2.2⟩ : ∀ e w2,_ → (e = .returned (.tuple #[.int .i64 (Lib.runeCells r).length,.nilIface]) ∧ (Wr.At B b (.pointer (some ⟨b,0,none⟩)) true (bs ++ Lib.byteCells acc ++ Lib.byteCells (Lib.encodeRune (r : Int))) w2 ∧ Wt.Kept B b W w2)))));have HE : Hid (Wt.esc (r : Int) = [92] ++ [120] ++ Wt.hex r ++ [59]) := Lib.hid (by simp [Wt.esc]);obtain ⟨x,hx⟩ : ∃ z,Wt.firstB (r : Int) = z := ⟨_,rfl⟩;obtain ⟨y,hy⟩ : ∃ z,Wt.restB (r : Int) = z := ⟨_,rfl⟩;rw [hx] at HF;rw [hy] at HG
            have HU : Hid (Wt.symU f (r : Int) = if (if f = true then x else y) = true then Lib.encodeRune r else Wt.esc r) := Lib.hid (by unfold Wt.symU; rw [hx,hy]);clear hR hit hW hr hn hit2 hkW hms hal hwd hp hIs hbW hx hy hok hal2;cases f;all_goals cases x
            all_goals cases y
            all_goals
             go_wp2_with (first
               | (go_at_call 90; refine (HF.out _).mono ?_; rintro e w3 ⟨rfl,hb3⟩)
               | (go_at_call 91; refine (HG.out _).mono ?_; rintro e w3 ⟨rfl,hb3⟩)
               | (go_at_call 88; refine (HH.out _ hb3).mono ?_; rintro e w2 ⟨rfl,h2,k2⟩)
               | (go_at_call 67; refine (HR.out _ hb3).mono ?_; rintro e w2 ⟨rfl,h2,k2⟩))
            all_goals first | exact ⟨⟨_,false,_,rfl,HN.out _ w2 h2 k2 (HU.out.trans HE.out)⟩,HM.out w2 k2⟩ | exact ⟨⟨_,false,_,rfl,HN.out _ w2 h2 k2 HU.out⟩,HM.out w2 k2⟩
          · have hnx : ∀ ty,(Instr.next (.pointer (some ⟨w.heap.size,0,none⟩)) true ty).run Tryz.prog wr = _ := fun ty => Lib.run_next_end_at wr w.heap.size X pos ty hit hp;have HZ := Lib.hid (HEND.out _ _ _ _ _ hR hp);clear hR hit hp HEND;go_wp2_with fail;go_end0;refine ⟨rfl,?_,HZ.out.2⟩;show Wr.At B b _ true (bs ++ Lib.byteCells (Wt.sym X.data.toList)) wr;rw [HSYM.out];exact HZ.out.1
def Wt.Says (m : Bool) (t : Tr) : Prop := ∀ (B b : Nat) (bs : List Value) (C : Array Value) (w : World),Wr.Is B b m bs w → Tr.In w (fun q => q < B) t (.agg C) → Wt.Env B w → Tr.good t → Wt.fit t → bs.length + 16777216 * Tr.size t ≤ 140737488355328 →
 Calls Tryz.prog 30 #[.pointer (some ⟨b,0,none⟩),.agg C] w fun e w' => e = .returned (.tuple #[]) ∧ (Wr.At B b (.pointer (some ⟨b,0,none⟩)) m (bs ++ Lib.byteCells (Wt.tell m t)) w' ∧ Wt.Kept B b w w')
theorem Wt.boxed {B b : Nat} {m : Bool} {bs : List Value} {w : World} (hW : Wr.Is B b m bs w) (hE : Wt.Env B w) (A : Array Value) :
 Wr.Is B b m bs (w.alloc (.cells A 30)) ∧ Wt.Env B (w.alloc (.cells A 30)) ∧ (∀ w',Wt.Kept B b (w.alloc (.cells A 30)) w' → (∀ j,w'.cell? ⟨w.heap.size,j,none⟩ = A[j]?) ∧ Wt.Kept B b w w') := by
 have hb := hW.blk
 have h0 : (w.alloc (.cells A 30)).heap[w.heap.size]? = some (.cells A 30 (0,0)) := heap_alloc_new w _
 refine ⟨hW.alloc _,hE.below ((Below.refl _ _).alloc (by omega) _),fun w' hk => ⟨?_,((Wt.Kept.refl B b w).alloc (by omega) _).trans hk⟩⟩
 have h1 := hk.box h0 (by omega) (by decide)
 exact Lib.cell_of_heap h1
theorem Wt.own_k {k n : Int} {l : Nat} (h : Tr.own k n l = true) : 1 ≤ k ∧ k ≤ 11 := by
 unfold Tr.own at h;split at h
 · omega
 split at h
 · omega
 split at h
 · omega
 split at h
 · omega
 simp only [Bool.and_eq_true,decide_eq_true_eq] at h;omega
theorem Wt.datum_leaf (m : Bool) (h : Tr.Hd) (l : List Tr) (h7 : h.k ≠ 7) (h8 : h.k ≠ 8) (h9 : h.k ≠ 9) : Wt.Says m (.mk h l) := by
 intro B b bs C w hW hI hE hg hf hlen;obtain ⟨hsh,hgl⟩ := Tr.good_mk.1 hg;obtain ⟨⟨hx,hr⟩,hfl⟩ := Wt.fit_mk.1 hf;rw [Wt.tell_atom h8];have hown := Wt.shape_own hsh;have hk11 := Wt.own_k hown;have hlen2 : bs.length + 16777216 ≤ 140737488355328 := by
  have := Tr.size_pos (.mk h l);omega
 obtain ⟨hBb,hblt⟩ := hW.blk;rw [Tr.In_mk] at hI;obtain ⟨v3,v4,v6,v7,v9,v10,e,hH,hL⟩ := hI;cases e;obtain ⟨W0,hW0⟩ : ∃ z,w.alloc (.cells (Tr.cells h v3 v4 v6 v7 v9 v10) 30) = z := ⟨_,rfl⟩;have hb0 : Below w.heap.size w W0 := by rw [← hW0]; exact (Below.refl _ _).alloc (Nat.le_refl _) _
 obtain ⟨hIs,hEn,hKe⟩ := Wt.boxed hW hE (Tr.cells h v3 v4 v6 v7 v9 v10);rw [hW0] at hIs hEn hKe;have KN := fun hk => Wt.Text_any h l.length _ v3 v4 v6 v7 v9 W0 (hH.kept (Tr.Kept.all hb0 (Nat.le_refl _))) hsh hk;have KW : ∀ w1,Below W0.heap.size W0 w1 → ∀ (s : ByteArray) (u : List UInt8),s = ⟨u.toArray⟩ → u.length ≤ 16777216 → Calls Tryz.prog 56 #[.pointer (some ⟨b,0,none⟩),.string s] w1 fun e w' => e = .returned (.tuple #[.int .i64 s.size,.nilIface]) ∧ (Wr.At B b (.pointer (some ⟨b,0,none⟩)) m (bs ++ Lib.byteCells u) w' ∧ Wt.Kept B b w w' ∧ Wt.Kept B b W0 w') := by
  intro w1 hb1 s u hs hu;subst hs;have hz := hb0.size;have hz1 := hb1.size;refine (Wt.writeString B b m bs _ w1 (hIs.keptBelow hb1) (by show _ + (List.toArray _).size ≤ _; simp; omega) (by omega)).mono ?_;rintro e w2 ⟨rfl,h2,k2⟩;rw [Wt.strCells_str] at h2;have k3 := (Wt.Kept.below hb1 (by omega)).trans k2;exact ⟨rfl,h2,(hKe _ k3).2,k3⟩
 have HW := Lib.hid KW;have HIS := Lib.hid hIs;have HEN := Lib.hid hEn;have HKE := Lib.hid (fun w' hk => (hKe w' hk).2);have HKC := Lib.hid (fun w' hk => (hKe w' hk).1 8);obtain ⟨dd,_⟩ := hKe W0 (Wt.Kept.refl _ _ _);obtain ⟨k,n,s1,t1,b1,s2,t2,b2,x,raw⟩ := h;unfold Tr.cells at dd hW0 ⊢;have q0 := dd 0;have q1 := dd 1;have q2 := dd 2;have q3 := dd 3;have q4 := dd 4;have q5 := dd 5;have q6 := dd 6;have q7 := dd 7;have q8 := dd 8;have HSH := Lib.hid hsh;have HOWN := Lib.hid hown;clear KW hIs hEn hKe dd hH hL hW hE hg hf hlen hgl hfl hb0 hsh hown;simp only at h7 h8 h9 hk11 hx KN;have hcase : k = 1 ∨ k = 2 ∨ k = 3 ∨ k = 4 ∨ k = 5 ∨ k = 6 ∨ k = 10 ∨ k = 11 := by omega
 clear h7 h8 h9 hk11;rcases hcase with rfl | rfl | rfl | rfl | rfl | rfl | rfl | rfl
 · clear KN;go_enter Tryz.func30,Tryz.ntmps30;go_wp2_with fail;refine (HW.out _ (Below.refl _ _) _ [40,41] rfl (by decide)).mono ?_;rintro e w2 ⟨rfl,h2,k2,k3⟩;go_wp2_with fail;go_end0;exact ⟨rfl,h2,k2⟩
 · clear KN;have hn : n = 0 ∨ n = 1 := by
    have := HOWN.out;simp [Tr.own] at this;exact this.1
   have HBD : Hid (∀ o,Below W0.heap.size W0 (W0.alloc o).drew) := Lib.hid (fun o => Below.drew ((Below.refl _ _).alloc (Nat.le_refl _) o));have hq : ∀ o,(W0.alloc o).drew.cell? ⟨w.heap.size,1,none⟩ = some (.int .i64 n) := fun o => by
    have hlt := World.block_lt_of_cell? W0 _ q1;have := (HBD.out o).cell (p := ⟨w.heap.size,1,none⟩) hlt;rw [this];exact q1
   rcases hn with rfl | rfl
   · go_enter Tryz.func30,Tryz.ntmps30;go_wp2_with fail;go_region_with (go_at_call 56; refine (HW.out _ (HBD.out _) _ [35,102] rfl (by decide)).mono ?_; rintro e w2 ⟨rfl,h2,k2,k3⟩);all_goals
      go_wp2_with fail;go_end0;exact ⟨rfl,h2,k2⟩
   · go_enter Tryz.func30,Tryz.ntmps30;go_wp2_with fail;go_region_with (go_at_call 56; refine (HW.out _ (HBD.out _) _ [35,116] rfl (by decide)).mono ?_; rintro e w2 ⟨rfl,h2,k2,k3⟩);all_goals
      go_wp2_with fail;go_end0;exact ⟨rfl,h2,k2⟩
 · have KT := Lib.hid (KN rfl);clear KN;have hnl := Wt.num_len HSH.out rfl;obtain ⟨N,hN⟩ : ∃ z,Wt.num ⟨3,n,s1,t1,b1,s2,t2,b2,x,raw⟩ = z := ⟨_,rfl⟩;rw [hN] at KT hnl;have HN := Lib.hid hN;clear hN;go_enter Tryz.func30,Tryz.ntmps30;go_wp2_with fail;refine KT.out.mono ?_;rintro e w1 ⟨rfl,hb1⟩;go_wp2_with fail;refine (HW.out _ hb1 _ N rfl (by omega)).mono ?_;rintro e w2 ⟨rfl,h2,k2,k3⟩;go_wp2_with fail;go_end0;refine ⟨rfl,?_,k2⟩;rw [← HN.out] at h2;exact h2
 · clear KN;have hok := Wt.shape_char HSH.out rfl;have hok : Ru.okR n := hok;obtain ⟨r,rfl⟩ := Int.eq_ofNat_of_zero_le (a := n) (by unfold Ru.okR at hok; omega);have hwr : IntKind.i32.wrap (r : Int) = r := by rw [IntKind.wrap_i32]; unfold Ru.okR at hok; omega
   have KC := Lib.hid (Wt.char_any B b m bs r W0 HIS.out HEN.out.bits hok (by omega));clear hok;go_enter Tryz.func30,Tryz.ntmps30;go_wp2_with fail;refine KC.out.mono ?_;rintro e w2 ⟨rfl,h2,k2⟩;go_wp2_with fail;go_end0;exact ⟨rfl,h2,HKE.out _ k2⟩
 · clear KN;have KC := Lib.hid (Wt.text_any B b m bs x W0 HIS.out HEN.out.bits HEN.out.lt.1 hx hlen2);go_enter Tryz.func30,Tryz.ntmps30;go_wp2_with fail;refine KC.out.mono ?_;rintro e w2 ⟨rfl,h2,k2⟩;go_wp2_with fail;go_end0;exact ⟨rfl,h2,HKE.out _ k2⟩
 · clear KN;have KC := Lib.hid (Wt.symbol_any B b m bs x W0 HIS.out HEN.out.bits HEN.out.lt.1 hx hlen2);go_enter Tryz.func30,Tryz.ntmps30;go_wp2_with fail;refine KC.out.mono ?_;rintro e w2 ⟨rfl,h2,k2⟩;go_wp2_with fail;go_end0;exact ⟨rfl,h2,HKE.out _ k2⟩
 · clear KN;go_enter Tryz.func30,Tryz.ntmps30;go_wp2_with fail;refine (HW.out _ (Below.refl _ _) _ [35,60,118,111,105,100,62] rfl (by decide)).mono ?_;rintro e w2 ⟨rfl,h2,k2,k3⟩;go_wp2_with fail;go_end0;exact ⟨rfl,h2,k2⟩
 · clear KN;have hz1 : (9223372036854775807 < 2 + x.size) = False := eq_false (by omega);have hz2 : (9223372036854775807 < 2 + x.size + 1) = False := eq_false (by omega);have hxe : (⟨#[35,60]⟩ ++ x ++ ⟨#[62]⟩ : ByteArray) = ⟨([35,60] ++ (x.data.toList ++ [62])).toArray⟩ := by
    apply ByteArray.ext;first | (simp; done) | (simp; apply Array.ext'; simp)
   have hxl : ([35,60] ++ (x.data.toList ++ [62]) : List UInt8).length ≤ 16777216 := by
    have : x.data.toList.length = x.size := Array.length_toList;simp only [List.length_append,List.length_cons,List.length_nil];omega
   have HX := Lib.hid (And.intro hxe hxl);clear hxe hxl;go_enter Tryz.func30,Tryz.ntmps30;go_wp2_with fail;go_region_held3 (fun w' => w'.cell? ⟨w.heap.size,8,none⟩ = some (.string x))
    (first | exact q8 | exact hkeep)
    (first
      | (go_at_call 56
         refine (HW.out _ (Below.drew (Below.refl _ _)) _ _ HX.out.1 HX.out.2).mono ?_
         rintro e w2 ⟨rfl,h2,k2,k3⟩
         have hkeep : w2.cell? ⟨w.heap.size,8,none⟩ = some (.string x) := HKC.out _ k3))
   go_wp2_with fail;go_end0;exact ⟨rfl,h2,k2⟩
end Go.Proofs.YteklhapffplohaaGreatDoor
