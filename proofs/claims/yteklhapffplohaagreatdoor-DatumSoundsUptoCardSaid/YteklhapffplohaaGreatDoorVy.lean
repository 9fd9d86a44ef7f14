/-
  The reader's bytes: the plain parts; what data hold that are read. The reader's bytes.
-/
import Derived.Test.YteklhapffplohaaGreatDoorVn
import Derived.Test.YteklhapffplohaaGreatDoorVk
import Derived.Test.YteklhapffplohaaGreatDoorVu
import Derived.Test.YteklhapffplohaaGreatDoorVm
set_option linter.unusedVariables false
set_option linter.unusedSimpArgs false
namespace Go.Proofs.YteklhapffplohaaGreatDoor
open Go.RowKit
def Dr.okF (f : Dr.Fr) : Prop := 0 < f.2.2 ∧ Nat.gcd f.2.1 f.2.2 = 1 ∧ (f.2.1 = 0 → f.1 = false)
theorem Dr.okF_whole (neg : Bool) (t : Nat) : Dr.okF (Dr.whole neg t) := by
 refine ⟨by show 0 < 1; decide,by show Nat.gcd t 1 = 1; simp,fun h => ?_⟩;have h : t = 0 := h;show (neg && decide (0 < t)) = false;rw [h];simp
theorem Dr.okF_rat (neg : Bool) (t b : Nat) (hb : b ≠ 0) : Dr.okF (Dr.ratS neg t b) := by
 have hg : 0 < Nat.gcd t b := Nat.gcd_pos_of_pos_right t (by omega);refine ⟨Nat.div_pos (Nat.le_of_dvd (by omega) (Nat.gcd_dvd_right t b)) hg,Nat.coprime_div_gcd_div_gcd hg,fun h => ?_⟩;have h : t / Nat.gcd t b = 0 := h;show (neg && decide (0 < t / Nat.gcd t b)) = false;rw [h];simp
theorem Dr.okF_frac {rx : Nat} {neg : Bool} {s : List UInt8} {w : Int} {x : Dr.Fr × List UInt8 × Int} (h : Dr.frac rx neg s w = some x) : Dr.okF x.1 := by
 unfold Dr.frac at h;split at h
 · cases h
 · split at h
   · split at h
     · cases h
     · split at h
       · simp only [Option.some.injEq] at h; rw [← h]; exact Dr.okF_whole _ _
       · rename_i hb;simp only [Option.some.injEq] at h; rw [← h]; exact Dr.okF_rat _ _ _ hb
   · simp only [Option.some.injEq] at h; rw [← h]; exact Dr.okF_whole _ _
theorem Dr.okF_number {rx : Nat} {s : List UInt8} {x : Dr.Fr × Dr.Fr × Int} (h : Dr.number rx s = some x) : Dr.okF x.1 ∧ Dr.okF x.2.1 := by
 unfold Dr.number at h;dsimp only at h;split at h
 · simp only [Option.some.injEq] at h; rw [← h]; exact ⟨Dr.okF_whole _ _,Dr.okF_whole _ _⟩
 · split at h
   · cases h
   · rename_i hf;have h1 := Dr.okF_frac hf;split at h
     · simp only [Option.some.injEq] at h; rw [← h]; exact ⟨h1,Dr.okF_whole _ _⟩
     · split at h
       · simp only [Option.some.injEq] at h; rw [← h]; exact ⟨Dr.okF_whole _ _,h1⟩
       · split at h
         · cases h
         · split at h
           · simp only [Option.some.injEq] at h; rw [← h]; exact ⟨h1,Dr.okF_whole _ _⟩
           · split at h
             · cases h
             · rename_i hf2;have h2 := Dr.okF_frac hf2;split at h
               · simp only [Option.some.injEq] at h; rw [← h]; exact ⟨h1,h2⟩
               · cases h
theorem Dr.num_snd {t : List UInt8} {re im : Dr.Fr} (h : Dr.num t = .ok re im) : Rt.Snd re.1 re.2.1 re.2.2 ∧ Rt.Snd im.1 im.2.1 im.2.2 := by
 have hl := Dr.num_len h;have hk : Dr.okF re ∧ Dr.okF im := by
  unfold Dr.num at h;split at h
  · cases h
  · split at h
    · cases h
    · rename_i hn;have := Dr.okF_number hn;split at h
      · cases h
      · split at h
        · cases h
        · cases h;exact this
 exact ⟨⟨hl.1,hl.2.1,hk.1.1,hk.1.2.1,hk.1.2.2⟩,⟨hl.2.2.1,hl.2.2.2,hk.2.1,hk.2.2.1,hk.2.2.2⟩⟩
def Dr.okH (h : Tr.Hd) : Prop := (h.k = 3 → ∃ re im : Dr.Fr,h = ⟨3,0,re.1,Nt.dig re.2.1,Nt.dig re.2.2,im.1,Nt.dig im.2.1,Nt.dig im.2.2,⟨#[]⟩,⟨#[]⟩⟩ ∧ Rt.Snd re.1 re.2.1 re.2.2 ∧ Rt.Snd im.1 im.2.1 im.2.2) ∧ (h.k ≠ 3 → h.b1 = [])
theorem Dr.ok_leaf (k n : Int) (x : List UInt8) (h : k ≠ 3) : Dr.okH (Dr.leaf k n x).hd := ⟨fun e => absurd e h,fun _ => rfl⟩
theorem Dr.ok_atom {t : List UInt8} {x : Tr × Bool} (h : Dr.atom t = some x) : Dr.okH x.1.hd := by
 unfold Dr.atom at h;split at h
 · simp only [Option.some.injEq] at h; rw [← h]; exact Dr.ok_leaf _ _ _ (by decide)
 · split at h
   · simp only [Option.some.injEq] at h; rw [← h]; exact Dr.ok_leaf _ _ _ (by decide)
   · split at h
     · simp only [Option.some.injEq] at h; rw [← h]; exact Dr.ok_leaf _ _ _ (by decide)
     · split at h
       · rename_i hn;simp only [Option.some.injEq] at h; rw [← h];exact ⟨fun _ => ⟨_,_,rfl,Dr.num_snd hn⟩,fun e => absurd rfl e⟩
       · split at h
         · simp only [Option.some.injEq] at h; rw [← h]; exact Dr.ok_leaf _ _ _ (by decide)
         · split at h
           · cases h
           · cases hs : Dr.symbol t with
             | none => rw [hs] at h; cases h
             | some y =>
               rw [hs] at h;simp only [Option.map_some,Option.some.injEq] at h;rw [← h]; exact Dr.ok_leaf _ _ _ (by decide)
theorem Dr.ok_cons (a r : Tr) : Dr.okH (Dr.cons a r).hd := ⟨fun e => absurd (show (8 : Int) = 3 from e) (by decide),fun _ => rfl⟩
theorem Dr.ok_list {ts : List Tr} {last : Tr} (h : ts ≠ [] ∨ last = Dr.nil) : Dr.okH (Dr.listT ts last).hd := by
 cases ts with
 | nil => rw [h.resolve_left (fun h => h rfl)]; exact Dr.ok_leaf _ _ _ (by decide)
 | cons a l => exact Dr.ok_cons _ _
theorem Dr.pk_fresh {e : Int} {l r : List UInt8} (h : Dr.pk e true l = .dot r) : False := by
 unfold Dr.pk at h;split at h
 · cases h
 · split at h
   · cases h
   · split at h
     · cases h
     · split at h
       · rename_i h1; simp at h1
       · cases h
theorem Dr.lst_ok {e : Int} {l : List UInt8} {ts : List Tr} {last : Tr} {r : List UInt8} {big : Bool} (h : Dr.Rel (.pairs e true l) (.lst ts last r big)) : ts ≠ [] ∨ last = Dr.nil := by
 cases h with
 | pStop h h2 => exact .inr rfl
 | pDot5 h h2 => exact (Dr.pk_fresh h2).elim
 | pItem3 => exact .inl (by simp)
theorem Dr.dk_ok {l r : List UInt8} {t : Tr} {big : Bool} (h : Dr.dk l = .done t r big) : Dr.okH t.hd := by
 unfold Dr.dk at h;split at h
 · cases h
 · split at h
   · cases h
   · split at h
     · cases h
     · split at h
       · split at h
         · cases h
         · cases h; exact Dr.ok_leaf _ _ _ (by decide)
       · split at h
         · cases h
         · split at h
           · cases h
           · split at h
             · cases h
             · split at h
               · split at h
                 · cases h
                 · cases h; exact Dr.ok_leaf _ _ _ (by decide)
               · split at h
                 · cases h
                 · split at h
                   · cases h
                   · rename_i ha;cases h;exact Dr.ok_atom ha
theorem Dr.got_ok {l r : List UInt8} {t : Tr} {big : Bool} (h : Dr.Rel (.datum l) (.got t r big)) : Dr.okH t.hd := by
 cases h with
 | dDone h => exact Dr.dk_ok h
 | dPairs2 h h2 => exact Dr.ok_list (Dr.lst_ok h2)
 | dQuote3 => exact Dr.ok_cons _ _
 | dVec2 => exact ⟨fun e => absurd (show (9 : Int) = 3 from e) (by decide),fun _ => rfl⟩
 | dByt3 => exact ⟨fun e => absurd (show (7 : Int) = 3 from e) (by decide),fun _ => rfl⟩
theorem Dr.items_ok : ∀ (n : Nat) (e : Int) (l : List UInt8) (ts : List Tr) (r : List UInt8) (big : Bool),l.length ≤ n → Dr.Rel (.items e l) (.list ts r big) → ∀ t ∈ ts,Dr.okH t.hd
 | n,e,l,ts,r,big,hn,h => by
   cases h with
   | iStop => intro t ht; cases ht
   | @iItem3 _ _ r1 t r2 b1 ts' _ b2 h1 h2 h3 h4 =>
     have hl1 : r1.length ≤ l.length := by
      rcases Dr.skips h1 with e | ⟨r',e,h⟩
      · cases e
      · cases e; exact h
     have hl2 : r2.length < r1.length := by
      rcases Dr.gots h3 with e | ⟨_,_,_,e,h⟩
      · cases e
      · cases e; exact h
     cases n with
     | zero => omega
     | succ n =>
       have ih := Dr.items_ok n e r2 ts' r b2 (by omega) h4;intro u hu;rcases List.mem_cons.1 hu with rfl | hu
       · exact Dr.got_ok h3
       · exact ih u hu
def Dr.smallH (h : Tr.Hd) : Option Nat := if h.k = 3 then Dr.smallO h.s1 (Nt.val h.t1) (Nt.val h.b1) (Nt.val h.t2) else none
theorem Dr.byteOf_eq (t : Tr) : Dr.byteOf t = (Dr.smallH t.hd).map UInt8.ofNat := by
 cases t with
 | mk h l =>
   show (if h.k = 3 ∧ Nt.val h.t2 = 0 ∧ Nt.val h.b1 = 1 ∧ Nt.val h.t1 ≤ 255 ∧ (h.s1 = true → Nt.val h.t1 = 0) then some (UInt8.ofNat (Nt.val h.t1)) else none) = (Dr.smallH h).map UInt8.ofNat;unfold Dr.smallH Dr.smallO;by_cases h3 : h.k = 3
   · rw [if_pos h3];by_cases h4 : Nt.val h.t2 = 0 ∧ Nt.val h.b1 = 1 ∧ Nt.val h.t1 ≤ 255 ∧ (h.s1 = true → Nt.val h.t1 = 0)
     · rw [if_pos ⟨h3,h4⟩,if_pos h4]; rfl
     · rw [if_neg (fun h => h4 h.2),if_neg h4]; rfl
   · rw [if_neg (fun h => h3 h.1),if_neg h3]; rfl
theorem Dr.Small_hd {w : World} {S : Nat → Prop} {h : Tr.Hd} {v3 v4 v6 v7 v9 : Value} (hI : Tr.Hd.In w S h v3 v4 v6 v7 v9) (hok : Dr.okH h) : Calls Tryz.prog 70 #[.agg #[.bool h.s1,v3,v4,.bool h.s2,v6,v7]] w (Dr.PostSm (Dr.smallH h) w) := by
 by_cases h3 : h.k = 3
 · obtain ⟨re,im,e,s1,s2⟩ := hok.1 h3;subst e;have := Dr.Small_snd re.1 re.2.1 re.2.2 im.1 im.2.1 im.2.2 _ w ⟨v3,v4,v6,v7,rfl,hI.i3,hI.i4,hI.i6,hI.i7⟩ s1 s2;unfold Dr.smallH;rw [if_pos h3];show Calls _ _ _ _ (Dr.PostSm (Dr.smallO re.1 (Nt.val (Nt.dig re.2.1)) (Nt.val (Nt.dig re.2.2)) (Nt.val (Nt.dig im.2.1))) w);rw [Nt.val_dig,Nt.val_dig,Nt.val_dig];exact this
 · have hb := hok.2 h3;unfold Dr.smallH;rw [if_neg h3];have hG : Rt.GN w (.agg #[.bool h.s1,v3,v4,.bool h.s2,v6,v7]) h.s1 h.t1 h.b1 h.s2 h.t2 h.b2 := ⟨⟨v3,v4,v6,v7,rfl,hI.i3,hI.i4,hI.i6,hI.i7⟩,⟨hI.ok.w1,hI.ok.w2,hI.ok.l1,hI.ok.l2⟩,⟨hI.ok.w3,hI.ok.w4,hI.ok.l3,hI.ok.l4⟩⟩;have hs : Rt.soundN h.s1 h.t1 h.b1 h.s2 h.t2 h.b2 = false := by
    unfold Rt.soundN Rt.sound;rw [hb];simp
   obtain ⟨a3,c3,e3⟩ := hI.i3.slice;obtain ⟨a4,c4,e4⟩ := hI.i4.slice;obtain ⟨a6,c6,e6⟩ := hI.i6.slice;obtain ⟨a7,c7,e7⟩ := hI.i7.slice;refine Dr.Small_form _ w (fun w' hb' => ?_) #[.bool h.s1,v3,v4,.bool h.s2,v6,v7] rfl ⟨_,_,_,_,_,_,_,_,_,_,_,_,_,_,by rw [e3,e4,e6,e7]⟩;have := Rt.Sound_any _ _ _ _ _ _ _ w' (hG.below hb' (Nat.le_refl _));rw [hs] at this;exact this
theorem Dr.bytes_step {ts : List Tr} {k : Nat} {t : Tr} {bs : List UInt8} (h : ts[k]? = some t) (hb : Dr.bytesOf ts = (Dr.bytesOf (ts.drop k)).map (bs ++ ·)) :
 (Dr.byteOf t = none → Dr.bytesOf ts = none) ∧ (∀ x,Dr.byteOf t = some x → Dr.bytesOf ts = (Dr.bytesOf (ts.drop (k + 1))).map ((bs ++ [x]) ++ ·)) := by
 obtain ⟨hlt,he⟩ := List.getElem?_eq_some_iff.1 h
 rw [List.drop_eq_getElem_cons hlt,he] at hb
 refine ⟨fun hn => ?_,fun x hx => ?_⟩
 · rw [hb,Dr.bytesOf,hn]; rfl
 · rw [hb,Dr.bytesOf,hx];show Option.map _ (Option.map _ (Dr.bytesOf (ts.drop (k + 1)))) = _;rw [Option.map_map];congr 1;funext y;simp
def Dr.PostY (b : Nat) (S : ByteArray) (g : Bool) (w : World) (R : Dr.Res) (x : Ending) (w' : World) : Prop :=
 match R with
 | .fault => x = Dr.dead ∧ Dr.Kept b w w'
 | .list ts r big => (match Dr.bytesOf ts with
   | none => x = Dr.dead ∧ Dr.Kept b w w'
   | some bs => ∃ v,x = .returned v ∧ Tr.In w' (fun q => w.heap.size ≤ q) (Dr.bytesT bs) v ∧ Dr.At b S r (g || big) w' ∧ Dr.Kept b w w')
 | _ => False
theorem Dr.PostY.got_no {b : Nat} {S : ByteArray} {g : Bool} {w w' : World} {ts : List Tr} {r : List UInt8} {big : Bool} {x : Ending} (hb : Dr.bytesOf ts = none) (h : Dr.PostY b S g w (.list ts r big) x w') : x = Dr.dead ∧ Dr.Kept b w w' := by
 unfold Dr.PostY at h;dsimp only at h;rw [hb] at h;exact h
theorem Dr.PostY.got_yes {b : Nat} {S : ByteArray} {g : Bool} {w w' : World} {ts : List Tr} {r : List UInt8} {big : Bool} {x : Ending} {bs : List UInt8} (hb : Dr.bytesOf ts = some bs) (h : Dr.PostY b S g w (.list ts r big) x w') : ∃ v,x = .returned v ∧ Tr.In w' (fun q => w.heap.size ≤ q) (Dr.bytesT bs) v ∧ Dr.At b S r (g || big) w' ∧ Dr.Kept b w w' := by
 unfold Dr.PostY at h;dsimp only at h;rw [hb] at h;exact h
theorem Dr.PostY.of_no {b : Nat} {S : ByteArray} {g : Bool} {w w' : World} {ts : List Tr} {r : List UInt8} {big : Bool} {x : Ending} (hb : Dr.bytesOf ts = none) (h : x = Dr.dead ∧ Dr.Kept b w w') : Dr.PostY b S g w (.list ts r big) x w' := by
 unfold Dr.PostY;dsimp only;rw [hb];exact h
theorem Dr.PostY.of_yes {b : Nat} {S : ByteArray} {g : Bool} {w w' : World} {ts : List Tr} {r : List UInt8} {big : Bool} {x : Ending} {bs : List UInt8} (hb : Dr.bytesOf ts = some bs) (h : ∃ v,x = .returned v ∧ Tr.In w' (fun q => w.heap.size ≤ q) (Dr.bytesT bs) v ∧ Dr.At b S r (g || big) w' ∧ Dr.Kept b w w') : Dr.PostY b S g w (.list ts r big) x w' := by
 unfold Dr.PostY;dsimp only;rw [hb];exact h
theorem Dr.byt_in {w : World} {S : Nat → Prop} {bs : List UInt8} {v : Value} {B : Nat} (h : w.ownsRow B 5 1 v bs.length (By.bv bs)) (hS : ∀ q,B ≤ q → S q) (hl : bs.length ≤ 1048576) : Tr.In w S (Dr.bytesT bs) (.agg #[.int .i64 7,.int .i64 0,.bool false,.slice none 0 0,.slice none 0 0,.bool false,.slice none 0 0,.slice none 0 0,.string ⟨#[]⟩,v,.slice none 0 0]) := by
 unfold Dr.bytesT;rw [Tr.In_mk];refine ⟨.slice none 0 0,.slice none 0 0,.slice none 0 0,.slice none 0 0,v,.slice none 0 0,rfl,⟨⟨show (-9223372036854775808 : Int) ≤ 7 by decide,show (7 : Int) ≤ 9223372036854775807 by decide,show (-9223372036854775808 : Int) ≤ 0 by decide,show (0 : Int) ≤ 9223372036854775807 by decide,fun x h => by simp at h,fun x h => by simp at h,fun x h => by simp at h,fun x h => by simp at h,Nat.zero_le _,Nat.zero_le _,Nat.zero_le _,Nat.zero_le _,Nat.zero_le _,?_⟩,.inl ⟨rfl,rfl⟩,.inl ⟨rfl,rfl⟩,.inl ⟨rfl,rfl⟩,.inl ⟨rfl,rfl⟩,By.In.of_bv h,fun h => absurd h (Nat.lt_irrefl 0),fun h => absurd h (Nat.lt_irrefl 0),fun h => absurd h (Nat.lt_irrefl 0),fun h => absurd h (Nat.lt_irrefl 0),?_⟩,.inl ⟨rfl,rfl⟩⟩
 · show bs.toArray.size ≤ 140737488355328;simp;omega
 · intro _ q off l cap e;rcases h.2 with ⟨e2,_⟩ | ⟨g,cap2,cur,e2,hg,_⟩
   · rw [e2] at e; cases e
   · rw [e2] at e;cases e;exact hS _ hg
theorem Dr.info8 : (Tryz.prog.info? 5).map (fun i => (i.zero,i.size,i.bytes)) = some (some (.int .u8 0),1,1) := by kernel_rfl
theorem Dr.bv_one (m : Nat) (h : m ≤ 255) : By.bv [UInt8.ofNat m] = [.int .u8 (m : Int)] := by
 show [Value.int .u8 ((UInt8.ofNat m).toNat : Int)] = _;rw [show (UInt8.ofNat m).toNat = m from by simp; omega]
set_option maxHeartbeats 4000000
set_option maxRecDepth 1000000
theorem Dr.bytes_any (l : List UInt8) (HI : Dr.Con (.items 41 l)) (b : Nat) (S : ByteArray) (g : Bool) (w : World) (R : Dr.Res) (h : Dr.At b S l g w) (hs : S.size ≤ 1048576) (hT : Dr.Tabs w) (hR : Dr.Rel (.items 41 l) R) :
 Calls Tryz.prog 42 #[.pointer (some ⟨b,0,none⟩)] w fun e w' => Dr.PostY b S g w R e w' := by
 obtain ⟨B,hB⟩ : ∃ z,w.heap.size = z := ⟨_,rfl⟩
 have hal : Below w.heap.size w (w.alloc (.cells #[.int .i64 0,.int .i64 0,.bool false,.slice none 0 0,.slice none 0 0,.bool false,.slice none 0 0,.slice none 0 0,.string ⟨#[]⟩,.slice none 0 0,.slice none 0 0] 30)) := (Below.refl _ _).alloc (Nat.le_refl _) _
 have hz1 : (w.alloc (.cells #[.int .i64 0,.int .i64 0,.bool false,.slice none 0 0,.slice none 0 0,.bool false,.slice none 0 0,.slice none 0 0,.string ⟨#[]⟩,.slice none 0 0,.slice none 0 0] 30)).heap.size = B + 1 := by simp [hB]
 have hq1 := heap_alloc_new w (.cells #[.int .i64 0,.int .i64 0,.bool false,.slice none 0 0,.slice none 0 0,.bool false,.slice none 0 0,.slice none 0 0,.string ⟨#[]⟩,.slice none 0 0,.slice none 0 0] 30)
 obtain ⟨w1,hw1⟩ : ∃ z,(w.alloc (.cells #[.int .i64 0,.int .i64 0,.bool false,.slice none 0 0,.slice none 0 0,.bool false,.slice none 0 0,.slice none 0 0,.string ⟨#[]⟩,.slice none 0 0,.slice none 0 0] 30)) = z := ⟨_,rfl⟩
 rw [hw1] at hal hq1 hz1
 have hbB : B ≠ b := by have := h.lt; omega
 have hbx1 : Dr.Box0 w.heap.size w1 := hq1
 rw [hB] at hbx1
 have HBX := Lib.hid (fun (w' : World) (hk : Dr.Kept b w1 w') => hbx1.kept hk hbB)
 have HK1 := Lib.hid (show Dr.Kept b w w1 from Dr.Kept.of_below hal)
 have HNB := Lib.hid hbB
 have HZ1 := Lib.hid hz1
 have HHB := Lib.hid hB
 have KI := Lib.hid (HI b S g w1 R (h.below hal) hs (Utf8Tabs_below hT hal) hR rfl)
 have HR := Lib.hid hR
 have HS := Lib.hid hs
 have HLE := Lib.hid h.le
 have KS := Lib.hid (fun v w' => Dr.stop_any v w')
 obtain ⟨i0,hi,hz0,hz1',hz2⟩ := info_parts Dr.info8
 clear h hs hT hR hal hq1 hbx1 hbB HI hz1
 go_enter Tryz.func42,Tryz.ntmps42
 go_wp2_with fail
 rcases Dr.its HR.out with hRf | ⟨ts,r,big,hRl⟩
 · subst hRf;refine KI.out.mono ?_;rintro x w5 ⟨rfl,hK5⟩;have HE := Lib.hid (show Dr.PostY b S g w .fault Dr.dead w5 from ⟨rfl,HK1.out.trans hK5⟩);clear hK5 KI HBX HK1;unfold Dr.dead at *;go_wp2_with fail;exact ⟨rfl,HE.out⟩
 subst hRl
 refine KI.out.mono ?_
 rintro x w5 ⟨lv,rfl,hL5,hlen,hA5,hK5⟩
 obtain ⟨n,hn⟩ : ∃ z,ts.length = z := ⟨_,rfl⟩
 obtain ⟨ad,cap,rfl,_,_⟩ := Tr.Sl.slice hL5
 have HL5 := Lib.hid hL5
 have HA5 := Lib.hid hA5
 have HK5 := Lib.hid hK5
 have HOK := Lib.hid (Dr.items_ok _ _ _ _ _ _ (Nat.le_refl _) HR.out)
 have HN := Lib.hid hn
 have hnS : n ≤ 1048576 := by have := HS.out; omega
 have HDEAD := Lib.hid (fun (w' : World) (hb : Below w5.heap.size w5 w') (hby : Dr.bytesOf ts = none) => show Dr.PostY b S g w (.list ts r big) Dr.dead w' from Dr.PostY.of_no hby ⟨rfl,HK1.out.trans (HK5.out.trans (Dr.Kept.of_below hb))⟩)
 have hB5 : B + 1 ≤ w5.heap.size := by have := hK5.size; have := HZ1.out; omega
 have HB5 := Lib.hid hB5
 have H0 := Lib.hid (show ∃ (k : Nat) (bs : List UInt8),Value.int .i64 0 = .int .i64 (k : Int) ∧ k ≤ n ∧ bs.length = k ∧ Dr.bytesOf ts = (Dr.bytesOf (ts.drop k)).map (bs ++ ·) ∧ w5.ownsRow w5.heap.size 5 1 (.slice none 0 0) bs.length (By.bv bs) ∧ Below w5.heap.size w5 w5 from
   ⟨0,[],rfl,Nat.zero_le _,rfl,by simp,⟨rfl,.inl ⟨rfl,rfl⟩⟩,Below.refl _ _⟩)
 rw [hn]
 clear hL5 hlen hA5 hK5 hn KI hB5
 go_wp2_with fail
 go_loopw [3,11] (fun v3 v11 wr => ∃ (k : Nat) (bs : List UInt8),v11 = .int .i64 (k : Int) ∧ k ≤ n ∧ bs.length = k ∧ Dr.bytesOf ts = (Dr.bytesOf (ts.drop k)).map (bs ++ ·) ∧ wr.ownsRow w5.heap.size 5 1 v3 bs.length (By.bv bs) ∧ Below w5.heap.size w5 wr) (fun _ v11 _ => n - (intOf v11).toNat)
 case atStart => exact H0.out
 case round =>
  obtain ⟨k,bs,rfl,hk,hbl,hby,hown,hbw⟩ := hrel
  obtain ⟨oa,oc,rfl⟩ := Dr.own_slice hown
  rw [hbl] at hown ⊢
  clear H0
  by_cases hlt : k < n
  · obtain ⟨t,ht⟩ : ∃ t,ts[k]? = some t := ⟨_,List.getElem?_eq_getElem (by rw [HN.out]; omega)⟩;have hok := HOK.out t (List.mem_of_getElem? ht);have hstep := Dr.bytes_step ht hby;rw [Dr.byteOf_eq] at hstep;have hL6 : Tr.LIn wr (fun q => w1.heap.size ≤ q) ts (.slice ad ts.length cap) := Tr.LIn.kept HL5.out (Tr.Kept.all hbw (Nat.le_refl _));rw [HN.out] at hL6;obtain ⟨bL,off,rfl,hnn,_,_,hblt,hSb,hall⟩ := Tr.Sl.at hL6 (by rw [HN.out]; omega);clear hnn;obtain ⟨Ck,hIk,hMk⟩ := Tr.All.at _ _ _ hall k t ht;rw [Nat.mul_comm 11 k] at hMk;obtain ⟨he,le,f3,f4,f6,f7,f9,f10,p3,p4,p6,p7,p9,p10,o3,o4,o6,o7,o9,o10,eCb,et,hHd,_⟩ := Tr.In.form2 hIk;subst eCb;subst et;unfold Tr.cells at *;obtain ⟨e0,e1,e2,e3,e4,e5,e6,e7,e8,e9,e10⟩ := Tr.Mem.cells hMk;have KSM := Lib.hid (fun w' (hb : Below wr.heap.size wr w') => Dr.Small_hd (hHd.kept (Tr.Kept.all hb (Nat.le_refl _))) hok);have hsz : w5.heap.size ≤ wr.heap.size := hbw.size;obtain ⟨w6,hw6⟩ : ∃ z,wr.alloc (.cells #[.int .i64 he.k,.int .i64 he.n,.bool he.s1,.slice f3 p3 o3,.slice f4 p4 o4,.bool he.s2,.slice f6 p6 o6,.slice f7 p7 o7,.string he.x,.slice f9 p9 o9,.slice f10 p10 o10] 30) = z := ⟨_,rfl⟩;have hal6 : Below wr.heap.size wr w6 := by rw [← hw6]; exact (Below.refl _ _).alloc (Nat.le_refl _) _
    have hq6 : w6.heap[wr.heap.size]? = some (.cells #[.int .i64 he.k,.int .i64 he.n,.bool he.s1,.slice f3 p3 o3,.slice f4 p4 o4,.bool he.s2,.slice f6 p6 o6,.slice f7 p7 o7,.string he.x,.slice f9 p9 o9,.slice f10 p10 o10] 30 (0,0)) := by rw [← hw6]; exact heap_alloc_new wr _
    have KSM1 := Lib.hid (KSM.out w6 hal6);have HQ6 := Lib.hid (And.intro hq6 (Array.getElem?_eq_some_iff.1 hq6).1);have HOWN := Lib.hid (fun w' (hb : Below w6.heap.size w6 w') => show w'.ownsRow w5.heap.size 5 1 (.slice oa k oc) k (By.bv bs) from Dr.own_kept hown (fun q _ hq => (hal6.trans (hb.mono hal6.size)).block q hq));have HBW := Lib.hid (fun w' (hb : Below w6.heap.size w6 w') => show Below w5.heap.size w5 w' from hbw.trans ((hal6.trans (hb.mono hal6.size)).mono hsz));have HSTEP := Lib.hid hstep;have HBL := Lib.hid hbl;obtain ⟨k0,k1,k2,k3,k4,k5,k6,k7,k8,k9,k10⟩ := Dr.cells11 hq6;have hltI : (k : Int) < (n : Int) := by omega
    have hk0 : ∀ q,k = q + 1 → True := fun _ _ => trivial;clear hL6 hblt hSb hall hIk hMk hHd KSM hal6 hq6 hown hbw hstep hby hok ht hbl hk0;obtain ⟨off',hoff⟩ : ∃ z,z = off := ⟨_,rfl⟩;subst hoff;go_wp2_with fail;refine KSM1.out.mono ?_;rintro x w7 ⟨m,e,rfl,hb7,hm0,hm1,hme⟩;have HB7 := Lib.hid hb7;have hq7 := (hb7.block wr.heap.size HQ6.out.2).trans HQ6.out.1;clear k0 k1 k2 k3 k4 k5 k6 k7 k8 k9 k10;obtain ⟨k0,k1,k2,k3,k4,k5,k6,k7,k8,k9,k10⟩ := Dr.cells11 hq7;clear hb7 hq7 e0 e1 e2 e3 e4 e5 e6 e7 e8 e9 e10 KSM1;cases hsm : Dr.smallH he with
    | none =>
      have hbn := HSTEP.out.1 (by show (Dr.smallH he).map _ = none; rw [hsm]; rfl);have hways : (¬ he.k = 3) ∨ (he.k = 3 ∧ ¬ e = 0) ∨ (he.k = 3 ∧ e = 0 ∧ m < 0) ∨ (he.k = 3 ∧ e = 0 ∧ 0 ≤ m ∧ 255 < m) := by
       rw [hsm] at hme;have hme : e ≠ 0 ∨ m < 0 ∨ 255 < m := hme;omega
      have HE := Lib.hid (HDEAD.out w7 (HBW.out w7 HB7.out) hbn);clear hme hsm hbn HSTEP HOWN HBW HDEAD HBX HK1 HOK;rcases hways with h3 | ⟨h3,h0⟩ | ⟨h3,rfl,hm⟩ | ⟨h3,rfl,hm,hm2⟩;all_goals
       go_wp2_with fail;refine (KS.out _ _).mono ?_;rintro x w8 ⟨rfl,rfl⟩;unfold Dr.dead at *;go_wp2_with fail;exact ⟨rfl,HE.out⟩
    | some j =>
      rw [hsm] at hme;obtain ⟨rfl,rfl,hj⟩ := hme;have hk3 : he.k = 3 := by
       by_cases h3 : he.k = 3
       · exact h3
       · unfold Dr.smallH at hsm;rw [if_neg h3] at hsm;cases hsm
      have hbs := HSTEP.out.2 (UInt8.ofNat j) (by show (Dr.smallH he).map _ = _; rw [hsm]; rfl);have hjI : (j : Int) ≤ 255 := by omega
      have hj0 : (0 : Int) ≤ (j : Int) := by omega
      have hjw : IntKind.u8.wrap (j : Int) = (j : Int) := by rw [IntKind.wrap_u8]; omega
      have HBS := Lib.hid hbs;have hsz7 : w5.heap.size ≤ (w7.alloc (.cells #[.int .u8 (j : Int)] 5)).heap.size := by
       have h1 := (HBW.out w7 HB7.out).size;have h2 : (w7.alloc (.cells #[.int .u8 (j : Int)] 5)).heap.size = w7.heap.size + 1 := by simp
       omega
      have HSZ := Lib.hid hsz7;have HB8 := Lib.hid (HB7.out.alloc HB7.out.size (.cells #[.int .u8 (j : Int)] 5));clear hsm hbs HSTEP hsz7 hm0 hm1;go_wp2_with (at_builtin; refine Ls.wpList_append _ rfl _ _ 27 rfl w5.heap.size 5 i0 (.int .u8 0) 1 1 Tryz.underlying27 hi hz0 hz1' hz2 rfl (by decide) (.slice oa k oc) k (By.bv bs) (by rfl) (HOWN.out _ HB8.out) (.slice (some ⟨w7.heap.size,0,none⟩) 1 1) 1 [.int .u8 (j : Int)] (by rfl) (.inr ⟨_,_,rfl,rfl,World.news_of_block (heap_alloc_new _ _)⟩) (by intro u hu; simp only [List.mem_cons,List.not_mem_nil,or_false] at hu; rcases hu with rfl; rfl) (by simp only [maxLen]; omega) (by omega) HSZ.out ?_);intro v9 w9 hown9 hgr9 _;have HE := Lib.hid (show (∃ (k' : Nat) (bs' : List UInt8),Value.int .i64 ((k : Int) + 1) = .int .i64 (k' : Int) ∧ k' ≤ n ∧ bs'.length = k' ∧ Dr.bytesOf ts = (Dr.bytesOf (ts.drop k')).map (bs' ++ ·) ∧ w9.ownsRow w5.heap.size 5 1 v9 bs'.length (By.bv bs') ∧ Below w5.heap.size w5 w9) ∧ n - (intOf (Value.int .i64 ((k : Int) + 1))).toNat < n - (intOf (Value.int .i64 (k : Int))).toNat from by
        have hb9 : Below w5.heap.size w5 (w7.alloc (.cells #[.int .u8 (j : Int)] 5)) := HBW.out _ HB8.out;have hlt9 := (HOWN.out _ HB8.out).lt;refine ⟨⟨k + 1,bs ++ [UInt8.ofNat j],by go_num,hlt,by rw [List.length_append,HBL.out]; rfl,HBS.out,?_,?_⟩,?_⟩
        · rw [By.bv_append,Dr.bv_one j hj,List.length_append,HBL.out];exact hown9
        · exact ⟨hgr9.os.trans hb9.os,hgr9.tape.trans hb9.tape,hgr9.output.trans hb9.output,Nat.le_trans hb9.size hgr9.size,fun q hq => (hgr9.block q (Nat.lt_of_lt_of_le hq hb9.size) (fun e => by have := (hlt9 q e.symm).1; omega)).trans (hb9.block q hq)⟩
        · simp only [intOf]; omega)
      obtain ⟨a9,c9,rfl⟩ := Dr.own_slice hown9;clear hown9 hgr9;go_wp2_with fail;exact HE.out
  · obtain rfl : k = n := by omega
    have hdrop : ts.drop k = [] := List.drop_eq_nil_of_le (by rw [HN.out]; omega);have hbs : Dr.bytesOf ts = some bs := by
     rw [hby,hdrop];show some (bs ++ []) = _;rw [List.append_nil]
    have hK := (Dr.Kept.of_below (b := b) hbw);have hbxr := HBX.out wr (HK5.out.trans hK);have hIn := Dr.byt_in (S := fun q => B + 1 ≤ q) (by rw [hbl]; exact hown) (fun q hq => by have := HB5.out; show B + 1 ≤ q; omega) (by omega);obtain ⟨Y1,Y2,Y3,Y4,Y5,Y6,Y7,Y8,Y9,Y10,Y11,⟨g0,z0,s0⟩,⟨g1,z1,s1'⟩,⟨g2,z2,s2'⟩,⟨g3,z3,s3'⟩,⟨g4,z4,s4'⟩,⟨g5,z5,s5'⟩,⟨g6,z6,s6'⟩,⟨g7,z7,s7'⟩,⟨g8,z8,s8'⟩,⟨g9,z9,s9'⟩,⟨g10,z10,s10'⟩,⟨r0,r1,r2',r3,r4,r5,r6,r7,r8,r9,r10⟩,HY⟩ := hbxr.put (.int .i64 7) (.int .i64 0) (.bool false) (.slice none 0 0) (.slice none 0 0) (.bool false) (.slice none 0 0) (.slice none 0 0) (.string ⟨#[]⟩) (.slice oa k oc) (.slice none 0 0);have HE := Lib.hid (show Dr.PostY b S g w (.list ts r big) (.returned (.agg #[.int .i64 7,.int .i64 0,.bool false,.slice none 0 0,.slice none 0 0,.bool false,.slice none 0 0,.slice none 0 0,.string ⟨#[]⟩,.slice oa k oc,.slice none 0 0])) Y11 from by
      refine Dr.PostY.of_yes hbs ⟨_,rfl,?_,?_,?_⟩
      · exact Tr.In.mono (S := fun q => B + 1 ≤ q) (fun q hq => by show w.heap.size ≤ q; have := HHB.out; omega) _ _ (Tr.In.kept ⟨Nat.le_of_eq HY.out.2.1.symm,fun q hq _ => HY.out.2.2.1 q (by omega)⟩ _ _ hIn)
      · exact (HA5.out.below hbw).put HNB.out.symm HY.out.2.2.1
      · exact (HK1.out.trans (HK5.out.trans hK)).put (Nat.le_of_eq HHB.out) HY.out.2.1 HY.out.2.2.2)
    clear hdrop hbs hK hbxr hIn hown hbw hby hbl HY HDEAD HBX HK1 hk hlt HOK;go_wp2_with fail;refine bodyPost_ret (v := .agg #[.int .i64 7,.int .i64 0,.bool false,.slice none 0 0,.slice none 0 0,.bool false,.slice none 0 0,.slice none 0 0,.string ⟨#[]⟩,.slice oa k oc,.slice none 0 0]) (by simp [results,Tryz.results42,go_sem,r0,r1,r2',r3,r4,r5,r6,r7,r8,r9,r10]) rfl HE.out
end Go.Proofs.YteklhapffplohaaGreatDoor
