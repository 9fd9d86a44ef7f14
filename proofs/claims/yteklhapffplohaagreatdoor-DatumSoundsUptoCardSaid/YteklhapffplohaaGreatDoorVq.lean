/-
  The reference's Units of a text, and valid. The reference's words and bits of a number. The reference's Norm of words.
-/
import Derived.Lib.TrimUEq
import Derived.Lib.ValidLaws
import Derived.Lib.ConvBytes
import Derived.Deep.LoopGhost
import Derived.Deep.AppendLies
import Derived.Test.YteklhapffplohaaGreatDoorVp
import Derived.Test.YteklhapffplohaaGreatDoorVa
import Derived.Test.YteklhapffplohaaGreatDoorVk
import Derived.Test.YteklhapffplohaaGreatDoorVb
import Derived.Test.YteklhapffplohaaGreatDoorVg
import Derived.Test.YteklhapffplohaaGreatDoorVn
import Derived.Test.YteklhapffplohaaGreatDoorVl
set_option linter.unusedVariables false
set_option linter.unusedSimpArgs false
namespace Go.Proofs.YteklhapffplohaaGreatDoor
open Go.RowKit
def Ru.At (w : World) (B : Nat) (v : Value) (us : List (Int × Bool × Int)) : Prop := w.ownsRow B 109 3 v us.length (Cd.cellsU us)
set_option maxHeartbeats 1000000
set_option maxRecDepth 1000000
theorem Ru.utf8_none (ad : Option Addr) (cap : Nat) (w : World) :
 Calls Tryz.prog 106 #[.slice ad 0 cap] w fun x w' => ∃ v,x = .returned v ∧ Ru.At w' w.heap.size v [] ∧ Below w.heap.size w w' := by
 go_enter Tryz.func106,Tryz.ntmps106
 go_wp2
 refine wp_loop_rounds 1 ?_
 rw [rounds_succ]
 go_wp2
 go_ret
 exact ⟨_,rfl,Cd.own_empty3 w 109,(Below.refl _ _).alloc (Nat.le_refl _) _⟩
set_option maxHeartbeats 200000
set_option maxRecDepth 512
theorem Ru.valid_eq (s : ByteArray) : ∀ n k,s.size - k ≤ n → Lib.validD (s.data.toList.drop k) = (Cd.utf8U s k).all (fun u => u.2.1) := by
 intro n;induction n with
 | zero =>
   intro k hk;rw [Cd.utf8U_end s k (by omega),List.drop_of_length_le (by simp; omega)];rfl
 | succ n ih =>
   intro k hk;by_cases h : k < s.size
   · have hne : s.data.toList.drop k ≠ [] := by
      intro e;have := congrArg List.length e;simp at this;omega
     have hw := Lib.width_pos s k;rw [Lib.validD_step _ hne,Lib.decodeL_drop,List.drop_drop,Cd.utf8U_one s k h,List.all_cons,← ih (k + (Utf8.decode s k).2) (by omega)];by_cases hc : (Utf8.decode s k).1 = 65533 ∧ (Utf8.decode s k).2 = 1
     · rw [if_pos hc,decide_eq_false (by omega)];rfl
     · rw [if_neg hc,decide_eq_true (by omega)];simp
   · rw [Cd.utf8U_end s k h,List.drop_of_length_le (by simp; omega)];rfl
set_option maxHeartbeats 1000000
set_option maxRecDepth 1000000
theorem Ru.Units_any (s : ByteArray) (a : Option Addr) (n cap : Nat) (w : World) (hs : s.size ≤ 1099511627000) (hn : n = s.size) (hv : 0 < s.size → ∃ b off,a = some ⟨b,off,none⟩ ∧ b < w.heap.size ∧ ∀ j,j < s.size → w.cell? ⟨b,off + j,none⟩ = some (.int .u8 (Cd.byt s j))) :
 Calls Tryz.prog 79 #[.int .i64 1,.slice a n cap] w fun x w' => ∃ v,x = .returned v ∧ Ru.At w' w.heap.size v ((Cd.utf8U s 0).map Cd.refU) ∧ Below w.heap.size w w' := by
 subst hn
 have K : Calls Tryz.prog 106 #[.slice a s.size cap] w fun x w' => ∃ v,x = .returned v ∧ Ru.At w' w.heap.size v ((Cd.utf8U s 0).map Cd.refU) ∧ Below w.heap.size w w' := by
  rcases Nat.eq_zero_or_pos s.size with h0 | h0
  · rw [h0,Cd.utf8U_end s 0 (by omega)];exact Ru.utf8_none a cap w
  · obtain ⟨b,off,rfl,hb,hc⟩ := hv h0;exact Cd.refUtf8_some s w b off cap hs hb hc
 have HK := Lib.hid K
 clear K hv
 generalize (Cd.utf8U s 0).map Cd.refU = us at *
 go_enter Tryz.func79,Tryz.ntmps79
 go_wp2_with fail
 refine HK.out.mono ?_
 rintro x w1 ⟨v1,rfl,ho,hb⟩
 have HO := Lib.hid ho
 have HB := Lib.hid hb
 clear ho hb
 go_wp2
 go_ret
 exact ⟨_,rfl,HO.out,HB.out⟩
set_option maxHeartbeats 200000
set_option maxRecDepth 512
theorem Ru.fault : ∀ (us : List (Int × Bool × Int)) (k : Nat) (u : Int × Bool × Int),us[k]? = some u → (Cd.cellsU us)[k * 3 + 1]? = some (.bool u.2.1)
 | a :: r,0,u,h => by
   simp only [List.getElem?_cons_zero,Option.some.injEq] at h;subst h;rfl
 | a :: r,k + 1,u,h => by
   simp only [List.getElem?_cons_succ] at h;have := Ru.fault r k u h;rw [show (k + 1) * 3 + 1 = k * 3 + 1 + 3 by omega];show (([.int .i32 a.1,.bool a.2.1,.int .i64 a.2.2] : List Value) ++ Cd.cellsU r)[k * 3 + 1 + 3]? = _;rw [List.getElem?_append_right (by simp)];exact this
theorem Ru.answer (s : ByteArray) : ((Cd.utf8U s 0).map Cd.refU).all (fun u => !u.2.1) = Lib.validD s.data.toList := by
 have h := Ru.valid_eq s s.size 0 (by omega);rw [List.drop_zero] at h;rw [h,List.all_map];congr 1;funext u;unfold Cd.refU;by_cases hu : u.2.1 = true
 · simp [hu]
 · simp [hu]
set_option maxHeartbeats 1000000
set_option maxRecDepth 1000000
theorem Ru.valid_any (s : ByteArray) (w : World) (hs : s.size ≤ 1099511627000) :
 Calls Tryz.prog 50 #[.string s] w fun e w' => e = .returned (.bool (Lib.validD s.data.toList)) ∧ Below w.heap.size w w' := by
 have hcv := Lib.run_convert_string_bytes (P := Tryz.prog) w 9 27 5 s (u := .string) Tryz.underlying9 Tryz.underlying27 Tryz.underlying5
 have hbw : Below w.heap.size w (Lib.bytesWorld w 5 s) := ⟨rfl,rfl,rfl,by
   show w.heap.size ≤ (Lib.bytesWorld w 5 s).heap.size;rcases Nat.lt_or_ge (Lib.bytesWorld w 5 s).heap.size w.heap.size with h | h
   · have := Lib.bytesWorld_at_old w 5 s _ h;rw [Array.getElem?_eq_none (Nat.le_refl _),Array.getElem?_eq_getElem h] at this;cases this
   · exact h,fun q hq => Lib.bytesWorld_at_old w 5 s q hq⟩
 have hcl := Lib.bytesWorld_cell w 5 s
 obtain ⟨W1,hW1⟩ : ∃ z,z = Lib.bytesWorld w 5 s := ⟨_,rfl⟩
 rw [← hW1] at hcv hbw hcl
 have hlt : 0 < s.size → w.heap.size < W1.heap.size := fun h0 => by
  have := hcl 0 h0;rcases Nat.lt_or_ge w.heap.size W1.heap.size with h | h
  · exact h
  · simp [World.cell?,Array.getElem?_eq_none h] at this
 have KU := Ru.Units_any s (some ⟨w.heap.size,0,none⟩) s.size (grownCap w s.size 0 5) W1 hs rfl (fun h0 => ⟨w.heap.size,0,rfl,hlt h0,fun j hj => by
   rw [Nat.zero_add];have := hcl j hj;rw [this];unfold Cd.byt
   rw [Lib.getD_get!']⟩)
 rw [← Ru.answer s]
 have HBW := Lib.hid hbw
 clear hbw hcl hlt hW1
 generalize (Cd.utf8U s 0).map Cd.refU = us at *
 generalize grownCap w s.size 0 5 = gc at *
 go_enter Tryz.func50,Tryz.ntmps50
 go_wp2_with fail
 refine KU.mono ?_
 rintro x w2 ⟨v2,rfl,ho,hb2⟩
 have HB2 := Lib.hid (HBW.out.trans (hb2.mono HBW.out.size))
 have hform : ∃ a c,v2 = .slice a us.length c := by
  rcases ho.2 with ⟨rfl,h0⟩ | ⟨g,cap,cur,hv,_⟩
  · exact ⟨none,0,by rw [h0]⟩
  · exact ⟨_,_,hv⟩
 obtain ⟨ga,gcp,rfl⟩ := hform
 have HO : Hid (∀ k u,us[k]? = some u → ∃ g,ga = some ⟨g,0,none⟩ ∧ w2.cell? ⟨g,k * 3 + 1,none⟩ = some (.bool u.2.1)) := Lib.hid (fun k u hk => by
   have hlt := (List.getElem?_eq_some_iff.1 hk).1;rcases ho.2 with ⟨_,h0⟩ | ⟨g,cap,cur,hv,_⟩
   · omega
   · simp only [Value.slice.injEq] at hv;obtain ⟨rfl,_,_⟩ := hv;have := @World.ownsRow.cells w2 _ _ 3 _ _ _ ho g rfl (k * 3 + 1) _ (Ru.fault us k u hk);have hadd : (⟨g,0,none⟩ : Addr).add (k * 3 + 1) = ⟨g,k * 3 + 1,none⟩ := by unfold Addr.add; split <;> simp_all
     rw [hadd] at this
     exact ⟨g,rfl,this⟩)
 have hlen : us.length ≤ 9223372036854775807 := by
  rcases ho.2 with ⟨_,h0⟩ | ⟨g,cap,cur,hv,_,_,hn,hm,_⟩
  · omega
  · simp only [maxLen] at hm;omega
 clear ho hb2 KU hcv
 go_wp2_with fail
 go_loopg [4] us.length (fun g i wr => ∃ k : Nat,k + g = us.length ∧ i = .int .i64 k ∧ us.all (fun u => !u.2.1) = (us.drop k).all (fun u => !u.2.1) ∧ wr = w2)
 case atStart => exact ⟨0,by omega,rfl,rfl,rfl⟩
 case round =>
  obtain ⟨k,hkg,rfl,hans,rfl⟩ := hrel
  have HANS := Lib.hid hans
  clear hans
  by_cases hlt : k < us.length
  · obtain ⟨u,hu⟩ : ∃ u,us[k]? = some u := ⟨_,List.getElem?_eq_getElem hlt⟩;have hd : us.drop k = u :: us.drop (k + 1) := by
     obtain ⟨h1,h2⟩ := List.getElem?_eq_some_iff.1 hu;rw [List.drop_eq_getElem_cons h1,h2]
    have HD := Lib.hid hd;obtain ⟨g,rfl,hc⟩ := HO.out k u hu;clear hu hd;obtain ⟨ur,uf,up⟩ := u;cases uf
    · go_wp2_with fail;go_roundg (gk - 1);case measure => omega
      case rel => exact ⟨k + 1,by omega,by first | rfl | go_num | (simp; try omega),by rw [HANS.out,HD.out]; simp,by first | rfl | trivial⟩
    · have hR : us.all (fun u => !u.2.1) = false := by rw [HANS.out,HD.out]; simp
      have HR := Lib.hid hR;clear hR;go_wp2_with fail;go_ret;exact ⟨by rw [HR.out]; rfl,HB2.out⟩
  · have hk : k = us.length := by omega
    have hR : us.all (fun u => !u.2.1) = true := by rw [HANS.out,hk,List.drop_length]; rfl
    have HR := Lib.hid hR;clear hR;go_wp2_with fail;go_ret;exact ⟨by rw [HR.out]; rfl,HB2.out⟩
set_option maxHeartbeats 2000000
theorem Rn.word_any (ws : List Nat) (v : Value) (i : Nat) (w : World) (h : Nt.In w v ws) (hw : Nt.Wd ws) :
 Calls Tryz.prog 130 #[v,.int .i64 i] w fun e w' => e = .returned (.int .u64 (ws.getD i 0 : Nat)) ∧ Below w.heap.size w w' := by
 obtain ⟨ad,cap,rfl⟩ := h.slice
 by_cases hlt : i < ws.length
 · obtain ⟨b,o,rfl,_,_,_,hc⟩ := h.at (by omega);have c0 := hc i hlt;have hx := hw.getD i;have hltI : (i : Int) < (ws.length : Int) := by omega
   clear hc h hw;generalize ws.getD i 0 = x at *;go_enter Tryz.func130,Tryz.ntmps130;go_wp2_with fail;go_ret;refine ⟨?_,Below.refl _ _⟩;first | rfl | (go_num) | (simp; omega)
 · have hltI : ¬ (i : Int) < (ws.length : Int) := by omega
   have h0 := Nt.getD_ge ws i (by omega);go_enter Tryz.func130,Tryz.ntmps130;go_wp2_with fail;go_ret;exact ⟨by first | rfl | (rw [h0]; rfl),Below.refl _ _⟩
set_option maxHeartbeats 200000
set_option maxRecDepth 512
theorem Rn.low_bit (x s : Nat) : bits .and .u32 ((x : Int) / 2 ^ s % 4294967296) 1 = ((x / 2 ^ s % 2 : Nat) : Int) := by
 have e : ((x : Int) / 2 ^ s % 4294967296) = ((x / 2 ^ s % 4294967296 : Nat) : Int) := by
  rw [Int.natCast_emod,Int.natCast_ediv,Int.natCast_pow];rfl
 rw [e,show (1 : Int) = ((1 : Nat) : Int) from rfl,(Nt.bits_u32 _ 1 (Nat.mod_lt _ (by decide)) (by decide)).1,Nat.and_one_is_mod];congr 1;omega
set_option maxHeartbeats 2000000
set_option maxRecDepth 1000000
theorem Rn.Bit_any (ws : List Nat) (v : Value) (k : Nat) (w : World) (h : Nt.In w v ws) (hw : Nt.Wd ws) (hk : k ≤ 4611686018427387904) :
 Calls Tryz.prog 108 #[v,.int .i64 k] w fun e w' => e = .returned (.int .u32 (ws.getD (k / 32) 0 / 2 ^ (k % 32) % 2 : Nat)) ∧ Below w.heap.size w w' := by
 have KW := Rn.word_any ws v (k / 32) w h hw
 have hx := hw.getD (k / 32)
 obtain ⟨ad,cap,rfl⟩ := h.slice
 generalize ws.getD (k / 32) 0 = x at *
 rw [show ((k / 32 : Nat) : Int) = (k : Int) / 32 by omega] at KW
 go_enter Tryz.func108,Tryz.ntmps108
 go_wp2_with fail
 refine KW.mono ?_
 rintro z w2 ⟨rfl,hb⟩
 have HB := Lib.hid hb
 clear hb KW h
 go_wp2_with fail
 go_ret
 exact ⟨by rw [← Rn.low_bit]; rfl,HB.out⟩
set_option maxHeartbeats 200000
set_option maxRecDepth 512
theorem Rn.src {w : World} {v : Value} {us : List Nat} (h : Nt.In w v us) : Ls.Src w 1 v us.length (Nt.vs us) := by
 rcases h with ⟨rfl,rfl⟩ | ⟨a,cap,rfl,rfl⟩ | ⟨h0,b,off,cap,rfl,hc,hl,hcell⟩
 · exact .inl ⟨rfl,rfl,rfl⟩
 · exact .inr ⟨a,cap,rfl,rfl,fun j u h => by simp [Nt.vs] at h⟩
 · refine .inr ⟨⟨b,off,none⟩,cap,rfl,by simp [Nt.vs],fun j u hj => ?_⟩;have hlt : j < us.length := by
    have := (List.getElem?_eq_some_iff.1 hj).1;simpa [Nt.vs] using this
   have e : (⟨b,off,none⟩ : Addr).add j = ⟨b,off + j,none⟩ := by unfold Addr.add; split <;> simp_all
   rw [e,hcell j hlt];simp only [Nt.vs,List.getElem?_map] at hj;rw [← hj,List.getD_eq_getElem?_getD,List.getElem?_eq_getElem hlt];rfl
theorem Rn.vs_one (us : List Nat) : ∀ u ∈ Nt.vs us,u.oneCell' = true := by
 intro u hu;simp only [Nt.vs,List.mem_map] at hu;obtain ⟨x,_,rfl⟩ := hu;rfl
theorem Rn.norm_end {w' : World} {v' : Value} {ws : List Nat} {k B : Nat} (hk : k ≤ ws.length) (htk : ws.take k = Nt.dig (Nt.val ws)) (hown : w'.ownsRow B 57 1 v' k (Nt.vs (ws.take k))) : Nt.N w' v' (Nt.val ws) := by
 rw [htk] at hown;have hlen : (Nt.dig (Nt.val ws)).length = k := by rw [← htk,List.length_take]; omega
 unfold Nt.N;exact Nt.In.of_own (B := B) (t := 57) (by rw [hlen]; exact hown)
set_option maxHeartbeats 2000000
set_option maxRecDepth 1000000
theorem Rn.Norm_any (ws : List Nat) (v : Value) (w : World) (h : Nt.In w v ws) (hw : Nt.Wd ws) (hl : ws.length ≤ 1000000) :
 Calls Tryz.prog 82 #[v] w fun e w' => ∃ v',e = .returned v' ∧ Nt.N w' v' (Nt.val ws) ∧ Below w.heap.size w w' := by
 obtain ⟨ad,cap,rfl⟩ := h.slice
 have hcap := h.cap.2
 have H := Lib.hid h
 have HW := Lib.hid hw
 obtain ⟨i0,hi,hz0,hz1,hz2⟩ := info_parts Nt.infoWord
 clear h hw
 go_enter Tryz.func82,Tryz.ntmps82
 go_wp2_with fail
 go_loopw [3] (fun i wr => ∃ k : Nat,i = .int .i64 k ∧ k ≤ ws.length ∧ (∀ j,k ≤ j → j < ws.length → ws.getD j 0 = 0) ∧ wr = w) (fun i _ => (intOf i).toNat)
 case atStart => exact ⟨ws.length,rfl,Nat.le_refl _,fun j h1 h2 => by omega,rfl⟩
 case round =>
  obtain ⟨k,rfl,hk,hz,rfl⟩ := hrel
  have HZ := Lib.hid hz
  clear hz
  have HEND : Hid ((k = 0 ∨ ws.getD (k - 1) 0 ≠ 0) → ws.take k = Nt.dig (Nt.val ws)) := Lib.hid (fun h => Nt.dig_of HW.out hk HZ.out h)
  rcases k with _ | k
  · have HTK := Lib.hid (HEND.out (.inl rfl));have hin := H.out.takeN 0 hk;have hsrc := Rn.src (hin.below ((Below.refl wr.heap.size wr).alloc (Nat.le_refl _) (.cells #[] 57)) (Nat.le_refl _));rw [show (ws.take (0)).length = 0 by rw [List.length_take]; omega] at hsrc;clear hin;go_wp2_with (at_builtin; refine Ls.wpList_append _ rfl _ _ 22 rfl wr.heap.size 57 i0 (.int .u32 0) 1 4 Tryz.underlying22 hi hz0 hz1 hz2 rfl (by decide) _ 0 [] rfl (World.ownsRow_made wr #[] 0 (Nat.le_refl _) (by decide) rfl) _ (0) (Nt.vs (ws.take (0))) rfl hsrc (Rn.vs_one _) (by simp only [maxLen]; omega) (by omega) (by simp) ?_);intro v' w' hown hg _;have hN : Nt.N w' v' (Nt.val ws) := Rn.norm_end hk HTK.out (by first | exact hown | simpa using hown);have hB : Below wr.heap.size wr w' := ((Below.refl wr.heap.size wr).alloc (Nat.le_refl _) (.cells #[] 57)).grown hg (by simp) (fun q hq => by simp [Value.ownBlock] at hq; omega);have HN := Lib.hid (And.intro hN hB);clear hsrc hown hg hN hB;go_wp2_with fail;go_ret;exact ⟨_,rfl,HN.out.1,HN.out.2⟩
  · obtain ⟨b,off,rfl,_,_,hbl,hcell⟩ := H.out.at (by omega);have c0 := hcell k (by omega);clear hcell;by_cases hx : ws.getD k 0 = 0
    · rw [hx] at c0;have HX := Lib.hid hx;clear hx;go_wp2_with fail;go_roundw;case rel =>
       refine ⟨k,by first | rfl | go_num | (simp; try omega),by omega,fun j h1 h2 => ?_,by first | rfl | trivial⟩;rcases Nat.lt_or_ge k j with h | h
       · exact HZ.out j (by omega) h2
       · obtain rfl : j = k := by omega
         exact HX.out
      case measure => simp [intOf]
    · have hx0 : ((ws.getD k 0 : Nat) == (0 : Int)) = false := by simp; exact hx
      have HTK := Lib.hid (HEND.out (.inr hx));clear hx;have hin := H.out.takeN (k + 1) hk;have hsrc := Rn.src (hin.below ((Below.refl wr.heap.size wr).alloc (Nat.le_refl _) (.cells #[] 57)) (Nat.le_refl _));rw [show (ws.take (k + 1)).length = k + 1 by rw [List.length_take]; omega] at hsrc;clear hin;generalize ws.getD k 0 = x at *;go_wp2_with (at_builtin; refine Ls.wpList_append _ rfl _ _ 22 rfl wr.heap.size 57 i0 (.int .u32 0) 1 4 Tryz.underlying22 hi hz0 hz1 hz2 rfl (by decide) _ 0 [] rfl (World.ownsRow_made wr #[] 0 (Nat.le_refl _) (by decide) rfl) _ (k + 1) (Nt.vs (ws.take (k + 1))) rfl hsrc (Rn.vs_one _) (by simp only [maxLen]; omega) (by omega) (by simp) ?_);intro v' w' hown hg _;have hN : Nt.N w' v' (Nt.val ws) := Rn.norm_end hk HTK.out (by first | exact hown | simpa using hown);have hB : Below wr.heap.size wr w' := ((Below.refl wr.heap.size wr).alloc (Nat.le_refl _) (.cells #[] 57)).grown hg (by simp) (fun q hq => by simp [Value.ownBlock] at hq; omega);have HN := Lib.hid (And.intro hN hB);clear hsrc hown hg hN hB;go_wp2_with fail;go_ret;exact ⟨_,rfl,HN.out.1,HN.out.2⟩
set_option maxHeartbeats 200000
set_option maxRecDepth 512
theorem Rn.digit : ∀ (q : Nat) (ws : List Nat),Nt.Wd ws → Nt.val ws / 4294967296 ^ q % 4294967296 = ws.getD q 0
 | q,[],_ => by simp [Nt.val]
 | 0,x :: r,h => by
   have := h.head;simp only [Nt.val,Nat.pow_zero,Nat.div_one,List.getD_cons_zero];omega
 | q + 1,x :: r,h => by
   have hx := h.head;rw [List.getD_cons_succ,← Rn.digit q r h.tail,Nat.pow_succ',← Nat.div_div_eq_div_mul];congr 2;simp only [Nt.val];omega
theorem Rn.b32 (q : Nat) : (4294967296 : Nat) ^ q = 2 ^ (32 * q) := by rw [show (4294967296 : Nat) = 2 ^ 32 by decide,← Nat.pow_mul]
theorem Rn.mod_bit (x r : Nat) (h : r < 32) : x % 4294967296 / 2 ^ r % 2 = x / 2 ^ r % 2 := by
 have e : (4294967296 : Nat) = 2 ^ r * 2 ^ (32 - r) := by rw [← Nat.pow_add,show r + (32 - r) = 32 by omega]
 rw [e,Nat.mod_mul_right_div_self,Nat.mod_mod_of_dvd];exact Nat.pow_dvd_pow 2 (show 1 ≤ 32 - r by omega)
theorem Rn.bit_val {ws : List Nat} (h : Nt.Wd ws) (k : Nat) : ws.getD (k / 32) 0 / 2 ^ (k % 32) % 2 = Nt.val ws / 2 ^ k % 2 := by
 rw [← Rn.digit (k / 32) ws h,Rn.mod_bit _ _ (Nat.mod_lt _ (by decide)),Nat.div_div_eq_div_mul,Rn.b32,← Nat.pow_add,Nat.div_add_mod]
theorem Rn.lt_step {v k : Nat} (h : v < 2 ^ (k + 1)) (h0 : v / 2 ^ k % 2 = 0) : v < 2 ^ k := by
 rw [Nat.pow_succ] at h;have h1 : v / 2 ^ k < 2 := Nat.div_lt_of_lt_mul h;have h3 : ∀ z : Nat,z < 2 → z % 2 = 0 → z = 0 := by omega
 have h2 : v / 2 ^ k = 0 := h3 _ h1 h0;exact (Nat.div_eq_zero_iff_lt (Nat.two_pow_pos k)).1 h2
theorem Rn.ge_step {v k : Nat} (h1 : v / 2 ^ k % 2 ≠ 0) : 2 ^ k ≤ v := by
 rcases Nat.lt_or_ge v (2 ^ k) with h | h
 · rw [Nat.div_eq_of_lt h] at h1;exact absurd rfl h1
 · exact h
set_option maxHeartbeats 2000000
set_option maxRecDepth 1000000
theorem Rn.Size_any (ws : List Nat) (v : Value) (w : World) (h : Nt.In w v ws) (hw : Nt.Wd ws) (hl : ws.length ≤ 1000000) :
 Calls Tryz.prog 111 #[v] w fun e w' => ∃ s : Nat,e = .returned (.int .i64 s) ∧ Nt.val ws < 2 ^ s ∧ (s = 0 ∨ 2 ^ (s - 1) ≤ Nt.val ws) ∧ Below w.heap.size w w' := by
 obtain ⟨ad,cap,rfl⟩ := h.slice
 have HV : Hid (Nt.val ws < 2 ^ (32 * ws.length)) := Lib.hid (by have := Nt.val_lt ws hw; rw [Rn.b32] at this; exact this)
 have HB := Lib.hid (fun w' (hb : Below w.heap.size w w') k hk => Rn.Bit_any ws _ k w' (h.below hb (Nat.le_refl _)) hw hk)
 have HBV := Lib.hid (fun k => Rn.bit_val hw k)
 clear h hw
 go_enter Tryz.func111,Tryz.ntmps111
 go_wp2_with fail
 go_loopw [3] (fun i wr => ∃ k : Nat,i = .int .i64 k ∧ k ≤ 32 * ws.length ∧ Nt.val ws < 2 ^ k ∧ Below w.heap.size w wr) (fun i _ => (intOf i).toNat)
 case atStart => exact ⟨32 * ws.length,by first | rfl | go_num | (simp; try omega),Nat.le_refl _,HV.out,Below.refl _ _⟩
 case round =>
  obtain ⟨k,rfl,hk,hlt,hb⟩ := hrel
  obtain ⟨wo,hwo⟩ : ∃ z,z = wr := ⟨_,rfl⟩
  subst hwo
  have HLT := Lib.hid hlt
  have HBW := Lib.hid hb
  clear hlt hb
  rcases k with _ | k
  · go_wp2_with fail;go_ret;exact ⟨0,rfl,HLT.out,.inl rfl,HBW.out⟩
  · have KB := HB.out wo HBW.out k (by omega);rw [HBV.out] at KB;have hk1 : (((k + 1 : Nat) : Int) - 1) = (k : Int) := by omega
    by_cases hx : Nt.val ws / 2 ^ k % 2 = 0
    · rw [hx] at KB;have HX := Lib.hid hx;clear hx;go_wp2_with fail;refine KB.mono ?_;rintro z w2 ⟨rfl,hb2⟩;have HB2 := Lib.hid (HBW.out.trans (hb2.mono HBW.out.size));clear hb2 KB;go_wp2_with fail;go_roundw;case rel => exact ⟨k,by first | rfl | go_num | (simp; try omega),by omega,Rn.lt_step HLT.out HX.out,HB2.out⟩
      case measure => simp [intOf]
    · have HX := Lib.hid hx;have hx1 : Nt.val ws / 2 ^ k % 2 = 1 := by
       have h3 : ∀ z : Nat,¬ z % 2 = 0 → z % 2 = 1 := by omega
       exact h3 _ hx
      rw [hx1] at KB;clear hx hx1;go_wp2_with fail;refine KB.mono ?_;rintro z w2 ⟨rfl,hb2⟩;have HB2 := Lib.hid (HBW.out.trans (hb2.mono HBW.out.size));clear hb2 KB;go_wp2_with fail;go_ret;exact ⟨k + 1,rfl,HLT.out,.inr (Rn.ge_step HX.out),HB2.out⟩
set_option maxHeartbeats 200000
set_option maxRecDepth 512
theorem Rn.own_slice {w : World} {B sz : Nat} {t : TypeId} {v : Value} {n : Nat} {xs : List Value} (h : w.ownsRow B t sz v n xs) : ∃ a c,v = .slice a n c := by
 rcases h.2 with ⟨rfl,rfl⟩ | ⟨g,cap,cur,hv,_⟩
 · exact ⟨_,_,rfl⟩
 · exact ⟨_,_,hv⟩
theorem Rn.own_below {w w' : World} {B B2 sz : Nat} {t : TypeId} {v : Value} {n : Nat} {xs : List Value} (h : w.ownsRow B t sz v n xs) (hb : Below B2 w w') (hB : w.heap.size ≤ B2) : w'.ownsRow B t sz v n xs := by
 refine ⟨h.1,?_⟩;rcases h.2 with hv | ⟨g,cap,cur,hv,hB',hg,rest⟩
 · exact .inl hv
 · have hlt := (Array.getElem?_eq_some_iff.1 hg).1;exact .inr ⟨g,cap,cur,hv,hB',by rw [hb.block g (by omega)]; exact hg,rest⟩
def Rn.digs (N m : Nat) : List Nat := (List.range m).map fun j => N / 4294967296 ^ j % 4294967296
theorem Rn.digs_succ (N m : Nat) : Rn.digs N (m + 1) = Rn.digs N m ++ [N / 4294967296 ^ m % 4294967296] := by
 unfold Rn.digs;rw [List.range_succ,List.map_append];rfl
theorem Rn.digs_len (N m : Nat) : (Rn.digs N m).length = m := by simp [Rn.digs]
theorem Rn.digs_wd (N m : Nat) : Nt.Wd (Rn.digs N m) := fun x hx => by
 simp only [Rn.digs,List.mem_map] at hx;obtain ⟨j,_,rfl⟩ := hx;exact Nat.mod_lt _ (by decide)
theorem Rn.digs_val (N : Nat) : ∀ m,Nt.val (Rn.digs N m) = N % 4294967296 ^ m
 | 0 => by simp [Rn.digs,Nt.val,Nat.mod_one]
 | m + 1 => by
   rw [Rn.digs_succ,Nt.val_append,Rn.digs_val N m,Rn.digs_len,Nat.pow_succ,Nat.mod_mul];simp [Nt.val]
theorem Rn.down_word {ws : List Nat} (h : Nt.Wd ws) (n j : Nat) : (ws.getD (n / 32 + j) 0 + 4294967296 * ws.getD (n / 32 + j + 1) 0) / 2 ^ (n % 32) % 4294967296 = Nt.val ws / 2 ^ n / 4294967296 ^ j % 4294967296 := by
 have h1 := Rn.digit (n / 32 + j) ws h;have h2 := Rn.digit (n / 32 + j + 1) ws h;rw [Nat.pow_succ,← Nat.div_div_eq_div_mul] at h2;have hz : ws.getD (n / 32 + j) 0 + 4294967296 * ws.getD (n / 32 + j + 1) 0 = (Nt.val ws / 4294967296 ^ (n / 32 + j)) % (4294967296 * 4294967296) := by
  rw [← h1,← h2,Nat.mod_mul]
 have hr : n % 32 < 32 := Nat.mod_lt _ (by decide);have e : (4294967296 * 4294967296 : Nat) = 2 ^ (n % 32) * (4294967296 * 2 ^ (32 - n % 32)) := by
  have h3 : 2 ^ (n % 32) * 2 ^ (32 - n % 32) = 4294967296 := by rw [← Nat.pow_add,show n % 32 + (32 - n % 32) = 32 by omega]
  rw [Nat.mul_left_comm,h3]
 rw [hz,e,Nat.mod_mul_right_div_self,Nat.mod_mod_of_dvd _ ⟨_,rfl⟩,Nat.div_div_eq_div_mul,Nat.div_div_eq_div_mul];congr 2;have h4 : 2 ^ n = 4294967296 ^ (n / 32) * 2 ^ (n % 32) := by rw [Rn.b32,← Nat.pow_add,Nat.div_add_mod]
 rw [h4,Nat.pow_add,Nat.mul_right_comm]
theorem Rn.or64 (x y : Nat) (hx : x < 4294967296) (hy : y < 4294967296) : bits .or .u64 (x : Int) ((y : Int) * 4294967296) = ((x + 4294967296 * y : Nat) : Int) := by
 have h1 : bits .or .u64 (x : Int) ((y : Int) * 4294967296) = bits .or .u64 ((y : Int) * 4294967296) (x : Int) := by
  have hc : ∀ n (a b : BitVec n),a ||| b = b ||| a := fun n a b => BitVec.or_comm a b;show IntKind.u64.wrap _ = IntKind.u64.wrap _;dsimp only;rw [hc]
 rw [h1,Nt.join64 y x hy hx,Nat.add_comm]
set_option maxHeartbeats 2000000
set_option maxRecDepth 1000000
theorem Rn.Down_any (ws : List Nat) (n : Nat) (v : Value) (w : World) (h : Nt.In w v ws) (hw : Nt.Wd ws) (hl : ws.length ≤ 1000000) (hn : n ≤ 100000000) :
 Calls Tryz.prog 131 #[v,.int .i64 n] w fun e w' => ∃ v',e = .returned v' ∧ Nt.N w' v' (Nt.val ws / 2 ^ n) ∧ Below w.heap.size w w' := by
 obtain ⟨ad,cap,rfl⟩ := h.slice
 have HW := Lib.hid (fun w' (hb : Below w.heap.size w w') i => Rn.word_any ws _ i w' (h.below hb (Nat.le_refl _)) hw)
 have HD := Lib.hid (fun j => Rn.down_word hw n j)
 have HX := Lib.hid (fun k => hw.getD k)
 have HVL := Lib.hid (Nt.val_lt ws hw)
 obtain ⟨i0,hi,hz0,hz1,hz2⟩ := info_parts Nt.infoWord
 clear h hw
 go_enter Tryz.func131,Tryz.ntmps131
 go_wp2_with fail
 go_loopg [5,6] (ws.length - n / 32) (fun g vo i wr => ∃ m k : Nat,k = n / 32 + m ∧ m ≤ ws.length - n / 32 ∧ ws.length - n / 32 ≤ m + g ∧ i = .int .i64 k ∧ wr.ownsRow w.heap.size 57 1 vo m (Nt.vs (Rn.digs (Nt.val ws / 2 ^ n) m)) ∧ Below w.heap.size w wr)
 case atStart => exact ⟨0,n / 32,rfl,Nat.zero_le _,by omega,by first | rfl | go_num | (simp; try omega),World.ownsRow_made w #[] 0 (Nat.le_refl _) (by decide) rfl,(Below.refl _ _).alloc (Nat.le_refl _) _⟩
 case round =>
  obtain ⟨m,k,hkm,hmg,hmg2,rfl,hown,hb⟩ := hrel
  obtain ⟨wo,hwo⟩ : ∃ z,z = wr := ⟨_,rfl⟩
  subst hwo
  have HO := Lib.hid hown
  have HB := Lib.hid hb
  obtain ⟨oa,oc,rfl⟩ := Rn.own_slice hown
  have HM := Lib.hid (And.intro hkm (And.intro hmg hmg2))
  clear hown hb
  by_cases hlt : k < ws.length
  · have hdw := HD.out m;rw [← hkm] at hdw;have K1 := HW.out wo HB.out k;have hx := HX.out k;have hy := HX.out (k + 1);have hg0 : 0 < gk := by omega
    have hml : m ≤ 1000000 := by omega
    clear hkm hmg hmg2;have K2 := fun w' hb => HW.out w' hb (k + 1);rw [show ((k + 1 : Nat) : Int) = (k : Int) + 1 by omega] at K2;generalize ws.getD k 0 = x at *;generalize ws.getD (k + 1) 0 = y at *;have HK2 := Lib.hid K2;have hor := Rn.or64 x y hx hy;have hsh : ((y : Int) * 4294967296) % 18446744073709551616 = (y : Int) * 4294967296 := by omega
    obtain ⟨d,hd⟩ : ∃ d,d = Nt.val ws / 2 ^ n / 4294967296 ^ m % 4294967296 := ⟨_,rfl⟩;rw [← hd] at hdw;have hdI : ((x : Int) + 4294967296 * (y : Int)) / 2 ^ (n % 32) % 4294967296 = (d : Int) := by
     rw [← hdw,Int.natCast_emod,Int.natCast_ediv,Int.natCast_pow];rfl
    have HDS : Hid (Nt.vs (Rn.digs (Nt.val ws / 2 ^ n) m) ++ [.int .u32 (d : Int)] = Nt.vs (Rn.digs (Nt.val ws / 2 ^ n) (m + 1))) := Lib.hid (by rw [Rn.digs_succ,← hd]; simp [Nt.vs]);clear hdw K2 hd;go_wp2_with fail;refine K1.mono ?_;rintro z w2 ⟨rfl,hb2⟩;have HB2 := Lib.hid (HB.out.trans (hb2.mono HB.out.size));have HO2 := Lib.hid (Rn.own_below HO.out hb2 (Nat.le_refl _));clear hb2 K1;go_wp2_with fail;refine (HK2.out _ HB2.out).mono ?_;rintro z w3 ⟨rfl,hb3⟩;have HB3 := Lib.hid (HB2.out.trans (hb3.mono HB2.out.size));have HO3 := Lib.hid (Rn.own_below HO2.out hb3 (Nat.le_refl _));clear hb3;go_wp2_with (at_builtin; refine Ls.wpList_append _ rfl _ _ 22 rfl w.heap.size 57 i0 (.int .u32 0) 1 4 Tryz.underlying22 hi hz0 hz1 hz2 rfl (by decide) _ m _ rfl (Rn.own_below HO3.out ((Below.refl _ _).alloc (Nat.le_refl _) _) (Nat.le_refl _)) _ 1 [.int .u32 (d : Int)] rfl (.inr ⟨_,_,rfl,rfl,World.news_of_block (heap_alloc_new _ _)⟩) (by intro u hu; simp at hu; subst hu; rfl) (by simp only [maxLen]; omega) (by omega) (Nat.le_trans HB3.out.size (by simp)) ?_);intro v' w' hown hg _;rw [HDS.out] at hown;have HON := Lib.hid hown;have hbA : Below w.heap.size w (w3.alloc (.cells #[.int .u32 (d : Int)] 57)) := HB3.out.alloc HB3.out.size _;have HBN := Lib.hid (hbA.grown hg hbA.size (fun q hq => (Rn.own_below HO3.out ((Below.refl _ _).alloc (Nat.le_refl _) (.cells #[.int .u32 (d : Int)] 57)) (Nat.le_refl _)).lt q hq |>.1));obtain ⟨na,nc,rfl⟩ := Rn.own_slice hown
    clear hown hg hbA;go_wp2_with fail;go_roundg (gk - 1);case measure => omega
    case rel =>
     obtain ⟨h1,h2,h3⟩ := HM.out;exact ⟨m + 1,k + 1,by omega,by omega,by omega,by first | rfl | go_num | (simp; try omega),HON.out,HBN.out⟩
  · have hN : Nt.val (Rn.digs (Nt.val ws / 2 ^ n) m) = Nt.val ws / 2 ^ n := by
     rw [Rn.digs_val];refine Nat.mod_eq_of_lt (Nat.div_lt_of_lt_mul ?_);have h4 : 2 ^ n = 4294967296 ^ (n / 32) * 2 ^ (n % 32) := by rw [Rn.b32,← Nat.pow_add,Nat.div_add_mod]
     have h5 : 4294967296 ^ ws.length ≤ 4294967296 ^ (n / 32 + m) := Nat.pow_le_pow_right (by decide) (by omega);rw [Nat.pow_add] at h5;have h6 : 4294967296 ^ (n / 32) * 4294967296 ^ m ≤ 2 ^ n * 4294967296 ^ m := Nat.mul_le_mul_right _ (by rw [h4]; exact Nat.le_mul_of_pos_right _ (Nat.two_pow_pos _));exact Nat.lt_of_lt_of_le HVL.out (Nat.le_trans h5 h6)
    have KN := Rn.Norm_any (Rn.digs (Nt.val ws / 2 ^ n) m) (.slice oa m oc) wo (Nt.In.of_own (B := w.heap.size) (t := 57) (by rw [Rn.digs_len]; exact HO.out)) (Rn.digs_wd _ _) (by rw [Rn.digs_len]; omega);rw [hN] at KN;have HM2 := Lib.hid hN;clear hN hkm hmg hmg2;go_wp2_with fail;refine KN.mono ?_;rintro z w8 ⟨v8,rfl,hn8,hb8⟩;have HN8 := Lib.hid hn8;have HB8 := Lib.hid (HB.out.trans (hb8.mono HB.out.size));clear hn8 hb8;go_wp2_with fail;go_ret;exact ⟨_,rfl,HN8.out,HB8.out⟩
set_option maxHeartbeats 200000
set_option maxRecDepth 512
theorem Rn.two_step {v k : Nat} (h : 2 ^ k ∣ v) (h0 : v / 2 ^ k % 2 = 0) : 2 ^ (k + 1) ∣ v := by
 obtain ⟨c,rfl⟩ := h;rw [Nat.mul_div_cancel_left _ (Nat.two_pow_pos k)] at h0;obtain ⟨e,rfl⟩ := Nat.dvd_of_mod_eq_zero h0;exact ⟨e,by rw [Nat.pow_succ,Nat.mul_assoc]⟩
set_option maxHeartbeats 2000000
set_option maxRecDepth 1000000
theorem Rn.odd_any (ws : List Nat) (v : Value) (w : World) (h : Nt.In w v ws) (hw : Nt.Wd ws) (hl : ws.length ≤ 1000000) (h0 : 0 < Nt.val ws) :
 Calls Tryz.prog 109 #[v] w fun e w' => ∃ (v' : Value) (t o : Nat),e = .returned v' ∧ Nt.N w' v' o ∧ o % 2 = 1 ∧ Nt.val ws = 2 ^ t * o ∧ Below w.heap.size w w' := by
 obtain ⟨ad,cap,rfl⟩ := h.slice
 have HV : Hid (Nt.val ws < 2 ^ (32 * ws.length)) := Lib.hid (by have := Nt.val_lt ws hw; rw [Rn.b32] at this; exact this)
 have HB := Lib.hid (fun w' (hb : Below w.heap.size w w') k hk => Rn.Bit_any ws _ k w' (h.below hb (Nat.le_refl _)) hw hk)
 have HDW := Lib.hid (fun w' (hb : Below w.heap.size w w') n hn => Rn.Down_any ws n _ w' (h.below hb (Nat.le_refl _)) hw hl hn)
 have HBV := Lib.hid (fun k => Rn.bit_val hw k)
 have H0 := Lib.hid h0
 clear h hw h0
 go_enter Tryz.func109,Tryz.ntmps109
 go_wp2_with fail
 go_loopg [3] (32 * ws.length) (fun g i wr => ∃ k : Nat,i = .int .i64 k ∧ k + g = 32 * ws.length ∧ 2 ^ k ∣ Nt.val ws ∧ Below w.heap.size w wr)
 case atStart => exact ⟨0,by first | rfl | go_num | (simp; try omega),by omega,by simp,Below.refl _ _⟩
 case round =>
  obtain ⟨k,rfl,hk,hdv,hb⟩ := hrel
  obtain ⟨wo,hwo⟩ : ∃ z,z = wr := ⟨_,rfl⟩
  subst hwo
  have HDV := Lib.hid hdv
  have HBW := Lib.hid hb
  have hklt : k < 32 * ws.length := by
   rcases Nat.lt_or_ge k (32 * ws.length) with h1 | h1
   · exact h1
   · have h2 := Nat.le_of_dvd H0.out hdv;have h3 : 2 ^ (32 * ws.length) ≤ 2 ^ k := Nat.pow_le_pow_right (by decide) h1;have := HV.out;omega
  clear hdv hb
  have KB := HB.out wo HBW.out k (by omega)
  rw [HBV.out] at KB
  by_cases hx : Nt.val ws / 2 ^ k % 2 = 0
  · rw [hx] at KB;have HX := Lib.hid hx;clear hx;go_wp2_with fail;refine KB.mono ?_;rintro z w2 ⟨rfl,hb2⟩;have HB2 := Lib.hid (HBW.out.trans (hb2.mono HBW.out.size));clear hb2 KB;go_wp2_with fail;go_roundg (gk - 1);case measure => omega
    case rel => exact ⟨k + 1,by first | rfl | go_num | (simp; try omega),by omega,Rn.two_step HDV.out HX.out,HB2.out⟩
  · have hx1 : Nt.val ws / 2 ^ k % 2 = 1 := by
     have h3 : ∀ z : Nat,¬ z % 2 = 0 → z % 2 = 1 := by omega
     exact h3 _ hx
    have HX := Lib.hid hx1;rw [hx1] at KB;clear hx hx1;go_wp2_with fail;refine KB.mono ?_;rintro z w2 ⟨rfl,hb2⟩;have HB2 := Lib.hid (HBW.out.trans (hb2.mono HBW.out.size));have KD := HDW.out w2 HB2.out k (by omega);clear hb2 KB;go_wp2_with fail;refine KD.mono ?_;rintro z w3 ⟨v3,rfl,hn3,hb3⟩;have HN3 := Lib.hid hn3;have HB3 := Lib.hid (HB2.out.trans (hb3.mono HB2.out.size));clear hn3 hb3 KD;go_wp2_with fail;go_ret;exact ⟨_,k,_,rfl,HN3.out,HX.out,(Nat.mul_div_cancel' HDV.out).symm,HB3.out⟩
set_option maxHeartbeats 200000
set_option maxRecDepth 512
theorem Rn.cop_two {o : Nat} (h : o % 2 = 1) (s : Nat) : Nat.Coprime (2 ^ s) o := by
 refine Nat.Coprime.pow_left s ?_;unfold Nat.Coprime;have h1 : Nat.gcd 2 o ∣ 2 := Nat.gcd_dvd_left 2 o;have h2 : Nat.gcd 2 o ∣ o := Nat.gcd_dvd_right 2 o;have h3 : Nat.gcd 2 o ≤ 2 := Nat.le_of_dvd (by decide) h1;rcases (show Nat.gcd 2 o = 0 ∨ Nat.gcd 2 o = 1 ∨ Nat.gcd 2 o = 2 by omega) with h4 | h4 | h4
 · rw [h4] at h1;have := Nat.eq_zero_of_zero_dvd h1;omega
 · exact h4
 · rw [h4] at h2;have := Nat.mod_eq_zero_of_dvd h2;omega
theorem Rn.gcd_two {o y : Nat} (s : Nat) (hy : y % 2 = 1) : Nat.gcd (2 ^ s * o) y = Nat.gcd o y := by
 have hc := Rn.cop_two hy s;refine Nat.dvd_antisymm (Nat.dvd_gcd ?_ (Nat.gcd_dvd_right _ _)) (Nat.dvd_gcd (Nat.dvd_mul_left_of_dvd (Nat.gcd_dvd_left _ _) _) (Nat.gcd_dvd_right _ _));have h1 : Nat.Coprime (Nat.gcd (2 ^ s * o) y) (2 ^ s) := Nat.Coprime.symm (Nat.Coprime.coprime_dvd_right (Nat.gcd_dvd_right _ _) hc);exact Nat.Coprime.dvd_of_dvd_mul_left h1 (Nat.gcd_dvd_left _ _)
theorem Rn.two_le {t t1 o : Nat} (ho : o % 2 = 1) (h : 2 ^ t ∣ 2 ^ t1 * o) : t ≤ t1 := by
 rcases Nat.lt_or_ge t1 t with h1 | h1
 · have h2 : 2 ^ (t1 + 1) ∣ 2 ^ t1 * o := Nat.dvd_trans (Nat.pow_dvd_pow 2 h1) h;rw [Nat.pow_succ] at h2;have h3 := Nat.dvd_of_mul_dvd_mul_left (Nat.two_pow_pos t1) h2;have := Nat.mod_eq_zero_of_dvd h3;omega
 · exact h1
theorem Rn.gcd_twos {m n t t1 t2 o1 o2 : Nat} (hm : m = 2 ^ t1 * o1) (hn : n = 2 ^ t2 * o2) (h1 : o1 % 2 = 1) (h2 : o2 % 2 = 1) (d1 : 2 ^ t ∣ m) (d2 : 2 ^ t ∣ n) (hx : ¬ (m / 2 ^ t % 2 = 0 ∧ n / 2 ^ t % 2 = 0)) : Nat.gcd m n = 2 ^ t * Nat.gcd o1 o2 := by
 subst hm;subst hn;obtain ⟨s1,rfl⟩ := Nat.exists_eq_add_of_le (Rn.two_le h1 d1);obtain ⟨s2,rfl⟩ := Nat.exists_eq_add_of_le (Rn.two_le h2 d2);rw [Nat.pow_add,Nat.pow_add,Nat.mul_assoc,Nat.mul_assoc] at hx ⊢;rw [Nat.mul_div_cancel_left _ (Nat.two_pow_pos t),Nat.mul_div_cancel_left _ (Nat.two_pow_pos t)] at hx;rw [Nat.gcd_mul_left];congr 1;rcases Nat.eq_zero_or_pos s1 with e | e
 · subst e;rw [Nat.pow_zero,Nat.one_mul,Nat.gcd_comm,Rn.gcd_two s2 h1,Nat.gcd_comm]
 · rcases Nat.eq_zero_or_pos s2 with e2 | e2
   · subst e2;rw [Nat.pow_zero,Nat.one_mul,Rn.gcd_two s1 h2]
   · exfalso;refine hx ⟨?_,?_⟩
     · obtain ⟨s,rfl⟩ : ∃ s,s1 = s + 1 := ⟨s1 - 1,by omega⟩;rw [Nat.pow_succ,Nat.mul_right_comm,Nat.mul_mod_left]
     · obtain ⟨s,rfl⟩ : ∃ s,s2 = s + 1 := ⟨s2 - 1,by omega⟩;rw [Nat.pow_succ,Nat.mul_right_comm,Nat.mul_mod_left]
theorem Rn.gcd_less {x y t o : Nat} (hy : y % 2 = 1) (hlt : y ≤ x) (h : x - y = 2 ^ t * o) : Nat.gcd o y = Nat.gcd x y := by
 rw [← Rn.gcd_two t hy,← h];exact Nat.gcd_sub_self_left hlt
theorem Rn.size_one {x s : Nat} (h0 : 0 < x) (h1 : x < 2 ^ s) (h2 : s = 0 ∨ 2 ^ (s - 1) ≤ x) : s = 1 ↔ x = 1 := by
 constructor
 · rintro rfl;omega
 · rintro rfl;rcases h2 with rfl | h2
   · simp at h1
   · rcases s with _ | _ | s
     · simp at h1
     · rfl
     · have := Nat.pow_le_pow_right (n := 2) (by decide) (show 1 ≤ s + 1 by omega);simp at h2
theorem Rn.dig_le {a b : Nat} (h : a ≤ b) : (Nt.dig a).length ≤ (Nt.dig b).length := by
 rcases Nat.lt_or_ge (Nt.dig b).length (Nt.dig a).length with h1 | h1
 · have := Nt.dig_len_lt h1;omega
 · exact h1
theorem Rn.less_step {vo va vb P c c' d x y : Nat} (h : vo + vb = va + P * c) (hd : d + y + c = x + 4294967296 * c') : (vo + P * d) + (vb + P * y) = (va + P * x) + P * 4294967296 * c' := by
 have h2 := congrArg (P * ·) hd;simp only [Nat.mul_add,← Nat.mul_assoc] at h2;omega
theorem Rn.wd_snoc {ws : List Nat} {d : Nat} (h : Nt.Wd ws) (hd : d < 4294967296) : Nt.Wd (ws ++ [d]) := fun x hx => by
 rcases List.mem_append.1 hx with hx | hx
 · exact h x hx
 · simp at hx; omega
set_option maxHeartbeats 2000000
set_option maxRecDepth 1000000
theorem Rn.Less_any (a b : List Nat) (v v2 : Value) (w : World) (h : Nt.In w v a) (h2 : Nt.In w v2 b) (ha : Nt.Wd a) (hb : Nt.Wd b) (hl : a.length ≤ 1000000) (hll : b.length ≤ a.length) (hab : Nt.val b ≤ Nt.val a) :
 Calls Tryz.prog 113 #[v,v2] w fun e w' => ∃ v',e = .returned v' ∧ Nt.N w' v' (Nt.val a - Nt.val b) ∧ Below w.heap.size w w' := by
 obtain ⟨ad,cap,rfl⟩ := h.slice
 obtain ⟨ad2,cap2,rfl⟩ := h2.slice
 have HWA := Lib.hid (fun w' (hb : Below w.heap.size w w') i => Rn.word_any a _ i w' (h.below hb (Nat.le_refl _)) ha)
 have HWB := Lib.hid (fun w' (hb' : Below w.heap.size w w') i => Rn.word_any b _ i w' (h2.below hb' (Nat.le_refl _)) hb)
 have HX := Lib.hid (fun k => And.intro (ha.getD k) (hb.getD k))
 have HAB := Lib.hid (And.intro hll hab)
 obtain ⟨i0,hi,hz0,hz1,hz2⟩ := info_parts Nt.infoWord
 clear h h2 ha hb hll hab
 go_enter Tryz.func113,Tryz.ntmps113
 go_wp2_with fail
 go_loopg [5,6,7] a.length (fun g vo cv i wr => ∃ (k c : Nat) (ws : List Nat),k + g = a.length ∧ i = .int .i64 k ∧ cv = .int .u64 c ∧ c ≤ 1 ∧ ws.length = k ∧ Nt.Wd ws ∧ Nt.val ws + Nt.val (b.take k) = Nt.val (a.take k) + 4294967296 ^ k * c ∧ wr.ownsRow w.heap.size 57 1 vo k (Nt.vs ws) ∧ Below w.heap.size w wr)
 case atStart => exact ⟨0,0,[],by omega,rfl,rfl,by decide,rfl,fun x hx => by simp at hx,by simp [Nt.val],World.ownsRow_made w #[] 0 (Nat.le_refl _) (by decide) rfl,(Below.refl _ _).alloc (Nat.le_refl _) _⟩
 case round =>
  obtain ⟨k,c,ws,hkg,rfl,rfl,hc1,hwl,hwd,hval,hown,hbw⟩ := hrel
  obtain ⟨wo,hwo⟩ : ∃ z,z = wr := ⟨_,rfl⟩
  subst hwo
  have HO := Lib.hid hown
  have HB := Lib.hid hbw
  have HST := Lib.hid (And.intro hwl (And.intro hwd hval))
  obtain ⟨oa,oc,rfl⟩ := Rn.own_slice hown
  clear hown hbw hwl hwd hval
  by_cases hlt : k < a.length
  · have K1 := HWA.out wo HB.out k;have HK2 := Lib.hid (fun w' hb => HWB.out w' hb k);obtain ⟨hx,hy⟩ := HX.out k;have HVT := Lib.hid (And.intro (Nt.val_take_step a k) (Nt.val_take_step b k));generalize a.getD k 0 = x at *;generalize b.getD k 0 = y at *;go_wp2_with fail;refine K1.mono ?_;rintro z w2 ⟨rfl,hb2⟩;have HB2 := Lib.hid (HB.out.trans (hb2.mono HB.out.size));have HO2 := Lib.hid (Rn.own_below HO.out hb2 (Nat.le_refl _));clear hb2 K1;go_wp2_with fail;refine (HK2.out _ HB2.out).mono ?_;rintro z w3 ⟨rfl,hb3⟩;have HB3 := Lib.hid (HB2.out.trans (hb3.mono HB2.out.size));have HO3 := Lib.hid (Rn.own_below HO2.out hb3 (Nat.le_refl _));clear hb3;by_cases hlt2 : x < y + c
    · have hl2I : (x : Int) < (y : Int) + (c : Int) := by omega
      obtain ⟨d,hd⟩ : ∃ d,d = x + 4294967296 - (y + c) := ⟨_,rfl⟩;have hdI : (x : Int) + 4294967296 - ((y : Int) + (c : Int)) = (d : Int) := by omega
      have HD : Hid (d + y + c = x + 4294967296 * 1 ∧ d < 4294967296) := Lib.hid (by omega);clear hd;go_wp2_with (at_builtin; refine Ls.wpList_append _ rfl _ _ 22 rfl w.heap.size 57 i0 (.int .u32 0) 1 4 Tryz.underlying22 hi hz0 hz1 hz2 rfl (by decide) _ k _ rfl (Rn.own_below HO3.out ((Below.refl _ _).alloc (Nat.le_refl _) _) (Nat.le_refl _)) _ 1 [.int .u32 (d : Int)] rfl (.inr ⟨_,_,rfl,rfl,World.news_of_block (heap_alloc_new _ _)⟩) (by intro u hu; simp at hu; subst hu; rfl) (by simp only [maxLen]; omega) (by omega) (Nat.le_trans HB3.out.size (by simp)) ?_);intro v' w' hown hg _;rw [show Nt.vs ws ++ [.int .u32 (d : Int)] = Nt.vs (ws ++ [d]) by simp [Nt.vs]] at hown;have HON := Lib.hid hown;have hbA : Below w.heap.size w (w3.alloc (.cells #[.int .u32 (d : Int)] 57)) := HB3.out.alloc HB3.out.size _;have HBN := Lib.hid (hbA.grown hg hbA.size (fun q hq => (Rn.own_below HO3.out ((Below.refl _ _).alloc (Nat.le_refl _) (.cells #[.int .u32 (d : Int)] 57)) (Nat.le_refl _)).lt q hq |>.1));obtain ⟨na,nc,rfl⟩ := Rn.own_slice hown;clear hown hg hbA;go_wp2_with fail;go_roundg (gk - 1);case measure => omega
      case rel =>
       obtain ⟨h1,h2,h3⟩ := HST.out;refine ⟨k + 1,1,ws ++ [d],by omega,by first | rfl | go_num | (simp; try omega),rfl,by decide,by simp [h1],Rn.wd_snoc h2 HD.out.2,?_,HON.out,HBN.out⟩;rw [Nt.val_append,HVT.out.1,HVT.out.2,h1,Nat.pow_succ];have := Rn.less_step h3 HD.out.1;simpa [Nt.val] using this
    · have hl2I : ¬ (x : Int) < (y : Int) + (c : Int) := by omega
      obtain ⟨d,hd⟩ : ∃ d,d = x - (y + c) := ⟨_,rfl⟩;have hdI : (x : Int) - ((y : Int) + (c : Int)) = (d : Int) := by omega
      have HD : Hid (d + y + c = x + 4294967296 * 0 ∧ d < 4294967296) := Lib.hid (by omega);clear hd;go_wp2_with (at_builtin; refine Ls.wpList_append _ rfl _ _ 22 rfl w.heap.size 57 i0 (.int .u32 0) 1 4 Tryz.underlying22 hi hz0 hz1 hz2 rfl (by decide) _ k _ rfl (Rn.own_below HO3.out ((Below.refl _ _).alloc (Nat.le_refl _) _) (Nat.le_refl _)) _ 1 [.int .u32 (d : Int)] rfl (.inr ⟨_,_,rfl,rfl,World.news_of_block (heap_alloc_new _ _)⟩) (by intro u hu; simp at hu; subst hu; rfl) (by simp only [maxLen]; omega) (by omega) (Nat.le_trans HB3.out.size (by simp)) ?_);intro v' w' hown hg _;rw [show Nt.vs ws ++ [.int .u32 (d : Int)] = Nt.vs (ws ++ [d]) by simp [Nt.vs]] at hown;have HON := Lib.hid hown;have hbA : Below w.heap.size w (w3.alloc (.cells #[.int .u32 (d : Int)] 57)) := HB3.out.alloc HB3.out.size _;have HBN := Lib.hid (hbA.grown hg hbA.size (fun q hq => (Rn.own_below HO3.out ((Below.refl _ _).alloc (Nat.le_refl _) (.cells #[.int .u32 (d : Int)] 57)) (Nat.le_refl _)).lt q hq |>.1));obtain ⟨na,nc,rfl⟩ := Rn.own_slice hown;clear hown hg hbA;go_wp2_with fail;go_roundg (gk - 1);case measure => omega
      case rel =>
       obtain ⟨h1,h2,h3⟩ := HST.out;refine ⟨k + 1,0,ws ++ [d],by omega,by first | rfl | go_num | (simp; try omega),rfl,by decide,by simp [h1],Rn.wd_snoc h2 HD.out.2,?_,HON.out,HBN.out⟩;rw [Nt.val_append,HVT.out.1,HVT.out.2,h1,Nat.pow_succ];have := Rn.less_step h3 HD.out.1;simpa [Nt.val] using this
  · have hk : k = a.length := by omega
    subst hk;obtain ⟨h1,h2,h3⟩ := HST.out;have hN : Nt.val ws = Nt.val a - Nt.val b := by
     rw [List.take_length,List.take_of_length_le HAB.out.1] at h3;exact Nt.less_end h2 h1 h3 HAB.out.2
    have KN := Rn.Norm_any ws (.slice oa a.length oc) wo (Nt.In.of_own (B := w.heap.size) (t := 57) (by rw [h1]; exact HO.out)) h2 (by omega);rw [hN] at KN;clear hN h1 h2 h3;go_wp2_with fail;refine KN.mono ?_;rintro z w8 ⟨v8,rfl,hn8,hb8⟩;have HN8 := Lib.hid hn8;have HB8 := Lib.hid (HB.out.trans (hb8.mono HB.out.size));clear hn8 hb8;go_wp2_with fail;go_ret;exact ⟨_,rfl,HN8.out,HB8.out⟩
set_option maxHeartbeats 200000
set_option maxRecDepth 512
theorem Rn.or_low64 {c m s : Nat} (hs : s < 64) (hc : c < 2 ^ s) (hm : 2 ^ s ∣ m) (h : c + m < 18446744073709551616) : bits .or .u64 (c : Int) (m : Int) = ((c + m : Nat) : Int) := by
 have hk : ∀ n : Int,0 ≤ n → n < 2 ^ 64 → IntKind.u64.wrap n = n := fun n h0 h1 => by rw [IntKind.wrap_u64]; omega
 rw [(bits_nat .u64 64 (by decide) hk c m (by omega) (by omega)).2];obtain ⟨q,rfl⟩ := hm;rw [Nat.or_comm,Nat.mul_comm,← Nat.shiftLeft_eq,← Nat.shiftLeft_add_eq_or_of_lt hc,Nat.add_comm]
theorem Rn.own_zeros (w : World) (q : Nat) (hq : q ≤ 1000000) : (w.alloc (.cells (Nt.row (List.replicate q 0)) 57)).ownsRow w.heap.size 57 1 (.slice (some ⟨w.heap.size,0,none⟩) q q) q (Nt.vs (List.replicate q 0)) := by
 refine ⟨by simp [Nt.vs],.inr ⟨w.heap.size,q,_,rfl,Nat.le_refl _,heap_alloc_new w _,Nat.le_refl _,by simp only [maxLen]; omega,by simp [Nt.row],?_⟩⟩;rw [Nat.mul_one];have : (Nt.row (List.replicate q 0)).toList = Nt.vs (List.replicate q 0) := by simp [Nt.row,Nt.vs]
 rw [this];exact List.take_of_length_le (by simp [Nt.vs])
set_option maxHeartbeats 2000000
set_option maxRecDepth 1000000
theorem Rn.Up_any (a : List Nat) (n : Nat) (v : Value) (w : World) (h : Nt.In w v a) (ha : Nt.Wd a) (hl : a.length ≤ 400000) (hn : n ≤ 16000000) :
 Calls Tryz.prog 112 #[v,.int .i64 n] w fun e w' => ∃ v',e = .returned v' ∧ Nt.N w' v' (2 ^ n * Nt.val a) ∧ Below w.heap.size w w' := by
 obtain ⟨ad,cap,rfl⟩ := h.slice
 have HWA := Lib.hid (fun w' (hb : Below w.heap.size w w') i => Rn.word_any a _ i w' (h.below hb (Nat.le_refl _)) ha)
 have HX := Lib.hid (fun k => ha.getD k)
 obtain ⟨i0,hi,hz0,hz1,hz2⟩ := info_parts Nt.infoWord
 have hmk := Nt.make (n / 32) w (by omega)
 rw [show ((n / 32 : Nat) : Int) = (n : Int) / 32 by omega] at hmk
 have hr : n % 32 < 32 := Nat.mod_lt _ (by decide)
 have HP : Hid (2 ^ n = 4294967296 ^ (n / 32) * 2 ^ (n % 32)) := Lib.hid (by rw [Rn.b32,← Nat.pow_add,Nat.div_add_mod])
 have HW0 := Lib.hid (Rn.own_zeros w (n / 32) (by omega))
 clear h ha
 go_enter Tryz.func112,Tryz.ntmps112
 go_wp2_with fail
 go_loopg [5,6,7] (a.length + 1) (fun g vo cv i wr => ∃ (k c : Nat) (ws : List Nat),k + g = a.length + 1 ∧ i = .int .i64 k ∧ cv = .int .u64 c ∧ c < 2 ^ (n % 32) ∧ ws.length = n / 32 + k ∧ Nt.Wd ws ∧ Nt.val ws + 4294967296 ^ (n / 32 + k) * c = 2 ^ n * Nt.val (a.take k) ∧ (k = a.length + 1 → c = 0) ∧ wr.ownsRow w.heap.size 57 1 vo (n / 32 + k) (Nt.vs ws) ∧ Below w.heap.size w wr)
 case atStart => exact ⟨0,0,List.replicate (n / 32) 0,by omega,rfl,rfl,Nat.two_pow_pos _,by simp,Nt.Wd.zeros _,by simp [Nt.val,Nt.val_replicate],fun _ => rfl,HW0.out,(Below.refl _ _).alloc (Nat.le_refl _) _⟩
 case round =>
  obtain ⟨k,c,ws,hkg,rfl,rfl,hc1,hwl,hwd,hval,hcz,hown,hbw⟩ := hrel
  obtain ⟨wo,hwo⟩ : ∃ z,z = wr := ⟨_,rfl⟩
  subst hwo
  obtain ⟨L,hL⟩ : ∃ z,z = n / 32 + k := ⟨_,rfl⟩
  rw [← hL] at hwl hval hown
  have HO := Lib.hid hown
  have HB := Lib.hid hbw
  have HST := Lib.hid (And.intro hwl (And.intro hwd (And.intro hval (And.intro hcz hL))))
  obtain ⟨oa,oc,rfl⟩ := Rn.own_slice hown
  have hL2 : L ≤ 900001 := by omega
  have HKL := Lib.hid hkg
  clear hown hbw hwl hwd hval hcz hL
  by_cases hlt : k ≤ a.length
  · have K1 := HWA.out wo HB.out k;have hx := HX.out k;have HVT := Lib.hid (Nt.val_take_step a k);have HXZ : Hid (k = a.length → a.getD k 0 = 0) := Lib.hid (fun e => Nt.getD_ge a k (by omega));generalize a.getD k 0 = x at *;have hp32 : 2 ^ (n % 32) ≤ 2147483648 := by
     have := Nat.pow_le_pow_right (n := 2) (by decide) (show n % 32 ≤ 31 by omega);exact this
    have hxp : x * 2 ^ (n % 32) ≤ 4294967295 * 2147483648 := Nat.mul_le_mul (by omega) hp32;have hor := Rn.or_low64 (s := n % 32) (c := c) (m := x * 2 ^ (n % 32)) (by omega) hc1 ⟨x,Nat.mul_comm _ _⟩ (by omega);obtain ⟨P,hP⟩ : ∃ P,P = x * 2 ^ (n % 32) := ⟨_,rfl⟩;rw [← hP] at hor hxp;have hPI : (x : Int) * 2 ^ (n % 32) = (P : Int) := by rw [hP,Int.natCast_mul,Int.natCast_pow]; rfl
    have hPm : (P : Int) % 18446744073709551616 = (P : Int) := by omega
    have HPX := Lib.hid hP;clear hP;go_wp2_with fail;refine K1.mono ?_;rintro z w2 ⟨rfl,hb2⟩;have HB2 := Lib.hid (HB.out.trans (hb2.mono HB.out.size));have HO2 := Lib.hid (Rn.own_below HO.out hb2 (Nat.le_refl _));clear hb2 K1;obtain ⟨d,hd⟩ : ∃ d,d = (c + P) % 4294967296 := ⟨_,rfl⟩;obtain ⟨c2,hc2⟩ : ∃ z,z = (c + P) / 4294967296 := ⟨_,rfl⟩;have hdI : ((c : Int) + (P : Int)) % 4294967296 = (d : Int) := by omega
    have hcI : ((c : Int) + (P : Int)) / 4294967296 = (c2 : Int) := by omega
    have HDC := Lib.hid (show d + 4294967296 * c2 = c + P ∧ d < 4294967296 by omega);have HC2 : Hid (c2 < 2 ^ (n % 32) ∧ (k = a.length → c2 = 0)) := Lib.hid (by
      refine ⟨?_,fun e => ?_⟩
      · rw [hc2];refine Nat.div_lt_of_lt_mul ?_;have h1 : x * 2 ^ (n % 32) ≤ 4294967295 * 2 ^ (n % 32) := Nat.mul_le_mul_right _ (by omega);rw [← HPX.out] at h1;omega
      · have h1 := HPX.out;rw [HXZ.out e,Nat.zero_mul] at h1;rw [hc2,h1]
        omega)
    clear hd hc2;go_wp2_with (at_builtin; refine Ls.wpList_append _ rfl _ _ 22 rfl w.heap.size 57 i0 (.int .u32 0) 1 4 Tryz.underlying22 hi hz0 hz1 hz2 rfl (by decide) _ L _ rfl (Rn.own_below HO2.out ((Below.refl _ _).alloc (Nat.le_refl _) _) (Nat.le_refl _)) _ 1 [.int .u32 (d : Int)] rfl (.inr ⟨_,_,rfl,rfl,World.news_of_block (heap_alloc_new _ _)⟩) (by intro u hu; simp at hu; subst hu; rfl) (by simp only [maxLen]; omega) (by omega) (Nat.le_trans HB2.out.size (by simp)) ?_);intro v' w' hown hg _;rw [show Nt.vs ws ++ [.int .u32 (d : Int)] = Nt.vs (ws ++ [d]) by simp [Nt.vs]] at hown;have HON := Lib.hid hown;have hbA : Below w.heap.size w (w2.alloc (.cells #[.int .u32 (d : Int)] 57)) := HB2.out.alloc HB2.out.size _;have HBN := Lib.hid (hbA.grown hg hbA.size (fun q hq => (Rn.own_below HO2.out ((Below.refl _ _).alloc (Nat.le_refl _) (.cells #[.int .u32 (d : Int)] 57)) (Nat.le_refl _)).lt q hq |>.1));obtain ⟨na,nc,rfl⟩ := Rn.own_slice hown;clear hown hg hbA;go_wp2_with fail;go_roundg (gk - 1);case measure => omega
    case rel =>
     obtain ⟨h1,h2,h3,h4,h5⟩ := HST.out;refine ⟨k + 1,c2,ws ++ [d],by omega,by first | rfl | go_num | (simp; try omega),by first | rfl | simp,HC2.out.1,by simp [h1,h5]; omega,Rn.wd_snoc h2 HDC.out.2,?_,fun e => HC2.out.2 (by omega),by rw [show n / 32 + (k + 1) = L + 1 by omega]; exact HON.out,HBN.out⟩;rw [Nt.val_append,HVT.out,h1,show n / 32 + (k + 1) = L + 1 by omega,Nat.mul_add,← h3,HP.out];have e1 : Nt.val [d] = d := by simp [Nt.val]
     have e2 : 4294967296 ^ (n / 32) * 2 ^ (n % 32) * (4294967296 ^ k * x) = 4294967296 ^ L * P := by
      rw [HPX.out,h5,Nat.pow_add];simp only [Nat.mul_assoc,Nat.mul_left_comm,Nat.mul_comm]
     rw [e1,e2,Nat.pow_succ];have e3 := congrArg (4294967296 ^ L * ·) HDC.out.1;simp only [Nat.mul_add,← Nat.mul_assoc] at e3;omega
  · have hk : k = a.length + 1 := by omega
    obtain ⟨h1,h2,h3,h4,h5⟩ := HST.out;have hN : Nt.val ws = 2 ^ n * Nt.val a := by
     rw [h4 hk,Nat.mul_zero,Nat.add_zero,List.take_of_length_le (by omega)] at h3;exact h3
    have KN := Rn.Norm_any ws (.slice oa L oc) wo (Nt.In.of_own (B := w.heap.size) (t := 57) (by rw [h1]; exact HO.out)) h2 (by omega);rw [hN] at KN;clear hN h1 h2 h3 h4 h5;go_wp2_with fail;refine KN.mono ?_;rintro z w8 ⟨v8,rfl,hn8,hb8⟩;have HN8 := Lib.hid hn8;have HB8 := Lib.hid (HB.out.trans (hb8.mono HB.out.size));clear hn8 hb8;go_wp2_with fail;go_ret;exact ⟨_,rfl,HN8.out,HB8.out⟩
set_option maxHeartbeats 4000000
theorem Rn.Order_any (m n : Nat) (v v2 : Value) (w : World) (h : Nt.N w v m) (h2 : Nt.N w v2 n) (hl : (Nt.dig m).length ≤ 4611686018427387904) (hl2 : (Nt.dig n).length ≤ 4611686018427387904) : Calls Tryz.prog 110 #[v,v2] w fun e w' => e = .returned (.int .i64 (Nt.cmp m n)) ∧ Below w.heap.size w w' := by
 unfold Nt.N at h h2;have hwa := Nt.dig_wd m;have hwb := Nt.dig_wd n;have hva := Nt.val_dig m;have hvb := Nt.val_dig n;have hlt1 : (Nt.dig m).length < (Nt.dig n).length → Nt.cmp m n = -1 := fun h => Nt.cmp_lt (Nt.dig_len_lt h);have hlt2 : (Nt.dig n).length < (Nt.dig m).length → Nt.cmp m n = 1 := fun h => Nt.cmp_gt (Nt.dig_len_lt h);have heq : (Nt.dig m).length = (Nt.dig n).length → (∀ j,j < (Nt.dig m).length → (Nt.dig m).getD j 0 = (Nt.dig n).getD j 0) → Nt.cmp m n = 0 := fun h1 h2 => by
  rw [Nt.dig_same h1 h2,Nt.cmp_eq]
 have hd1 : (Nt.dig m).length = (Nt.dig n).length → ∀ i,i < (Nt.dig m).length → (∀ j,i < j → j < (Nt.dig m).length → (Nt.dig m).getD j 0 = (Nt.dig n).getD j 0) → (Nt.dig m).getD i 0 < (Nt.dig n).getD i 0 → Nt.cmp m n = -1 := fun hl i hi hs hx => by
  have := Nt.val_lt_of hwa hwb hl hi hx hs;rw [hva,hvb] at this;exact Nt.cmp_lt this
 have hd2 : (Nt.dig m).length = (Nt.dig n).length → ∀ i,i < (Nt.dig m).length → (∀ j,i < j → j < (Nt.dig m).length → (Nt.dig m).getD j 0 = (Nt.dig n).getD j 0) → (Nt.dig n).getD i 0 < (Nt.dig m).getD i 0 → Nt.cmp m n = 1 := fun hl i hi hs hx => by
  have := Nt.val_lt_of hwb hwa hl.symm (by omega) hx (fun j h1 h2 => (hs j h1 (by omega)).symm);rw [hva,hvb] at this;exact Nt.cmp_gt this
 generalize Nt.dig m = a at *;generalize Nt.dig n = b at *;generalize Nt.cmp m n = r at *;obtain ⟨ad,cap,rfl⟩ := h.slice;obtain ⟨ad2,cap2,rfl⟩ := h2.slice;have H := Lib.hid h;have H2 := Lib.hid h2;have HL1 := Lib.hid hlt1;have HL2 := Lib.hid hlt2;have HE := Lib.hid heq;have HD1 := Lib.hid hd1;have HD2 := Lib.hid hd2;clear h h2 hwa hwb hva hvb hlt1 hlt2 heq hd1 hd2;by_cases hne : a.length = b.length;case neg =>
  by_cases hlt : a.length < b.length
  · obtain rfl := HL1.out hlt;have hltI : (a.length : Int) < (b.length : Int) := by omega
    have hgtI : ¬ (a.length : Int) > (b.length : Int) := by omega
    clear hne;go_enter Tryz.func110,Tryz.ntmps110;go_wp2_with fail;go_ret;exact ⟨rfl,Below.refl _ _⟩
  · obtain rfl := HL2.out (by omega);have hgtI : (a.length : Int) > (b.length : Int) := by omega
    clear hne;go_enter Tryz.func110,Tryz.ntmps110;go_wp2_with fail;go_ret;exact ⟨rfl,Below.refl _ _⟩
 case pos =>
  have hltI : ¬ (a.length : Int) < (b.length : Int) := by omega
  have hgtI : ¬ (a.length : Int) > (b.length : Int) := by omega
  have HNE := Lib.hid hne;clear hne;go_enter Tryz.func110,Tryz.ntmps110;go_wp2_with fail;go_loopw [5] (fun i wr => ∃ k : Nat,i = .int .i64 ((k : Int) - 1) ∧ k ≤ a.length ∧ (∀ j,k ≤ j → j < a.length → a.getD j 0 = b.getD j 0) ∧ Below w.heap.size w wr) (fun i _ => (intOf i + 1).toNat);case atStart => exact ⟨a.length,by first | rfl | go_num | (simp; try omega),Nat.le_refl _,fun j h1 h2 => by omega,Below.refl _ _⟩
  case round =>
   obtain ⟨k,rfl,hk,hz,hbw⟩ := hrel;have HZ := Lib.hid hz;have HBW := Lib.hid hbw;clear hz hbw;rcases k with _ | k
   · obtain rfl := HE.out HNE.out (fun j hj => HZ.out j (Nat.zero_le _) hj);go_wp2_with fail;go_ret;exact ⟨rfl,HBW.out⟩
   · obtain ⟨b1,o1,rfl,_,hcap1,hbl1,hcell1⟩ := (H.out.below HBW.out (Nat.le_refl _)).at (by omega);obtain ⟨b2,o2,rfl,_,hcap2,hbl2,hcell2⟩ := (H2.out.below HBW.out (Nat.le_refl _)).at (by have := HNE.out; omega);have c1 := hcell1 k (by omega);have c2 := hcell2 k (by have := HNE.out; omega);have hk1 : (((k + 1 : Nat) : Int) - 1) = (k : Int) := by omega
     rw [hk1];have hkk : k < a.length := by omega
     have hi0 : (0 : Int) ≤ (k : Int) := by omega
     have hi1 : (k : Int) < (a.length : Int) := by omega
     have hi2 : (k : Int) < (b.length : Int) := by have := HNE.out; omega
     have hx1 := fun h => HD1.out HNE.out k hkk (fun j h1 h2 => HZ.out j (by omega) h2) h;have hx2 := fun h => HD2.out HNE.out k hkk (fun j h1 h2 => HZ.out j (by omega) h2) h;have hx3 : a.getD k 0 = b.getD k 0 → ∀ j,k ≤ j → j < a.length → a.getD j 0 = b.getD j 0 := fun h j h1 h2 => by
      rcases Nat.lt_or_ge k j with h3 | h3
      · exact HZ.out j (by omega) h2
      · obtain rfl : j = k := by omega
        exact h
     have HX1 := Lib.hid hx1;have HX2 := Lib.hid hx2;have HX3 := Lib.hid hx3;have HBX : Hid (∀ n,Below w.heap.size w (wr.drewN n)) := Lib.hid (fun n => Nt.drewN HBW.out n);clear hx1 hx2 hx3 hcell1 hcell2;generalize a.getD k 0 = x at *;generalize b.getD k 0 = y at *;by_cases h1 : y < x
     · obtain rfl := HX2.out h1;have h1I : (x : Int) > (y : Int) := by omega
       clear h1;go_wp2_with fail;go_quiet (fail);go_wp2_with fail;go_ret;exact ⟨rfl,HBX.out _⟩
     · have h1I : ¬ (x : Int) > (y : Int) := by omega
       by_cases h2 : x < y
       · obtain rfl := HX1.out h2;have h2I : (x : Int) < (y : Int) := by omega
         go_wp2_with fail;go_quiet (fail);go_wp2_with fail;go_quiet (fail);go_wp2_with fail;go_ret;exact ⟨rfl,Nt.drewN (HBX.out _) _⟩
       · have h2I : ¬ (x : Int) < (y : Int) := by omega
         have HXX := Lib.hid (HX3.out (by omega));go_wp2_with fail;go_quiet (fail);go_wp2_with fail;go_quiet (fail);go_wp2_with fail;go_roundw;case rel => exact ⟨k,by first | rfl | go_num | (simp; try omega),by omega,HXX.out,by first | exact HBX.out _ | exact Nt.drewN (HBX.out _) _⟩
         case measure => simp [intOf]
set_option maxHeartbeats 2000000
theorem Rn.Divisor_any (m n : Nat) (v v2 : Value) (w : World) (h : Nt.N w v m) (h2 : Nt.N w v2 n) (hl : (Nt.dig m).length ≤ 400000) (hl2 : (Nt.dig n).length ≤ 400000) :
 Calls Tryz.prog 81 #[v,v2] w fun e w' => ∃ v',e = .returned v' ∧ Nt.N w' v' (Nat.gcd m n) ∧ Below w.heap.size w w' := by
 obtain ⟨ad,cap,rfl⟩ := Nt.In.slice h
 obtain ⟨ad2,cap2,rfl⟩ := Nt.In.slice h2
 rcases Nat.eq_zero_or_pos m with hm0 | hm0
 · have hlen : (Nt.dig m).length = 0 := by rw [hm0,Nt.dig_zero]; rfl
   rw [hlen];have KN := Rn.Norm_any (Nt.dig n) _ w h2 (Nt.dig_wd _) (by omega);rw [Nt.val_dig] at KN;have HG : Hid (Nat.gcd m n = n) := Lib.hid (by rw [hm0,Nat.gcd_zero_left]);clear h h2 hlen hm0;go_enter Tryz.func81,Tryz.ntmps81;go_wp2_with fail;refine KN.mono ?_;rintro z w8 ⟨v8,rfl,hn8,hb8⟩;have HN8 := Lib.hid (And.intro hn8 hb8);clear hn8 hb8;go_wp2_with fail;go_ret;exact ⟨_,rfl,by rw [HG.out]; exact HN8.out.1,HN8.out.2⟩
 have hmI : (((Nt.dig m).length : Int) == 0) = false := by
  have := Nt.dig_len_pos.2 hm0;exact beq_eq_false_iff_ne.2 (by omega)
 rcases Nat.eq_zero_or_pos n with hn0 | hn0
 · have hlen : (Nt.dig n).length = 0 := by rw [hn0,Nt.dig_zero]; rfl
   rw [hlen];have KN := Rn.Norm_any (Nt.dig m) _ w h (Nt.dig_wd _) (by omega);rw [Nt.val_dig] at KN;have HG : Hid (Nat.gcd m n = m) := Lib.hid (by rw [hn0,Nat.gcd_zero_right]);clear h h2 hlen hm0 hn0;go_enter Tryz.func81,Tryz.ntmps81;go_wp2_with fail;refine KN.mono ?_;rintro z w8 ⟨v8,rfl,hn8,hb8⟩;have HN8 := Lib.hid (And.intro hn8 hb8);clear hn8 hb8;go_wp2_with fail;go_ret;exact ⟨_,rfl,by rw [HG.out]; exact HN8.out.1,HN8.out.2⟩
 have hnI : (((Nt.dig n).length : Int) == 0) = false := by
  have := Nt.dig_len_pos.2 hn0;exact beq_eq_false_iff_ne.2 (by omega)
 have HBM : Hid (∀ w',Below w.heap.size w w' → ∀ k,k ≤ 4611686018427387904 → Calls Tryz.prog 108 #[.slice ad (Nt.dig m).length cap,.int .i64 (k : Nat)] w' fun e w'' => e = .returned (.int .u32 (m / 2 ^ k % 2 : Nat)) ∧ Below w'.heap.size w' w'') := Lib.hid (fun w' hb k hk => by
   have := Rn.Bit_any (Nt.dig m) _ k w' (Nt.In.below h hb (Nat.le_refl _)) (Nt.dig_wd _) hk;rw [Rn.bit_val (Nt.dig_wd _),Nt.val_dig] at this
   exact this)
 have HBN : Hid (∀ w',Below w.heap.size w w' → ∀ k,k ≤ 4611686018427387904 → Calls Tryz.prog 108 #[.slice ad2 (Nt.dig n).length cap2,.int .i64 (k : Nat)] w' fun e w'' => e = .returned (.int .u32 (n / 2 ^ k % 2 : Nat)) ∧ Below w'.heap.size w' w'') := Lib.hid (fun w' hb k hk => by
   have := Rn.Bit_any (Nt.dig n) _ k w' (Nt.In.below h2 hb (Nat.le_refl _)) (Nt.dig_wd _) hk;rw [Rn.bit_val (Nt.dig_wd _),Nt.val_dig] at this
   exact this)
 have HOM := Lib.hid (fun w' (hb : Below w.heap.size w w') => Rn.odd_any (Nt.dig m) _ w' (Nt.In.below h hb (Nat.le_refl _)) (Nt.dig_wd _) (by omega) (by rw [Nt.val_dig]; exact hm0))
 have HON := Lib.hid (fun w' (hb : Below w.heap.size w w') => Rn.odd_any (Nt.dig n) _ w' (Nt.In.below h2 hb (Nat.le_refl _)) (Nt.dig_wd _) (by omega) (by rw [Nt.val_dig]; exact hn0))
 rw [Nt.val_dig] at HOM HON
 have HVM : Hid (m < 2 ^ (32 * (Nt.dig m).length)) := Lib.hid (by have := Nt.val_lt (Nt.dig m) (Nt.dig_wd _); rw [Nt.val_dig,Rn.b32] at this; exact this)
 have HM0 := Lib.hid hm0
 have HML := Lib.hid (And.intro hl hl2)
 clear h h2 hm0 hn0
 go_enter Tryz.func81,Tryz.ntmps81
 go_wp2_with fail
 go_loopg [5] (32 * (Nt.dig m).length) (fun g i wr => ∃ k : Nat,i = .int .i64 k ∧ k + g = 32 * (Nt.dig m).length ∧ 2 ^ k ∣ m ∧ 2 ^ k ∣ n ∧ Below w.heap.size w wr)
 case atStart => exact ⟨0,by first | rfl | go_num | (simp; try omega),by omega,by simp,by simp,Below.refl _ _⟩
 case round =>
  obtain ⟨k,rfl,hk,hd1,hd2,hb⟩ := hrel
  obtain ⟨wo,hwo⟩ : ∃ z,z = wr := ⟨_,rfl⟩
  subst hwo
  have hklt : k < 32 * (Nt.dig m).length := by
   rcases Nat.lt_or_ge k (32 * (Nt.dig m).length) with h1 | h1
   · exact h1
   · have h2 := Nat.le_of_dvd HM0.out hd1;have h3 : 2 ^ (32 * (Nt.dig m).length) ≤ 2 ^ k := Nat.pow_le_pow_right (by decide) h1;have := HVM.out;omega
  have HDV := Lib.hid (And.intro hd1 hd2)
  have HBW := Lib.hid hb
  have HKL : Hid (k ≤ 16000000 ∧ k < 32 * (Nt.dig m).length) := Lib.hid (by omega)
  have KM := HBM.out wo HBW.out k (by omega)
  clear hd1 hd2 hb
  by_cases hx : m / 2 ^ k % 2 = 0
  · rw [hx] at KM;have HX1 := Lib.hid hx;clear hx;go_wp2_with fail;refine KM.mono ?_;rintro z w1 ⟨rfl,hb1⟩;have HB1 := Lib.hid (HBW.out.trans (hb1.mono HBW.out.size));have KNN := HBN.out w1 HB1.out k (by omega);clear hb1 KM;by_cases hx2 : n / 2 ^ k % 2 = 0
    · rw [hx2] at KNN;have HX2 := Lib.hid hx2;clear hx2;go_wp2_with fail;refine KNN.mono ?_;rintro z w2 ⟨rfl,hb2⟩;have HB2 := Lib.hid (HB1.out.trans (hb2.mono HB1.out.size));clear hb2 KNN;go_wp2_with fail;go_roundg (gk - 1);case measure => omega
      case rel => exact ⟨k + 1,by first | rfl | go_num | (simp; try omega),by omega,Rn.two_step HDV.out.1 HX1.out,Rn.two_step HDV.out.2 HX2.out,HB2.out⟩
    · have HEX : Hid (¬ (m / 2 ^ k % 2 = 0 ∧ n / 2 ^ k % 2 = 0)) := Lib.hid (fun h => hx2 h.2);have hx1 : n / 2 ^ k % 2 = 1 := by
       have h3 : ∀ z : Nat,¬ z % 2 = 0 → z % 2 = 1 := by omega
       exact h3 _ hx2
      rw [hx1] at KNN;clear hx2 hx1;go_wp2_with fail;refine KNN.mono ?_;rintro z w2 ⟨rfl,hb2⟩;have HB2 := Lib.hid (HB1.out.trans (hb2.mono HB1.out.size));clear hb2 KNN hk hklt;go_wp2_with fail;refine (HOM.out w2 HB2.out).mono ?_;rintro z w3 ⟨v3,t1,o1,rfl,hn3,ho1,hm1,hb3⟩;have HB3 := Lib.hid (HB2.out.trans (hb3.mono HB2.out.size));obtain ⟨a3,c3,rfl⟩ := Nt.In.slice hn3;have HN3 := Lib.hid (And.intro hn3 (And.intro ho1 hm1));clear hn3 ho1 hm1 hb3;go_wp2_with fail;refine (HON.out w3 HB3.out).mono ?_;rintro z w4 ⟨v4,t2,o2,rfl,hn4,ho2,hm2,hb4⟩;have HB4 := Lib.hid (HB3.out.trans (hb4.mono HB3.out.size));obtain ⟨a4,c4,rfl⟩ := Nt.In.slice hn4;have HN4 := Lib.hid (And.intro hn4 (And.intro ho2 hm2));have HN3' := Lib.hid (Nt.In.below HN3.out.1 hb4 (Nat.le_refl _));have HG : Hid (Nat.gcd m n = 2 ^ k * Nat.gcd o1 o2) := Lib.hid (Rn.gcd_twos HN3.out.2.2 hm2 HN3.out.2.1 ho2 HDV.out.1 HDV.out.2 HEX.out);have HLO : Hid ((Nt.dig o1).length ≤ 400000 ∧ (Nt.dig o2).length ≤ 400000) := Lib.hid ⟨Nat.le_trans (Rn.dig_le (by rw [HN3.out.2.2]; exact Nat.le_mul_of_pos_left _ (Nat.two_pow_pos _))) HML.out.1,Nat.le_trans (Rn.dig_le (by rw [hm2]; exact Nat.le_mul_of_pos_left _ (Nat.two_pow_pos _))) HML.out.2⟩;clear hn4 ho2 hm2 hb4;go_wp2_with fail
      go_loopg [0,1] (o1 + o2) (fun g va vb wr => ∃ x y : Nat,x + y = g ∧ Nt.N wr va x ∧ Nt.N wr vb y ∧ x % 2 = 1 ∧ y % 2 = 1 ∧ Nat.gcd x y = Nat.gcd o1 o2 ∧ (Nt.dig x).length ≤ 400000 ∧ (Nt.dig y).length ≤ 400000 ∧ Below w.heap.size w wr);case atStart => exact ⟨o1,o2,rfl,HN3'.out,HN4.out.1,HN3.out.2.1,HN4.out.2.1,rfl,HLO.out.1,HLO.out.2,HB4.out⟩
      case round =>
       obtain ⟨x,y,hg,hnx,hny,hox,hoy,hgc,hlx,hly,hbp⟩ := hrel;obtain ⟨wp,hwp⟩ : ∃ z,z = wr := ⟨_,rfl⟩;subst hwp;have HXY := Lib.hid (And.intro hnx (And.intro hny (And.intro hox (And.intro hoy (And.intro hgc (And.intro hlx hly))))));have HBP := Lib.hid hbp;have HXP : Hid (0 < x ∧ 0 < y) := Lib.hid (by omega);obtain ⟨px,cx,rfl⟩ := Nt.In.slice hnx;obtain ⟨py,cy,rfl⟩ := Nt.In.slice hny;have HORD := Lib.hid (fun w' (hb : Below wp.heap.size wp w') => Rn.Order_any x y _ _ w' (Nt.In.below hnx hb (Nat.le_refl _)) (Nt.In.below hny hb (Nat.le_refl _)) (by omega) (by omega));have HSX := Lib.hid (fun w' (hb : Below wp.heap.size wp w') => Rn.Size_any (Nt.dig x) _ w' (Nt.In.below hnx hb (Nat.le_refl _)) (Nt.dig_wd _) (by omega));have HSY := Lib.hid (fun w' (hb : Below wp.heap.size wp w') => Rn.Size_any (Nt.dig y) _ w' (Nt.In.below hny hb (Nat.le_refl _)) (Nt.dig_wd _) (by omega));rw [Nt.val_dig] at HSX HSY;clear hnx hny hox hoy hgc hbp;rcases Nat.lt_trichotomy x y with hxy | hxy | hxy
       · have HLT := Lib.hid hxy;have HLS := Lib.hid (fun w' (hb : Below wp.heap.size wp w') => Rn.Less_any (Nt.dig y) (Nt.dig x) _ _ w' (Nt.In.below HXY.out.2.1 hb (Nat.le_refl _)) (Nt.In.below HXY.out.1 hb (Nat.le_refl _)) (Nt.dig_wd _) (Nt.dig_wd _) (by omega) (Rn.dig_le (by omega)) (by rw [Nt.val_dig,Nt.val_dig]; omega));rw [Nt.val_dig,Nt.val_dig] at HLS;have HLEN : Hid ((Nt.dig (y - x)).length ≤ 1000000) := Lib.hid (Nat.le_trans (Rn.dig_le (show y - x ≤ y by omega)) (by omega));rw [Nt.cmp_lt hxy] at HORD;clear hxy hlx hly;go_wp2_with fail;refine (HORD.out wp (Below.refl _ _)).mono ?_;rintro z w5 ⟨rfl,hb5⟩;have HB5 := Lib.hid (HBP.out.trans (hb5.mono HBP.out.size));have HP5 := Lib.hid hb5;clear hb5;go_wp2_with fail;refine (HSX.out w5 HP5.out).mono ?_;rintro z w6 ⟨s1,rfl,hs1a,hs1b,hb6⟩;have HS1 := Lib.hid (Rn.size_one HXP.out.1 hs1a hs1b);have HB6 := Lib.hid (HB5.out.trans (hb6.mono HB5.out.size));have HP6 := Lib.hid (HP5.out.trans (hb6.mono HP5.out.size));clear hs1a hs1b hb6;by_cases hs : s1 = 1
         · subst hs;have HONE : Hid (Nat.gcd x y = 1) := Lib.hid (by rw [HS1.out.1 rfl]; exact Nat.gcd_one_left _);have hA : Below w.heap.size w (w6.alloc (.cells (Nt.row [1]) 57)) := HB6.out.alloc HB6.out.size _;have KU := Rn.Up_any [1] k _ (w6.alloc (.cells (Nt.row [1]) 57)) (Nt.In.of_row (heap_alloc_new w6 _)) (fun z hz => by simp at hz; omega) (by simp) HKL.out.1;have e1 : Nt.row [1] = #[.int .u32 1] := rfl;rw [e1] at KU hA;have HAX := Lib.hid hA;clear e1 hA;go_wp2_with fail;refine KU.mono ?_;rintro z wu ⟨vu,rfl,hnu,hbu⟩;have HNU := Lib.hid hnu;have HBU := Lib.hid (HAX.out.trans (hbu.mono HAX.out.size));clear KU hnu hbu;go_wp2_with fail;go_ret;refine ⟨_,rfl,?_,HBU.out⟩;have e2 : Nt.val [1] = 1 := by simp [Nt.val]
           have := HNU.out;rw [e2] at this;rw [HG.out,← HXY.out.2.2.2.2.1,HONE.out];exact this
         · have hsI : ((s1 : Int) == 1) = false := by simp; omega
           go_wp2_with fail;refine (HSY.out w6 HP6.out).mono ?_;rintro z w7 ⟨s2,rfl,hs2a,hs2b,hb7⟩;have HS2 := Lib.hid (Rn.size_one HXP.out.2 hs2a hs2b);have HB7 := Lib.hid (HB6.out.trans (hb7.mono HB6.out.size));have HP7 := Lib.hid (HP6.out.trans (hb7.mono HP6.out.size));clear hs2a hs2b hb7;by_cases hs2 : s2 = 1
           · subst hs2;have HONE : Hid (Nat.gcd x y = 1) := Lib.hid (by rw [HS2.out.1 rfl]; exact Nat.gcd_one_right _);have hA : Below w.heap.size w (w7.alloc (.cells (Nt.row [1]) 57)) := HB7.out.alloc HB7.out.size _;have KU := Rn.Up_any [1] k _ (w7.alloc (.cells (Nt.row [1]) 57)) (Nt.In.of_row (heap_alloc_new w7 _)) (fun z hz => by simp at hz; omega) (by simp) HKL.out.1;have e1 : Nt.row [1] = #[.int .u32 1] := rfl;rw [e1] at KU hA;have HAX := Lib.hid hA;clear e1 hA;go_wp2_with fail;refine KU.mono ?_;rintro z wu ⟨vu,rfl,hnu,hbu⟩;have HNU := Lib.hid hnu;have HBU := Lib.hid (HAX.out.trans (hbu.mono HAX.out.size));clear KU hnu hbu;go_wp2_with fail;go_ret;refine ⟨_,rfl,?_,HBU.out⟩;have e2 : Nt.val [1] = 1 := by simp [Nt.val]
             have := HNU.out;rw [e2] at this;rw [HG.out,← HXY.out.2.2.2.2.1,HONE.out];exact this
           · have hs2I : ((s2 : Int) == 1) = false := by simp; omega
             go_wp2_with fail;refine (HORD.out w7 HP7.out).mono ?_;rintro z w8 ⟨rfl,hb8⟩;have HB8 := Lib.hid (HB7.out.trans (hb8.mono HB7.out.size));have HP8 := Lib.hid (HP7.out.trans (hb8.mono HP7.out.size));clear hb8;have KL := HLS.out w8 HP8.out;go_wp2_with fail;refine KL.mono ?_;rintro z w9 ⟨v9,rfl,hn9,hb9⟩;have HB9 := Lib.hid (HB8.out.trans (hb9.mono HB8.out.size));have HP9 := Lib.hid (HP8.out.trans (hb9.mono HP8.out.size));have KO := Rn.odd_any (Nt.dig (y - x)) v9 w9 hn9 (Nt.dig_wd _) HLEN.out (by rw [Nt.val_dig]; have := HLT.out; omega);rw [Nt.val_dig] at KO;obtain ⟨p9,c9,rfl⟩ := Nt.In.slice hn9;clear hn9 hb9 KL;go_wp2_with fail;refine KO.mono ?_;rintro z wq ⟨vq,t3,o3,rfl,hnq,ho3,hd3,hbq⟩;have HBQ := Lib.hid (HB9.out.trans (hbq.mono HB9.out.size));have HPQ := Lib.hid (HP9.out.trans (hbq.mono HP9.out.size));have HNQ := Lib.hid (And.intro hnq (And.intro ho3 hd3));obtain ⟨pq,cq,rfl⟩ := Nt.In.slice hnq;clear hnq hbq KO ho3 hd3;go_wp2_with fail;have HO3 : Hid (o3 ≤ y - x) := Lib.hid (by
               rw [HNQ.out.2.2]
               exact Nat.le_mul_of_pos_left _ (Nat.two_pow_pos _))
             have hlt9 := HLT.out;have hle9 := HO3.out;have hps := HXP.out;go_roundg (o3 + x);case measure => omega
             case rel =>
              obtain ⟨q1,q2,q3,q4,q5,q6,q7⟩ := HXY.out;refine ⟨o3,x,rfl,HNQ.out.1,Nt.In.below q1 HPQ.out (Nat.le_refl _),HNQ.out.2.1,q3,?_,Nat.le_trans (Rn.dig_le (show o3 ≤ y by omega)) q7,q6,HBQ.out⟩;rw [← q5];rw [Rn.gcd_less q3 (by omega) HNQ.out.2.2,Nat.gcd_comm]
       · subst hxy;rw [Nt.cmp_eq] at HORD;have KUX := Lib.hid (fun w' (hb : Below wp.heap.size wp w') => Rn.Up_any (Nt.dig x) k _ w' (Nt.In.below HXY.out.1 hb (Nat.le_refl _)) (Nt.dig_wd _) (by omega) HKL.out.1);rw [Nt.val_dig] at KUX;clear hlx hly;go_wp2_with fail;refine (HORD.out wp (Below.refl _ _)).mono ?_;rintro z w5 ⟨rfl,hb5⟩;have HB5 := Lib.hid (HBP.out.trans (hb5.mono HBP.out.size));have HP5 := Lib.hid hb5;clear hb5;go_wp2_with fail;refine (KUX.out w5 HP5.out).mono ?_;rintro z w6 ⟨v6,rfl,hn6,hb6⟩;have HN6 := Lib.hid hn6;have HB6 := Lib.hid (HB5.out.trans (hb6.mono HB5.out.size));clear hn6 hb6;go_wp2_with fail;go_ret;refine ⟨_,rfl,?_,HB6.out⟩;rw [HG.out,← HXY.out.2.2.2.2.1,Nat.gcd_self];exact HN6.out
       · have HLT := Lib.hid hxy;have HLS := Lib.hid (fun w' (hb : Below wp.heap.size wp w') => Rn.Less_any (Nt.dig x) (Nt.dig y) _ _ w' (Nt.In.below HXY.out.1 hb (Nat.le_refl _)) (Nt.In.below HXY.out.2.1 hb (Nat.le_refl _)) (Nt.dig_wd _) (Nt.dig_wd _) (by omega) (Rn.dig_le (by omega)) (by rw [Nt.val_dig,Nt.val_dig]; omega));rw [Nt.val_dig,Nt.val_dig] at HLS;have HLEN : Hid ((Nt.dig (x - y)).length ≤ 1000000) := Lib.hid (Nat.le_trans (Rn.dig_le (show x - y ≤ x by omega)) (by omega));rw [Nt.cmp_gt hxy] at HORD;clear hxy hlx hly;go_wp2_with fail;refine (HORD.out wp (Below.refl _ _)).mono ?_;rintro z w5 ⟨rfl,hb5⟩;have HB5 := Lib.hid (HBP.out.trans (hb5.mono HBP.out.size));have HP5 := Lib.hid hb5;clear hb5;go_wp2_with fail;refine (HSX.out w5 HP5.out).mono ?_;rintro z w6 ⟨s1,rfl,hs1a,hs1b,hb6⟩;have HS1 := Lib.hid (Rn.size_one HXP.out.1 hs1a hs1b);have HB6 := Lib.hid (HB5.out.trans (hb6.mono HB5.out.size));have HP6 := Lib.hid (HP5.out.trans (hb6.mono HP5.out.size));clear hs1a hs1b hb6;by_cases hs : s1 = 1
         · subst hs;have HONE : Hid (Nat.gcd x y = 1) := Lib.hid (by rw [HS1.out.1 rfl]; exact Nat.gcd_one_left _);have hA : Below w.heap.size w (w6.alloc (.cells (Nt.row [1]) 57)) := HB6.out.alloc HB6.out.size _;have KU := Rn.Up_any [1] k _ (w6.alloc (.cells (Nt.row [1]) 57)) (Nt.In.of_row (heap_alloc_new w6 _)) (fun z hz => by simp at hz; omega) (by simp) HKL.out.1;have e1 : Nt.row [1] = #[.int .u32 1] := rfl;rw [e1] at KU hA;have HAX := Lib.hid hA;clear e1 hA;go_wp2_with fail;refine KU.mono ?_;rintro z wu ⟨vu,rfl,hnu,hbu⟩;have HNU := Lib.hid hnu;have HBU := Lib.hid (HAX.out.trans (hbu.mono HAX.out.size));clear KU hnu hbu;go_wp2_with fail;go_ret;refine ⟨_,rfl,?_,HBU.out⟩;have e2 : Nt.val [1] = 1 := by simp [Nt.val]
           have := HNU.out;rw [e2] at this;rw [HG.out,← HXY.out.2.2.2.2.1,HONE.out];exact this
         · have hsI : ((s1 : Int) == 1) = false := by simp; omega
           go_wp2_with fail;refine (HSY.out w6 HP6.out).mono ?_;rintro z w7 ⟨s2,rfl,hs2a,hs2b,hb7⟩;have HS2 := Lib.hid (Rn.size_one HXP.out.2 hs2a hs2b);have HB7 := Lib.hid (HB6.out.trans (hb7.mono HB6.out.size));have HP7 := Lib.hid (HP6.out.trans (hb7.mono HP6.out.size));clear hs2a hs2b hb7;by_cases hs2 : s2 = 1
           · subst hs2;have HONE : Hid (Nat.gcd x y = 1) := Lib.hid (by rw [HS2.out.1 rfl]; exact Nat.gcd_one_right _);have hA : Below w.heap.size w (w7.alloc (.cells (Nt.row [1]) 57)) := HB7.out.alloc HB7.out.size _;have KU := Rn.Up_any [1] k _ (w7.alloc (.cells (Nt.row [1]) 57)) (Nt.In.of_row (heap_alloc_new w7 _)) (fun z hz => by simp at hz; omega) (by simp) HKL.out.1;have e1 : Nt.row [1] = #[.int .u32 1] := rfl;rw [e1] at KU hA;have HAX := Lib.hid hA;clear e1 hA;go_wp2_with fail;refine KU.mono ?_;rintro z wu ⟨vu,rfl,hnu,hbu⟩;have HNU := Lib.hid hnu;have HBU := Lib.hid (HAX.out.trans (hbu.mono HAX.out.size));clear KU hnu hbu;go_wp2_with fail;go_ret;refine ⟨_,rfl,?_,HBU.out⟩;have e2 : Nt.val [1] = 1 := by simp [Nt.val]
             have := HNU.out;rw [e2] at this;rw [HG.out,← HXY.out.2.2.2.2.1,HONE.out];exact this
           · have hs2I : ((s2 : Int) == 1) = false := by simp; omega
             go_wp2_with fail;refine (HORD.out w7 HP7.out).mono ?_;rintro z w8 ⟨rfl,hb8⟩;have HB8 := Lib.hid (HB7.out.trans (hb8.mono HB7.out.size));have HP8 := Lib.hid (HP7.out.trans (hb8.mono HP7.out.size));clear hb8;have KL := HLS.out w8 HP8.out;go_wp2_with fail;refine KL.mono ?_;rintro z w9 ⟨v9,rfl,hn9,hb9⟩;have HB9 := Lib.hid (HB8.out.trans (hb9.mono HB8.out.size));have HP9 := Lib.hid (HP8.out.trans (hb9.mono HP8.out.size));have KO := Rn.odd_any (Nt.dig (x - y)) v9 w9 hn9 (Nt.dig_wd _) HLEN.out (by rw [Nt.val_dig]; have := HLT.out; omega);rw [Nt.val_dig] at KO;obtain ⟨p9,c9,rfl⟩ := Nt.In.slice hn9;clear hn9 hb9 KL;go_wp2_with fail;refine KO.mono ?_;rintro z wq ⟨vq,t3,o3,rfl,hnq,ho3,hd3,hbq⟩;have HBQ := Lib.hid (HB9.out.trans (hbq.mono HB9.out.size));have HPQ := Lib.hid (HP9.out.trans (hbq.mono HP9.out.size));have HNQ := Lib.hid (And.intro hnq (And.intro ho3 hd3));obtain ⟨pq,cq,rfl⟩ := Nt.In.slice hnq;clear hnq hbq KO ho3 hd3;go_wp2_with fail;have HO3 : Hid (o3 ≤ x - y) := Lib.hid (by
               rw [HNQ.out.2.2]
               exact Nat.le_mul_of_pos_left _ (Nat.two_pow_pos _))
             have hlt9 := HLT.out;have hle9 := HO3.out;have hps := HXP.out;go_roundg (o3 + y);case measure => omega
             case rel =>
              obtain ⟨q1,q2,q3,q4,q5,q6,q7⟩ := HXY.out;refine ⟨o3,y,rfl,HNQ.out.1,Nt.In.below q2 HPQ.out (Nat.le_refl _),HNQ.out.2.1,q4,?_,Nat.le_trans (Rn.dig_le (show o3 ≤ x by omega)) q6,q7,HBQ.out⟩;rw [← q5];exact Rn.gcd_less q4 (by omega) HNQ.out.2.2
  · have HEX : Hid (¬ (m / 2 ^ k % 2 = 0 ∧ n / 2 ^ k % 2 = 0)) := Lib.hid (fun h => hx h.1);have hx1 : m / 2 ^ k % 2 = 1 := by
     have h3 : ∀ z : Nat,¬ z % 2 = 0 → z % 2 = 1 := by omega
     exact h3 _ hx
    rw [hx1] at KM;clear hx hx1;go_wp2_with fail;refine KM.mono ?_;rintro z w1 ⟨rfl,hb1⟩;have HB1 := Lib.hid (HBW.out.trans (hb1.mono HBW.out.size));clear hb1 KM hk hklt;go_wp2_with fail;refine (HOM.out w1 HB1.out).mono ?_;rintro z w3 ⟨v3,t1,o1,rfl,hn3,ho1,hm1,hb3⟩;have HB3 := Lib.hid (HB1.out.trans (hb3.mono HB1.out.size));obtain ⟨a3,c3,rfl⟩ := Nt.In.slice hn3;have HN3 := Lib.hid (And.intro hn3 (And.intro ho1 hm1));clear hn3 ho1 hm1 hb3;go_wp2_with fail;refine (HON.out w3 HB3.out).mono ?_;rintro z w4 ⟨v4,t2,o2,rfl,hn4,ho2,hm2,hb4⟩;have HB4 := Lib.hid (HB3.out.trans (hb4.mono HB3.out.size));obtain ⟨a4,c4,rfl⟩ := Nt.In.slice hn4;have HN4 := Lib.hid (And.intro hn4 (And.intro ho2 hm2));have HN3' := Lib.hid (Nt.In.below HN3.out.1 hb4 (Nat.le_refl _));have HG : Hid (Nat.gcd m n = 2 ^ k * Nat.gcd o1 o2) := Lib.hid (Rn.gcd_twos HN3.out.2.2 hm2 HN3.out.2.1 ho2 HDV.out.1 HDV.out.2 HEX.out);have HLO : Hid ((Nt.dig o1).length ≤ 400000 ∧ (Nt.dig o2).length ≤ 400000) := Lib.hid ⟨Nat.le_trans (Rn.dig_le (by rw [HN3.out.2.2]; exact Nat.le_mul_of_pos_left _ (Nat.two_pow_pos _))) HML.out.1,Nat.le_trans (Rn.dig_le (by rw [hm2]; exact Nat.le_mul_of_pos_left _ (Nat.two_pow_pos _))) HML.out.2⟩;clear hn4 ho2 hm2 hb4;go_wp2_with fail
    go_loopg [0,1] (o1 + o2) (fun g va vb wr => ∃ x y : Nat,x + y = g ∧ Nt.N wr va x ∧ Nt.N wr vb y ∧ x % 2 = 1 ∧ y % 2 = 1 ∧ Nat.gcd x y = Nat.gcd o1 o2 ∧ (Nt.dig x).length ≤ 400000 ∧ (Nt.dig y).length ≤ 400000 ∧ Below w.heap.size w wr);case atStart => exact ⟨o1,o2,rfl,HN3'.out,HN4.out.1,HN3.out.2.1,HN4.out.2.1,rfl,HLO.out.1,HLO.out.2,HB4.out⟩
    case round =>
     obtain ⟨x,y,hg,hnx,hny,hox,hoy,hgc,hlx,hly,hbp⟩ := hrel;obtain ⟨wp,hwp⟩ : ∃ z,z = wr := ⟨_,rfl⟩;subst hwp;have HXY := Lib.hid (And.intro hnx (And.intro hny (And.intro hox (And.intro hoy (And.intro hgc (And.intro hlx hly))))));have HBP := Lib.hid hbp;have HXP : Hid (0 < x ∧ 0 < y) := Lib.hid (by omega);obtain ⟨px,cx,rfl⟩ := Nt.In.slice hnx;obtain ⟨py,cy,rfl⟩ := Nt.In.slice hny;have HORD := Lib.hid (fun w' (hb : Below wp.heap.size wp w') => Rn.Order_any x y _ _ w' (Nt.In.below hnx hb (Nat.le_refl _)) (Nt.In.below hny hb (Nat.le_refl _)) (by omega) (by omega));have HSX := Lib.hid (fun w' (hb : Below wp.heap.size wp w') => Rn.Size_any (Nt.dig x) _ w' (Nt.In.below hnx hb (Nat.le_refl _)) (Nt.dig_wd _) (by omega));have HSY := Lib.hid (fun w' (hb : Below wp.heap.size wp w') => Rn.Size_any (Nt.dig y) _ w' (Nt.In.below hny hb (Nat.le_refl _)) (Nt.dig_wd _) (by omega));rw [Nt.val_dig] at HSX HSY;clear hnx hny hox hoy hgc hbp;rcases Nat.lt_trichotomy x y with hxy | hxy | hxy
     · have HLT := Lib.hid hxy;have HLS := Lib.hid (fun w' (hb : Below wp.heap.size wp w') => Rn.Less_any (Nt.dig y) (Nt.dig x) _ _ w' (Nt.In.below HXY.out.2.1 hb (Nat.le_refl _)) (Nt.In.below HXY.out.1 hb (Nat.le_refl _)) (Nt.dig_wd _) (Nt.dig_wd _) (by omega) (Rn.dig_le (by omega)) (by rw [Nt.val_dig,Nt.val_dig]; omega));rw [Nt.val_dig,Nt.val_dig] at HLS;have HLEN : Hid ((Nt.dig (y - x)).length ≤ 1000000) := Lib.hid (Nat.le_trans (Rn.dig_le (show y - x ≤ y by omega)) (by omega));rw [Nt.cmp_lt hxy] at HORD;clear hxy hlx hly;go_wp2_with fail;refine (HORD.out wp (Below.refl _ _)).mono ?_;rintro z w5 ⟨rfl,hb5⟩;have HB5 := Lib.hid (HBP.out.trans (hb5.mono HBP.out.size));have HP5 := Lib.hid hb5;clear hb5;go_wp2_with fail;refine (HSX.out w5 HP5.out).mono ?_;rintro z w6 ⟨s1,rfl,hs1a,hs1b,hb6⟩;have HS1 := Lib.hid (Rn.size_one HXP.out.1 hs1a hs1b);have HB6 := Lib.hid (HB5.out.trans (hb6.mono HB5.out.size));have HP6 := Lib.hid (HP5.out.trans (hb6.mono HP5.out.size));clear hs1a hs1b hb6;by_cases hs : s1 = 1
       · subst hs;have HONE : Hid (Nat.gcd x y = 1) := Lib.hid (by rw [HS1.out.1 rfl]; exact Nat.gcd_one_left _);have hA : Below w.heap.size w (w6.alloc (.cells (Nt.row [1]) 57)) := HB6.out.alloc HB6.out.size _;have KU := Rn.Up_any [1] k _ (w6.alloc (.cells (Nt.row [1]) 57)) (Nt.In.of_row (heap_alloc_new w6 _)) (fun z hz => by simp at hz; omega) (by simp) HKL.out.1;have e1 : Nt.row [1] = #[.int .u32 1] := rfl;rw [e1] at KU hA;have HAX := Lib.hid hA;clear e1 hA;go_wp2_with fail;refine KU.mono ?_;rintro z wu ⟨vu,rfl,hnu,hbu⟩;have HNU := Lib.hid hnu;have HBU := Lib.hid (HAX.out.trans (hbu.mono HAX.out.size));clear KU hnu hbu;go_wp2_with fail;go_ret;refine ⟨_,rfl,?_,HBU.out⟩;have e2 : Nt.val [1] = 1 := by simp [Nt.val]
         have := HNU.out;rw [e2] at this;rw [HG.out,← HXY.out.2.2.2.2.1,HONE.out];exact this
       · have hsI : ((s1 : Int) == 1) = false := by simp; omega
         go_wp2_with fail;refine (HSY.out w6 HP6.out).mono ?_;rintro z w7 ⟨s2,rfl,hs2a,hs2b,hb7⟩;have HS2 := Lib.hid (Rn.size_one HXP.out.2 hs2a hs2b);have HB7 := Lib.hid (HB6.out.trans (hb7.mono HB6.out.size));have HP7 := Lib.hid (HP6.out.trans (hb7.mono HP6.out.size));clear hs2a hs2b hb7;by_cases hs2 : s2 = 1
         · subst hs2;have HONE : Hid (Nat.gcd x y = 1) := Lib.hid (by rw [HS2.out.1 rfl]; exact Nat.gcd_one_right _);have hA : Below w.heap.size w (w7.alloc (.cells (Nt.row [1]) 57)) := HB7.out.alloc HB7.out.size _;have KU := Rn.Up_any [1] k _ (w7.alloc (.cells (Nt.row [1]) 57)) (Nt.In.of_row (heap_alloc_new w7 _)) (fun z hz => by simp at hz; omega) (by simp) HKL.out.1;have e1 : Nt.row [1] = #[.int .u32 1] := rfl;rw [e1] at KU hA;have HAX := Lib.hid hA;clear e1 hA;go_wp2_with fail;refine KU.mono ?_;rintro z wu ⟨vu,rfl,hnu,hbu⟩;have HNU := Lib.hid hnu;have HBU := Lib.hid (HAX.out.trans (hbu.mono HAX.out.size));clear KU hnu hbu;go_wp2_with fail;go_ret;refine ⟨_,rfl,?_,HBU.out⟩;have e2 : Nt.val [1] = 1 := by simp [Nt.val]
           have := HNU.out;rw [e2] at this;rw [HG.out,← HXY.out.2.2.2.2.1,HONE.out];exact this
         · have hs2I : ((s2 : Int) == 1) = false := by simp; omega
           go_wp2_with fail;refine (HORD.out w7 HP7.out).mono ?_;rintro z w8 ⟨rfl,hb8⟩;have HB8 := Lib.hid (HB7.out.trans (hb8.mono HB7.out.size));have HP8 := Lib.hid (HP7.out.trans (hb8.mono HP7.out.size));clear hb8;have KL := HLS.out w8 HP8.out;go_wp2_with fail;refine KL.mono ?_;rintro z w9 ⟨v9,rfl,hn9,hb9⟩;have HB9 := Lib.hid (HB8.out.trans (hb9.mono HB8.out.size));have HP9 := Lib.hid (HP8.out.trans (hb9.mono HP8.out.size));have KO := Rn.odd_any (Nt.dig (y - x)) v9 w9 hn9 (Nt.dig_wd _) HLEN.out (by rw [Nt.val_dig]; have := HLT.out; omega);rw [Nt.val_dig] at KO;obtain ⟨p9,c9,rfl⟩ := Nt.In.slice hn9;clear hn9 hb9 KL;go_wp2_with fail;refine KO.mono ?_;rintro z wq ⟨vq,t3,o3,rfl,hnq,ho3,hd3,hbq⟩;have HBQ := Lib.hid (HB9.out.trans (hbq.mono HB9.out.size));have HPQ := Lib.hid (HP9.out.trans (hbq.mono HP9.out.size));have HNQ := Lib.hid (And.intro hnq (And.intro ho3 hd3));obtain ⟨pq,cq,rfl⟩ := Nt.In.slice hnq;clear hnq hbq KO ho3 hd3;go_wp2_with fail;have HO3 : Hid (o3 ≤ y - x) := Lib.hid (by
             rw [HNQ.out.2.2]
             exact Nat.le_mul_of_pos_left _ (Nat.two_pow_pos _))
           have hlt9 := HLT.out;have hle9 := HO3.out;have hps := HXP.out;go_roundg (o3 + x);case measure => omega
           case rel =>
            obtain ⟨q1,q2,q3,q4,q5,q6,q7⟩ := HXY.out;refine ⟨o3,x,rfl,HNQ.out.1,Nt.In.below q1 HPQ.out (Nat.le_refl _),HNQ.out.2.1,q3,?_,Nat.le_trans (Rn.dig_le (show o3 ≤ y by omega)) q7,q6,HBQ.out⟩;rw [← q5];rw [Rn.gcd_less q3 (by omega) HNQ.out.2.2,Nat.gcd_comm]
     · subst hxy;rw [Nt.cmp_eq] at HORD;have KUX := Lib.hid (fun w' (hb : Below wp.heap.size wp w') => Rn.Up_any (Nt.dig x) k _ w' (Nt.In.below HXY.out.1 hb (Nat.le_refl _)) (Nt.dig_wd _) (by omega) HKL.out.1);rw [Nt.val_dig] at KUX;clear hlx hly;go_wp2_with fail;refine (HORD.out wp (Below.refl _ _)).mono ?_;rintro z w5 ⟨rfl,hb5⟩;have HB5 := Lib.hid (HBP.out.trans (hb5.mono HBP.out.size));have HP5 := Lib.hid hb5;clear hb5;go_wp2_with fail;refine (KUX.out w5 HP5.out).mono ?_;rintro z w6 ⟨v6,rfl,hn6,hb6⟩;have HN6 := Lib.hid hn6;have HB6 := Lib.hid (HB5.out.trans (hb6.mono HB5.out.size));clear hn6 hb6;go_wp2_with fail;go_ret;refine ⟨_,rfl,?_,HB6.out⟩;rw [HG.out,← HXY.out.2.2.2.2.1,Nat.gcd_self];exact HN6.out
     · have HLT := Lib.hid hxy;have HLS := Lib.hid (fun w' (hb : Below wp.heap.size wp w') => Rn.Less_any (Nt.dig x) (Nt.dig y) _ _ w' (Nt.In.below HXY.out.1 hb (Nat.le_refl _)) (Nt.In.below HXY.out.2.1 hb (Nat.le_refl _)) (Nt.dig_wd _) (Nt.dig_wd _) (by omega) (Rn.dig_le (by omega)) (by rw [Nt.val_dig,Nt.val_dig]; omega));rw [Nt.val_dig,Nt.val_dig] at HLS;have HLEN : Hid ((Nt.dig (x - y)).length ≤ 1000000) := Lib.hid (Nat.le_trans (Rn.dig_le (show x - y ≤ x by omega)) (by omega));rw [Nt.cmp_gt hxy] at HORD;clear hxy hlx hly;go_wp2_with fail;refine (HORD.out wp (Below.refl _ _)).mono ?_;rintro z w5 ⟨rfl,hb5⟩;have HB5 := Lib.hid (HBP.out.trans (hb5.mono HBP.out.size));have HP5 := Lib.hid hb5;clear hb5;go_wp2_with fail;refine (HSX.out w5 HP5.out).mono ?_;rintro z w6 ⟨s1,rfl,hs1a,hs1b,hb6⟩;have HS1 := Lib.hid (Rn.size_one HXP.out.1 hs1a hs1b);have HB6 := Lib.hid (HB5.out.trans (hb6.mono HB5.out.size));have HP6 := Lib.hid (HP5.out.trans (hb6.mono HP5.out.size));clear hs1a hs1b hb6;by_cases hs : s1 = 1
       · subst hs;have HONE : Hid (Nat.gcd x y = 1) := Lib.hid (by rw [HS1.out.1 rfl]; exact Nat.gcd_one_left _);have hA : Below w.heap.size w (w6.alloc (.cells (Nt.row [1]) 57)) := HB6.out.alloc HB6.out.size _;have KU := Rn.Up_any [1] k _ (w6.alloc (.cells (Nt.row [1]) 57)) (Nt.In.of_row (heap_alloc_new w6 _)) (fun z hz => by simp at hz; omega) (by simp) HKL.out.1;have e1 : Nt.row [1] = #[.int .u32 1] := rfl;rw [e1] at KU hA;have HAX := Lib.hid hA;clear e1 hA;go_wp2_with fail;refine KU.mono ?_;rintro z wu ⟨vu,rfl,hnu,hbu⟩;have HNU := Lib.hid hnu;have HBU := Lib.hid (HAX.out.trans (hbu.mono HAX.out.size));clear KU hnu hbu;go_wp2_with fail;go_ret;refine ⟨_,rfl,?_,HBU.out⟩;have e2 : Nt.val [1] = 1 := by simp [Nt.val]
         have := HNU.out;rw [e2] at this;rw [HG.out,← HXY.out.2.2.2.2.1,HONE.out];exact this
       · have hsI : ((s1 : Int) == 1) = false := by simp; omega
         go_wp2_with fail;refine (HSY.out w6 HP6.out).mono ?_;rintro z w7 ⟨s2,rfl,hs2a,hs2b,hb7⟩;have HS2 := Lib.hid (Rn.size_one HXP.out.2 hs2a hs2b);have HB7 := Lib.hid (HB6.out.trans (hb7.mono HB6.out.size));have HP7 := Lib.hid (HP6.out.trans (hb7.mono HP6.out.size));clear hs2a hs2b hb7;by_cases hs2 : s2 = 1
         · subst hs2;have HONE : Hid (Nat.gcd x y = 1) := Lib.hid (by rw [HS2.out.1 rfl]; exact Nat.gcd_one_right _);have hA : Below w.heap.size w (w7.alloc (.cells (Nt.row [1]) 57)) := HB7.out.alloc HB7.out.size _;have KU := Rn.Up_any [1] k _ (w7.alloc (.cells (Nt.row [1]) 57)) (Nt.In.of_row (heap_alloc_new w7 _)) (fun z hz => by simp at hz; omega) (by simp) HKL.out.1;have e1 : Nt.row [1] = #[.int .u32 1] := rfl;rw [e1] at KU hA;have HAX := Lib.hid hA;clear e1 hA;go_wp2_with fail;refine KU.mono ?_;rintro z wu ⟨vu,rfl,hnu,hbu⟩;have HNU := Lib.hid hnu;have HBU := Lib.hid (HAX.out.trans (hbu.mono HAX.out.size));clear KU hnu hbu;go_wp2_with fail;go_ret;refine ⟨_,rfl,?_,HBU.out⟩;have e2 : Nt.val [1] = 1 := by simp [Nt.val]
           have := HNU.out;rw [e2] at this;rw [HG.out,← HXY.out.2.2.2.2.1,HONE.out];exact this
         · have hs2I : ((s2 : Int) == 1) = false := by simp; omega
           go_wp2_with fail;refine (HORD.out w7 HP7.out).mono ?_;rintro z w8 ⟨rfl,hb8⟩;have HB8 := Lib.hid (HB7.out.trans (hb8.mono HB7.out.size));have HP8 := Lib.hid (HP7.out.trans (hb8.mono HP7.out.size));clear hb8;have KL := HLS.out w8 HP8.out;go_wp2_with fail;refine KL.mono ?_;rintro z w9 ⟨v9,rfl,hn9,hb9⟩;have HB9 := Lib.hid (HB8.out.trans (hb9.mono HB8.out.size));have HP9 := Lib.hid (HP8.out.trans (hb9.mono HP8.out.size));have KO := Rn.odd_any (Nt.dig (x - y)) v9 w9 hn9 (Nt.dig_wd _) HLEN.out (by rw [Nt.val_dig]; have := HLT.out; omega);rw [Nt.val_dig] at KO;obtain ⟨p9,c9,rfl⟩ := Nt.In.slice hn9;clear hn9 hb9 KL;go_wp2_with fail;refine KO.mono ?_;rintro z wq ⟨vq,t3,o3,rfl,hnq,ho3,hd3,hbq⟩;have HBQ := Lib.hid (HB9.out.trans (hbq.mono HB9.out.size));have HPQ := Lib.hid (HP9.out.trans (hbq.mono HP9.out.size));have HNQ := Lib.hid (And.intro hnq (And.intro ho3 hd3));obtain ⟨pq,cq,rfl⟩ := Nt.In.slice hnq;clear hnq hbq KO ho3 hd3;go_wp2_with fail;have HO3 : Hid (o3 ≤ x - y) := Lib.hid (by
             rw [HNQ.out.2.2]
             exact Nat.le_mul_of_pos_left _ (Nat.two_pow_pos _))
           have hlt9 := HLT.out;have hle9 := HO3.out;have hps := HXP.out;go_roundg (o3 + y);case measure => omega
           case rel =>
            obtain ⟨q1,q2,q3,q4,q5,q6,q7⟩ := HXY.out;refine ⟨o3,y,rfl,HNQ.out.1,Nt.In.below q2 HPQ.out (Nat.le_refl _),HNQ.out.2.1,q4,?_,Nat.le_trans (Rn.dig_le (show o3 ≤ x by omega)) q6,q7,HBQ.out⟩;rw [← q5];exact Rn.gcd_less q4 (by omega) HNQ.out.2.2
set_option maxHeartbeats 200000
set_option maxRecDepth 512
theorem Rn.last_sound {ws : List Nat} (hw : Nt.Wd ws) (h0 : 0 < ws.length) : decide ((Nt.dig (Nt.val ws)).length = ws.length) = !decide (ws.getD (ws.length - 1) 0 = 0) := by
 by_cases h : ws.getD (ws.length - 1) 0 = 0
 · rw [decide_eq_true h];refine decide_eq_false (fun e => ?_);have h1 := (Nt.take_dig hw).2;rw [e,List.take_length] at h1;have hp : 0 < Nt.val ws := by
    rcases Nat.eq_zero_or_pos (Nt.val ws) with h2 | h2
    · rw [h2,Nt.dig_zero] at h1;rw [h1] at h0;simp at h0
    · exact h2
   have h2 := Nt.dig_last (Nt.val ws) hp;rw [← h1] at h2;exact h2 h
 · rw [decide_eq_false h];refine decide_eq_true ?_;rw [Nt.dig_val ws hw (fun _ => h)]
set_option maxHeartbeats 1000000
set_option maxRecDepth 1000000
theorem Rn.Sound_any (ws : List Nat) (v : Value) (w : World) (h : Nt.In w v ws) (hw : Nt.Wd ws) (hl : ws.length ≤ 4611686018427387904) :
 Calls Tryz.prog 80 #[v] w fun e w' => e = .returned (.bool (Nt.sound ws)) ∧ Below w.heap.size w w' := by
 obtain ⟨ad,cap,rfl⟩ := h.slice
 by_cases h1 : ws.length ≤ 512
 · have h1I : (ws.length : Int) ≤ 512 := by omega
   rcases Nat.eq_zero_or_pos ws.length with h0 | h0
   · have hs : Nt.sound ws = true := by
      have : ws = [] := List.eq_nil_of_length_eq_zero h0;subst this;unfold Nt.sound;simp [Nt.val,Nt.dig_zero]
     rw [hs,h0];clear h hs hw;go_enter Tryz.func80,Tryz.ntmps80;go_wp2_with fail;go_ret;exact ⟨rfl,Below.refl _ _⟩
   · have hs : Nt.sound ws = !decide (ws.getD (ws.length - 1) 0 = 0) := by
      unfold Nt.sound;rw [decide_eq_true h1,Bool.true_and,Rn.last_sound hw h0]
     rw [hs];obtain ⟨b,off,rfl,_,_,_,hc⟩ := h.at h0;have c0 := hc (ws.length - 1) (by omega);obtain ⟨k,hk⟩ : ∃ k,ws.length = k + 1 := ⟨ws.length - 1,by omega⟩;rw [hk] at c0 ⊢;rw [Nat.add_sub_cancel] at c0 ⊢;have hkI : (((k + 1 : Nat) : Int) == 0) = false := beq_eq_false_iff_ne.2 (by omega);have hk1 : (((k + 1 : Nat) : Int) - 1) = (k : Int) := by omega
     have hk2 : ((k + 1 : Nat) : Int) ≤ 512 := by omega
     clear h hs hw hc;generalize ws.getD k 0 = x at *;by_cases hx : x = 0
     · subst hx;go_enter Tryz.func80,Tryz.ntmps80;go_wp2_with fail;go_ret;exact ⟨rfl,Below.refl _ _⟩
     · have hxI : ((x : Int) != 0) = true := by simpa using hx
       rw [decide_eq_false hx];go_enter Tryz.func80,Tryz.ntmps80;go_wp2_with fail;go_ret;exact ⟨rfl,Below.refl _ _⟩
 · have h1I : ¬ (ws.length : Int) ≤ 512 := by omega
   have hs : Nt.sound ws = false := by unfold Nt.sound; rw [decide_eq_false h1]; rfl
   rw [hs];go_enter Tryz.func80,Tryz.ntmps80;go_wp2_with fail;go_ret;exact ⟨rfl,Below.refl _ _⟩
set_option maxRecDepth 100000
theorem Rn.Same_ne (ws us : List Nat) (v v2 : Value) (w : World) (hs : ws.length ≤ 4611686018427387904) (h : Nt.In w v ws) (h2 : Nt.In w v2 us) (hne : ws ≠ us) :
 Calls Tryz.prog 55 #[v,v2] w fun e w' => e = .returned (.bool false) ∧ Below w.heap.size w w' := by
 obtain ⟨ad,cap,rfl⟩ := h.slice
 obtain ⟨ad2,cap2,rfl⟩ := h2.slice
 by_cases hll : ws.length = us.length
 · have H := Lib.hid h;have H2 := Lib.hid h2;have hneI : ((ws.length : Int) != (us.length : Int)) = false := by simp; omega
   have HNE : Hid (∃ j,j < ws.length ∧ ws.getD j 0 ≠ us.getD j 0) := Lib.hid (by
     refine Classical.byContradiction (fun hc => hne (List.ext_getElem hll (fun i h1 h2 => ?_)));refine Classical.byContradiction (fun h3 => hc ⟨i,h1,?_⟩);rw [List.getD_eq_getElem?_getD,List.getD_eq_getElem?_getD,List.getElem?_eq_getElem h1,List.getElem?_eq_getElem h2]
     exact h3)
   have HLL := Lib.hid hll;clear h h2 hne hll;go_enter Tryz.func55,Tryz.ntmps55;go_wp2_with fail;go_loopw [5] (fun i wr => ∃ k : Nat,i = .int .i64 k ∧ k ≤ ws.length ∧ (∀ j,j < k → ws.getD j 0 = us.getD j 0) ∧ Below w.heap.size w wr) (fun i _ => ws.length - (intOf i).toNat);case atStart => exact ⟨0,rfl,Nat.zero_le _,fun j h => absurd h (Nat.not_lt_zero _),Below.refl _ _⟩
   case round =>
    obtain ⟨k,rfl,hk,hsame,hb⟩ := hrel;have hlt : k < ws.length := by
     obtain ⟨j,hj,hjn⟩ := HNE.out;rcases Nat.lt_or_ge j k with h1 | h1
     · exact absurd (hsame j h1) hjn
     · omega
    obtain ⟨b,off,had,_,_,hbl,hc⟩ := H.out.at (by omega);obtain ⟨b2,off2,had2,_,_,hbl2,hc2⟩ := H2.out.at (by have := HLL.out; omega);subst had;subst had2;have c0 := (hb.cell (p := ⟨b,off + k,none⟩) hbl).trans (hc k hlt);have c1 := (hb.cell (p := ⟨b2,off2 + k,none⟩) hbl2).trans (hc2 k (by have := HLL.out; omega));have HS := Lib.hid hsame;have hltU : (k : Int) < (us.length : Int) := by have := HLL.out; omega
    have hltW : (k : Int) < (ws.length : Int) := by omega
    clear hc hc2 hsame;by_cases hx : ws.getD k 0 = us.getD k 0
    · rw [← hx] at c1;have HX : Hid (∀ j,j < k + 1 → ws.getD j 0 = us.getD j 0) := Lib.hid (fun j hj => by
        rcases Nat.lt_or_ge j k with h1 | h1
        · exact HS.out j h1
        · obtain rfl : j = k := by omega
          exact hx)
      clear hx;generalize ws.getD k 0 = x at *;have HB := Lib.hid hb;clear hb;go_wp2_with fail;go_quiet (fail);have HB2 := Lib.hid (below_drewN HB.out nq);go_wp2_with fail;go_roundw;case rel => exact ⟨k + 1,by first | rfl | go_num | (simp; try omega),by omega,HX.out,HB2.out⟩
      case measure => simp [intOf]; omega
    · have hxI : (((ws.getD k 0 : Nat) : Int) != ((us.getD k 0 : Nat) : Int)) = true := by
       simp only [bne_iff_ne,ne_eq];omega
      clear hx HNE HS;generalize ws.getD k 0 = x at *;generalize us.getD k 0 = y at *;have HB := Lib.hid hb;clear hb;go_wp2_with fail;go_quiet (fail);have HB2 := Lib.hid (below_drewN HB.out nq);go_wp2_with fail;go_ret;exact ⟨rfl,HB2.out⟩
 · have hneI : ((ws.length : Int) != (us.length : Int)) = true := by simp; omega
   clear h h2 hne hll;go_enter Tryz.func55,Tryz.ntmps55;go_wp2_with fail;go_ret;exact ⟨rfl,Below.refl _ _⟩
theorem Rn.RatSound_any (s : Bool) (t b : List Nat) (v3 v4 : Value) (w : World) (h3 : Nt.In w v3 t) (h4 : Nt.In w v4 b) (ok : Rt.GOk t b) :
 Calls Tryz.prog 53 #[.agg #[.bool s,v3,v4]] w fun e w' => e = .returned (.bool (Rt.sound s t b)) ∧ Below w.heap.size w w' := by
 obtain ⟨a3,c3,rfl⟩ := h3.slice
 obtain ⟨a4,c4,rfl⟩ := h4.slice
 have hb0 : Below w.heap.size w (w.alloc (.cells #[.bool s,.slice a3 t.length c3,.slice a4 b.length c4] 24)) := (Below.refl _ _).alloc (Nat.le_refl _) _
 have hq0 : (w.alloc (.cells #[.bool s,.slice a3 t.length c3,.slice a4 b.length c4] 24)).heap[w.heap.size]? = some (.cells #[.bool s,.slice a3 t.length c3,.slice a4 b.length c4] 24 (0,0)) := heap_alloc_new w _
 have hz0 : (w.alloc (.cells #[.bool s,.slice a3 t.length c3,.slice a4 b.length c4] 24)).heap.size = w.heap.size + 1 := by simp
 have KS1 := Rn.Sound_any t _ _ (h3.below hb0 (Nat.le_refl _)) ok.w1 ok.l1
 have HK2 := Lib.hid (fun w' (hb : Below w.heap.size w w') => Rn.Sound_any b _ w' (h4.below hb (Nat.le_refl _)) ok.w2 ok.l2)
 have HI := Lib.hid (And.intro h3 (And.intro h4 ok))
 have HF : Hid (∀ w',Below (w.heap.size + 1) (w.alloc (.cells #[.bool s,.slice a3 t.length c3,.slice a4 b.length c4] 24)) w' → w'.cell? ⟨w.heap.size,0,none⟩ = some (.bool s) ∧ w'.cell? ⟨w.heap.size,1,none⟩ = some (.slice a3 t.length c3) ∧ w'.cell? ⟨w.heap.size,2,none⟩ = some (.slice a4 b.length c4) ∧ Below w.heap.size w w') := Lib.hid (fun w' hb => by
   have a0 := (hb.block w.heap.size (Nat.lt_succ_self _)).trans hq0
   refine ⟨?_,?_,?_,hb0.trans (hb.mono (Nat.le_succ _))⟩ <;> simp [World.cell?,a0])
 have hR : Rt.sound s t b = (Nt.sound t && Nt.sound b && decide (b.length ≠ 0) && !(decide (t.length = 0) && s) && decide (Nat.gcd (Nt.val t) (Nt.val b) = 1)) := rfl
 obtain ⟨R,hRR⟩ : ∃ z,z = Rt.sound s t b := ⟨_,rfl⟩
 rw [← hRR] at hR ⊢
 have HR := Lib.hid hR
 rw [hz0] at KS1
 clear h3 h4 ok hb0 hq0 hz0 hR hRR
 go_enter Tryz.func53,Tryz.ntmps53
 go_wp2_with fail
 refine KS1.mono ?_
 rintro x w1 ⟨rfl,hb1⟩
 obtain ⟨d0,d1,d2,hbw1⟩ := HF.out w1 hb1
 have HB1 := Lib.hid (And.intro hb1 hbw1)
 clear hb1 hbw1 KS1
 cases hs1 : Nt.sound t
 · have hans : R = false := by rw [HR.out,hs1]; rfl
   subst hans;go_wp2_with fail;go_ret;exact ⟨rfl,HB1.out.2⟩
 · go_wp2_with fail;refine (HK2.out w1 HB1.out.2).mono ?_;rintro x w2 ⟨rfl,hb2⟩;have hb2' := HB1.out.1.trans (hb2.mono (by have := HB1.out.1.size; simp at this; omega));clear d0 d1 d2;obtain ⟨d0,d1,d2,hbw2⟩ := HF.out w2 hb2';have HB2 := Lib.hid (And.intro hb2' hbw2);clear hb2 hb2' hbw2;cases hs2 : Nt.sound b
   · have hans : R = false := by rw [HR.out,hs1,hs2]; rfl
     subst hans;go_wp2_with fail;go_ret;exact ⟨rfl,HB2.out.2⟩
   · by_cases hb0 : b.length = 0
     · have hans : R = false := by rw [HR.out,hs1,hs2,hb0]; rfl
       subst hans;rw [hb0] at d2;go_wp2_with fail;go_ret;exact ⟨rfl,HB2.out.2⟩
     · have hbI : ((b.length : Int) == 0) = false := beq_eq_false_iff_ne.2 (by omega);by_cases ht0 : t.length = 0 ∧ s = true
       · have hans : R = false := by rw [HR.out,hs1,hs2,ht0.1,ht0.2]; simp
         obtain ⟨ht1,rfl⟩ := ht0;subst hans;rw [ht1] at d1;go_wp2_with fail;go_ret;exact ⟨rfl,HB2.out.2⟩
       · have hT2 : (decide (t.length = 0) && s) = false := by
          cases s
          · simp
          · have : ¬ t.length = 0 := fun h => ht0 ⟨h,rfl⟩;simp [this]
         have hT3 : t.length = 0 → s = false := fun h => by
          cases s
          · rfl
          · exact absurd ⟨h,rfl⟩ ht0
         obtain ⟨et,ht5⟩ := Nt.sound_eq HI.out.2.2.w1 hs1;obtain ⟨eb,hb5⟩ := Nt.sound_eq HI.out.2.2.w2 hs2;have KD := Rn.Divisor_any (Nt.val t) (Nt.val b) (.slice a3 t.length c3) (.slice a4 b.length c4) w2 (by unfold Nt.N; rw [← et]; exact HI.out.1.below HB2.out.2 (Nat.le_refl _)) (by unfold Nt.N; rw [← eb]; exact HI.out.2.1.below HB2.out.2 (Nat.le_refl _)) (by rw [← et]; omega) (by rw [← eb]; omega);obtain ⟨g,hg⟩ : ∃ g,g = Nat.gcd (Nt.val t) (Nt.val b) := ⟨_,rfl⟩;have hR2 : R = decide (g = 1) := by rw [HR.out,hs1,hs2,hT2,hg]; simp [hb0]
         rw [← hg] at KD;have HGL : Hid ((Nt.dig g).length ≤ 512) := Lib.hid (by
           rw [hg];refine Nat.le_trans (Rn.dig_le (Nat.gcd_le_right _ ?_)) (by rw [← eb]; exact hb5);have h1 := Nt.dig_len_pos (n := Nt.val b);rw [← eb] at h1
           exact h1.1 (by omega))
         have HKS : Hid (∀ w' (v' : Value),Nt.N w' v' g → Calls Tryz.prog 55 #[v',.slice (some ⟨w'.heap.size,0,none⟩) 1 1] (w'.alloc (.cells #[.int .u32 1] 57)) fun e w'' => e = .returned (.bool R) ∧ Below w'.heap.size w' w'') := Lib.hid (fun w' v' hN => by
           have hbA : Below w'.heap.size w' (w'.alloc (.cells #[.int .u32 1] 57)) := (Below.refl _ _).alloc (Nat.le_refl _) _;have h1 : Nt.In (w'.alloc (.cells #[.int .u32 1] 57)) (.slice (some ⟨w'.heap.size,0,none⟩) 1 1) [1] := Nt.In.of_row (ws := [1]) (heap_alloc_new w' _);by_cases h1g : g = 1
           · have e1 : Nt.dig g = [1] := by rw [h1g]; exact Nt.dig_small (by decide) (by decide)
             unfold Nt.N at hN;rw [e1] at hN;refine (Sm.nat [1] v' _ _ (by simp) (hN.below hbA (Nat.le_refl _)) h1).mono fun e w'' h => ⟨by rw [h.1,hR2,h1g]; rfl,hbA.trans (h.2.mono hbA.size)⟩
           · have e1 : Nt.dig g ≠ [1] := fun e => h1g (by
              have := Nt.val_dig g;rw [e] at this
              simpa [Nt.val] using this.symm)
             refine (Rn.Same_ne (Nt.dig g) [1] v' _ _ (by have := HGL.out; omega) (Nt.In.below hN hbA (Nat.le_refl _)) h1 e1).mono fun e w'' h => ⟨by rw [h.1,hR2,decide_eq_false h1g],hbA.trans (h.2.mono hbA.size)⟩)
         have HB3 : Hid (∀ w',Below w2.heap.size w2 w' → Below w.heap.size w w') := Lib.hid (fun w' hb => HB2.out.2.trans (hb.mono HB2.out.2.size));clear hg hR2 et eb ht5 hb5 hT2 ht0 hs1 hs2;by_cases ht9 : t.length = 0
         · have hs9 := hT3 ht9;subst hs9;rw [ht9] at d1 KD;clear hT3 ht9;go_wp2_with fail;refine KD.mono ?_;rintro x w3 ⟨v',rfl,hN,hb3⟩;have KS := HKS.out w3 v' hN;have HB4 := Lib.hid hb3;obtain ⟨pa,pc,rfl⟩ := Nt.In.slice hN;clear hN hb3 KD;go_wp2_with fail;refine KS.mono ?_;rintro x w4 ⟨rfl,hb4⟩;have HB5 := Lib.hid (HB3.out w4 (HB4.out.trans (hb4.mono HB4.out.size)));clear hb4 KS;go_wp2_with fail;go_ret;exact ⟨rfl,HB5.out⟩
         · have htI : ((t.length : Int) == 0) = false := beq_eq_false_iff_ne.2 (by omega);clear hT3 ht9;go_wp2_with fail;refine KD.mono ?_;rintro x w3 ⟨v',rfl,hN,hb3⟩;have KS := HKS.out w3 v' hN;have HB4 := Lib.hid hb3;obtain ⟨pa,pc,rfl⟩ := Nt.In.slice hN;clear hN hb3 KD;go_wp2_with fail;refine KS.mono ?_;rintro x w4 ⟨rfl,hb4⟩;have HB5 := Lib.hid (HB3.out w4 (HB4.out.trans (hb4.mono HB4.out.size)));clear hb4 KS;go_wp2_with fail;go_ret;exact ⟨rfl,HB5.out⟩
theorem Rn.SoundN_any (s1 s2 : Bool) (t1 b1 t2 b2 : List Nat) (v3 v4 v6 v7 : Value) (w : World) (i3 : Nt.In w v3 t1) (i4 : Nt.In w v4 b1) (i6 : Nt.In w v6 t2) (i7 : Nt.In w v7 b2) (ok1 : Rt.GOk t1 b1) (ok2 : Rt.GOk t2 b2) :
 Calls Tryz.prog 24 #[.agg #[.bool s1,v3,v4,.bool s2,v6,v7]] w fun e w' => e = .returned (.bool (Rt.sound s1 t1 b1 && Rt.sound s2 t2 b2)) ∧ Below w.heap.size w w' := by
 obtain ⟨a3,c3,rfl⟩ := i3.slice
 obtain ⟨a4,c4,rfl⟩ := i4.slice
 obtain ⟨a6,c6,rfl⟩ := i6.slice
 obtain ⟨a7,c7,rfl⟩ := i7.slice
 have hb0 : Below w.heap.size w (w.alloc (.cells #[.bool s1,.slice a3 t1.length c3,.slice a4 b1.length c4,.bool s2,.slice a6 t2.length c6,.slice a7 b2.length c7] 26)) := (Below.refl _ _).alloc (Nat.le_refl _) _
 have hq0 : (w.alloc (.cells #[.bool s1,.slice a3 t1.length c3,.slice a4 b1.length c4,.bool s2,.slice a6 t2.length c6,.slice a7 b2.length c7] 26)).heap[w.heap.size]? = some (.cells #[.bool s1,.slice a3 t1.length c3,.slice a4 b1.length c4,.bool s2,.slice a6 t2.length c6,.slice a7 b2.length c7] 26 (0,0)) := heap_alloc_new w _
 have hz0 : (w.alloc (.cells #[.bool s1,.slice a3 t1.length c3,.slice a4 b1.length c4,.bool s2,.slice a6 t2.length c6,.slice a7 b2.length c7] 26)).heap.size = w.heap.size + 1 := by simp
 have K1 := Rn.RatSound_any s1 t1 b1 _ _ _ (i3.below hb0 (Nat.le_refl _)) (i4.below hb0 (Nat.le_refl _)) ok1
 have HK2 := Lib.hid (fun w' (hb : Below w.heap.size w w') => Rn.RatSound_any s2 t2 b2 _ _ w' (i6.below hb (Nat.le_refl _)) (i7.below hb (Nat.le_refl _)) ok2)
 have HF : Hid (∀ w',Below (w.heap.size + 1) (w.alloc (.cells #[.bool s1,.slice a3 t1.length c3,.slice a4 b1.length c4,.bool s2,.slice a6 t2.length c6,.slice a7 b2.length c7] 26)) w' → w'.cell? ⟨w.heap.size,3,none⟩ = some (.bool s2) ∧ w'.cell? ⟨w.heap.size,4,none⟩ = some (.slice a6 t2.length c6) ∧ w'.cell? ⟨w.heap.size,5,none⟩ = some (.slice a7 b2.length c7) ∧ Below w.heap.size w w') := Lib.hid (fun w' hb => by
   have a0 := (hb.block w.heap.size (Nat.lt_succ_self _)).trans hq0
   refine ⟨?_,?_,?_,hb0.trans (hb.mono (Nat.le_succ _))⟩ <;> simp [World.cell?,a0])
 rw [hz0] at K1
 clear i3 i4 i6 i7 ok1 ok2 hb0 hq0 hz0
 generalize Rt.sound s1 t1 b1 = R1 at *
 generalize Rt.sound s2 t2 b2 = R2 at *
 go_enter Tryz.func24,Tryz.ntmps24
 go_wp2_with fail
 refine K1.mono ?_
 rintro x w1 ⟨rfl,hb1⟩
 obtain ⟨d3,d4,d5,hbw1⟩ := HF.out w1 hb1
 have HB1 := Lib.hid hbw1
 clear hb1 hbw1 K1
 cases R1
 · go_wp2_with fail;go_ret;exact ⟨rfl,HB1.out⟩
 · go_wp2_with fail;refine (HK2.out w1 HB1.out).mono ?_;rintro x w2 ⟨rfl,hb2⟩;have HB2 := Lib.hid (HB1.out.trans (hb2.mono HB1.out.size));clear hb2 d3 d4 d5;go_wp2_with fail;go_ret;exact ⟨rfl,HB2.out⟩
theorem Rn.noRat_any (s : Bool) (t b : List Nat) (v3 v4 : Value) (w : World) (h3 : Nt.In w v3 t) (h4 : Nt.In w v4 b) (hl1 : t.length ≤ 4611686018427387904) (hl2 : b.length ≤ 4611686018427387904) :
 Calls Tryz.prog 51 #[.agg #[.bool s,v3,v4]] w fun e w' => e = .returned (.bool (Rt.noRat s t b)) ∧ Below w.heap.size w w' := by
 obtain ⟨a3,c3,rfl⟩ := h3.slice
 obtain ⟨a4,c4,rfl⟩ := h4.slice
 have hb0 : ∀ o,Below w.heap.size w (w.alloc o) := fun o => (Below.refl _ _).alloc (Nat.le_refl _) _
 have HB0 := Lib.hid hb0
 unfold Rt.noRat
 clear h3 h4 hb0
 cases s
 · by_cases h0 : t.length = 0 ∧ b.length = 0
   · rw [h0.1,h0.2];clear hl1 hl2 h0;go_enter Tryz.func51,Tryz.ntmps51;go_wp2_with fail;go_ret;exact ⟨rfl,HB0.out _⟩
   · have hR : (!false && decide (t.length = 0) && decide (b.length = 0)) = false := by
      by_cases h1 : t.length = 0
      · have h2 : ¬ b.length = 0 := fun h => h0 ⟨h1,h⟩;simp [h1,h2]
      · simp [h1]
     rw [hR];have hpos : 0 < (t.length : Int) + (b.length : Int) := by omega
     have hS : (wrap64 ((t.length : Int) + (b.length : Int)) == 0) = false := by
      refine beq_eq_false_iff_ne.2 ?_;unfold wrap64;omega
     generalize t.length = lt at *;generalize b.length = lb at *;clear hR h0;go_enter Tryz.func51,Tryz.ntmps51;go_wp2_with fail;go_ret;exact ⟨rfl,HB0.out _⟩
 · go_enter Tryz.func51,Tryz.ntmps51;go_wp2_with fail;go_ret;exact ⟨rfl,HB0.out _⟩
theorem Rn.IsChar_any (n : Int) (w : World) : Calls Tryz.prog 52 #[.int .i64 n] w fun e w' => e = .returned (.bool (Tr.isChar n)) ∧ Below w.heap.size w w' := by
 unfold Tr.isChar;by_cases h1 : 0 ≤ n
 · by_cases h2 : n ≤ 1114111
   · by_cases h3 : n < 55296
     · have hR : (decide (0 ≤ n) && decide (n ≤ 55295) || decide (57344 ≤ n) && decide (n ≤ 1114111)) = true := by
        rw [decide_eq_true h1,decide_eq_true (show n ≤ 55295 by omega)]; rfl
       rw [hR];clear hR;go_enter Tryz.func52,Tryz.ntmps52;go_wp2_with fail;go_ret;exact ⟨rfl,Below.refl _ _⟩
     · by_cases h4 : n > 57343
       · have hR : (decide (0 ≤ n) && decide (n ≤ 55295) || decide (57344 ≤ n) && decide (n ≤ 1114111)) = true := by
          rw [decide_eq_true (show 57344 ≤ n by omega),decide_eq_true h2]; simp
         rw [hR];clear hR;go_enter Tryz.func52,Tryz.ntmps52;go_wp2_with fail;go_ret;exact ⟨rfl,Below.refl _ _⟩
       · have hR : (decide (0 ≤ n) && decide (n ≤ 55295) || decide (57344 ≤ n) && decide (n ≤ 1114111)) = false := by
          rw [decide_eq_false (show ¬ 57344 ≤ n by omega),decide_eq_false (show ¬ n ≤ 55295 by omega)]; simp
         rw [hR];clear hR;go_enter Tryz.func52,Tryz.ntmps52;go_wp2_with fail;go_ret;exact ⟨rfl,Below.refl _ _⟩
   · have hR : (decide (0 ≤ n) && decide (n ≤ 55295) || decide (57344 ≤ n) && decide (n ≤ 1114111)) = false := by
      rw [decide_eq_false h2,decide_eq_false (show ¬ n ≤ 55295 by omega)]; simp
     rw [hR];clear hR;go_enter Tryz.func52,Tryz.ntmps52;go_wp2_with fail;go_ret;exact ⟨rfl,Below.refl _ _⟩
 · have hR : (decide (0 ≤ n) && decide (n ≤ 55295) || decide (57344 ≤ n) && decide (n ≤ 1114111)) = false := by
    rw [decide_eq_false h1,decide_eq_false (show ¬ 57344 ≤ n by omega)]; simp
   rw [hR];clear hR;go_enter Tryz.func52,Tryz.ntmps52;go_wp2_with fail;go_ret;exact ⟨rfl,Below.refl _ _⟩
set_option maxHeartbeats 200000
set_option maxRecDepth 512
theorem Rd.empty (x : ByteArray) : x.toList = [] ↔ x.size = 0 := by
 have h : x.toList.length = x.size := by rw [ByteArray.toList_eq]; simp
 rw [← h];exact List.length_eq_zero_iff.symm
set_option maxHeartbeats 1000000
set_option maxRecDepth 1000000
theorem Rd.shape1 (N : Int) (s1 s2 : Bool) (t1 b1 t2 b2 : List Nat) (x raw : ByteArray) (n : Nat) (a3 a4 a6 a7 a9 a10 : Option Addr) (c3 c4 c6 c7 c9 c10 : Nat) (w : World) (hx : x.size ≤ 1048576)
 (i3 : Nt.In w (.slice a3 t1.length c3) t1) (i4 : Nt.In w (.slice a4 b1.length c4) b1) (i6 : Nt.In w (.slice a6 t2.length c6) t2) (i7 : Nt.In w (.slice a7 b2.length c7) b2) (ok1 : Rt.GOk t1 b1) (ok2 : Rt.GOk t2 b2) :
 Calls Tryz.prog 23 #[.agg #[.int .i64 1,.int .i64 N,.bool s1,.slice a3 t1.length c3,.slice a4 b1.length c4,.bool s2,.slice a6 t2.length c6,.slice a7 b2.length c7,.string x,.slice a9 raw.size c9,.slice a10 n c10]] w fun e w' => e = .returned (.bool (Tr.Hd.shape ⟨1,N,s1,t1,b1,s2,t2,b2,x,raw⟩ n)) ∧ Below w.heap.size w w' := by
 obtain ⟨R,hR⟩ : ∃ z,z = Tr.Hd.shape ⟨1,N,s1,t1,b1,s2,t2,b2,x,raw⟩ n := ⟨_,rfl⟩
 rw [← hR]
 have HR := Lib.hid hR
 have hb0 : Below w.heap.size w (w.alloc (.cells #[.int .i64 1,.int .i64 N,.bool s1,.slice a3 t1.length c3,.slice a4 b1.length c4,.bool s2,.slice a6 t2.length c6,.slice a7 b2.length c7,.string x,.slice a9 raw.size c9,.slice a10 n c10] 30)) := (Below.refl _ _).alloc (Nat.le_refl _) _
 have hq0 : (w.alloc (.cells #[.int .i64 1,.int .i64 N,.bool s1,.slice a3 t1.length c3,.slice a4 b1.length c4,.bool s2,.slice a6 t2.length c6,.slice a7 b2.length c7,.string x,.slice a9 raw.size c9,.slice a10 n c10] 30)).heap[w.heap.size]? = some (.cells #[.int .i64 1,.int .i64 N,.bool s1,.slice a3 t1.length c3,.slice a4 b1.length c4,.bool s2,.slice a6 t2.length c6,.slice a7 b2.length c7,.string x,.slice a9 raw.size c9,.slice a10 n c10] 30 (0,0)) := heap_alloc_new w _
 have hz0 : (w.alloc (.cells #[.int .i64 1,.int .i64 N,.bool s1,.slice a3 t1.length c3,.slice a4 b1.length c4,.bool s2,.slice a6 t2.length c6,.slice a7 b2.length c7,.string x,.slice a9 raw.size c9,.slice a10 n c10] 30)).heap.size = w.heap.size + 1 := by simp
 have HF : Hid (∀ w',Below (w.heap.size + 1) (w.alloc (.cells #[.int .i64 1,.int .i64 N,.bool s1,.slice a3 t1.length c3,.slice a4 b1.length c4,.bool s2,.slice a6 t2.length c6,.slice a7 b2.length c7,.string x,.slice a9 raw.size c9,.slice a10 n c10] 30)) w' → (∀ j,w'.cell? ⟨w.heap.size,j,none⟩ = (#[.int .i64 1,.int .i64 N,.bool s1,.slice a3 t1.length c3,.slice a4 b1.length c4,.bool s2,.slice a6 t2.length c6,.slice a7 b2.length c7,.string x,.slice a9 raw.size c9,.slice a10 n c10] : Array Value)[j]?) ∧ Below w.heap.size w w') := Lib.hid (fun w' hb => by
   have a0 := (hb.block w.heap.size (Nat.lt_succ_self _)).trans hq0
   exact ⟨fun j => by simp [World.cell?,a0],hb0.trans (hb.mono (Nat.le_succ _))⟩)
 have KV := Ru.valid_any x (w.alloc (.cells #[.int .i64 1,.int .i64 N,.bool s1,.slice a3 t1.length c3,.slice a4 b1.length c4,.bool s2,.slice a6 t2.length c6,.slice a7 b2.length c7,.string x,.slice a9 raw.size c9,.slice a10 n c10] 30)) (by omega)
 rw [hz0] at KV
 have HK1 := Lib.hid (fun w' (hb : Below w.heap.size w w') => Rn.noRat_any s1 t1 b1 _ _ w' (i3.below hb (Nat.le_refl _)) (i4.below hb (Nat.le_refl _)) ok1.l1 ok1.l2)
 have HK2 := Lib.hid (fun w' (hb : Below w.heap.size w w') => Rn.noRat_any s2 t2 b2 _ _ w' (i6.below hb (Nat.le_refl _)) (i7.below hb (Nat.le_refl _)) ok2.l1 ok2.l2)
 clear hb0 hq0 hz0 hR i3 i4 i6 i7 ok1 ok2 hx
 cases hV : Lib.validD x.data.toList
 all_goals
  rw [hV] at KV
  go_enter Tryz.func23,Tryz.ntmps23
  go_wp2_with fail
  refine KV.mono ?_
  rintro z w1 ⟨rfl,hb1⟩
  obtain ⟨d,hbw1⟩ := HF.out w1 hb1
  have d0 := d 0
  have d2 := d 2
  have d3 := d 3
  have d4 := d 4
  have d5 := d 5
  have d6 := d 6
  have d7 := d 7
  have HB1 := Lib.hid (And.intro hb1 hbw1)
  clear hb1 hbw1 d KV
 · have hans : R = false := by
    rw [HR.out];simp [Tr.Hd.shape,Tr.Hd.num,Tr.isText,Tr.own,hV]
   have HANS := Lib.hid hans;clear hans;go_wp2_with fail;go_ret;exact ⟨by rw [HANS.out]; rfl,HB1.out.2⟩
 · cases hS1 : Rt.noRat s1 t1 b1;all_goals
    have KN := HK1.out w1 HB1.out.2;rw [hS1] at KN;go_wp2_with fail;refine KN.mono ?_;rintro z w2 ⟨rfl,hb2⟩;have hb2' := HB1.out.1.trans (hb2.mono (by have := HB1.out.1.size; simp at this; omega));obtain ⟨d,hbw2⟩ := HF.out w2 hb2';clear d0 d2 d3 d4 d5 d6 d7;have d0 := d 0;have d2 := d 2;have d5 := d 5;have d6 := d 6;have d7 := d 7;have HB2 := Lib.hid (And.intro hb2' hbw2);clear hb2 hb2' hbw2 d;clear KN
   · have hans : R = false := by
      rw [HR.out];simp [Tr.Hd.shape,Tr.Hd.num,Tr.isText,Tr.own,hV,hS1]
     have HANS := Lib.hid hans;clear hans;go_wp2_with fail;go_ret;exact ⟨by rw [HANS.out]; rfl,HB2.out.2⟩
   · cases hS2 : Rt.noRat s2 t2 b2;all_goals
      have KN := HK2.out w2 HB2.out.2;rw [hS2] at KN;go_wp2_with fail;refine KN.mono ?_;rintro z w3 ⟨rfl,hb3⟩;have hb3' := HB2.out.1.trans (hb3.mono (by have := HB2.out.1.size; simp at this; omega));obtain ⟨d,hbw3⟩ := HF.out w3 hb3';clear d0 d2 d5 d6 d7;have d0 := d 0;have d1 := d 1;have d8 := d 8;have d9 := d 9;have d10 := d 10;have HB3 := Lib.hid (And.intro hb3' hbw3);clear hb3 hb3' hbw3 d;clear KN
     · have hans : R = false := by
        rw [HR.out];simp [Tr.Hd.shape,Tr.Hd.num,Tr.isText,Tr.own,hV,hS1,hS2]
       have HANS := Lib.hid hans;clear hans;go_wp2_with fail;go_ret;exact ⟨by rw [HANS.out]; rfl,HB3.out.2⟩
     · by_cases hxz : x.size = 0
       · have hxl : x.toList = [] := (Rd.empty x).2 hxz;by_cases hr : raw.size = 0
         · have hr0 : ¬ 0 < raw.size := by omega
           have hrI : ¬ (raw.size : Int) > 0 := by omega
           by_cases hN : N = 0
           · subst hN;by_cases hn : n = 0
             · have hnI : ((n : Int) == 0) = true := by subst hn; rfl
               have hans : R = true := by
                rw [HR.out];simp [Tr.Hd.shape,Tr.Hd.num,Tr.isText,Tr.own,hV,hS1,hS2,hxz,hr,hn]
               have HANS := Lib.hid hans;clear hans;go_wp2_with fail;go_ret;exact ⟨by rw [HANS.out]; rfl,HB3.out.2⟩
             · have hnI : ((n : Int) == 0) = false := beq_eq_false_iff_ne.2 (by omega);have hans : R = false := by
                rw [HR.out];simp [Tr.Hd.shape,Tr.Hd.num,Tr.isText,Tr.own,hV,hS1,hS2,hxz,hr,hn]
               have HANS := Lib.hid hans;clear hans;go_wp2_with fail;go_ret;exact ⟨by rw [HANS.out]; rfl,HB3.out.2⟩
           · have hNI : (N != 0) = true := by simpa using hN
             have hans : R = false := by
              rw [HR.out];simp [Tr.Hd.shape,Tr.Hd.num,Tr.isText,Tr.own,hV,hS1,hS2,hxz,hr,hN]
             have HANS := Lib.hid hans;clear hans;go_wp2_with fail;go_ret;exact ⟨by rw [HANS.out]; rfl,HB3.out.2⟩
         · have hr0 : 0 < raw.size := by omega
           have hrI : (raw.size : Int) > 0 := by omega
           have hans : R = false := by
            rw [HR.out];simp [Tr.Hd.shape,Tr.Hd.num,Tr.isText,Tr.own,hV,hS1,hS2,hxz,hr]
           have HANS := Lib.hid hans;clear hans;go_wp2_with fail;go_ret;exact ⟨by rw [HANS.out]; rfl,HB3.out.2⟩
       · have hxl : ¬ x.toList = [] := fun e => hxz ((Rd.empty x).1 e);have hxe : x.toList.isEmpty = false := by cases hh : x.toList with | nil => exact absurd hh hxl | cons a r => rfl
         have hans : R = false := by
          rw [HR.out];simp [Tr.Hd.shape,Tr.Hd.num,Tr.isText,Tr.own,hV,hS1,hS2,hxz]
         have HANS := Lib.hid hans;clear hans;go_wp2_with fail;go_ret;exact ⟨by rw [HANS.out]; rfl,HB3.out.2⟩
end Go.Proofs.YteklhapffplohaaGreatDoor
