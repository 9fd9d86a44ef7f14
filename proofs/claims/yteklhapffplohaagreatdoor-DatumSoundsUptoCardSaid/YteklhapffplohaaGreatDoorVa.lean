/-
  Small hexadecimal digits, in plain Lean. The characters' plain functions: what package chars computes for one character, said as Lean functions on Int, with no program in sight. No conditions. Texts and their characters, in plain Lean over the model's own decoding: the characters of a text, and that a text of encoded characters is read back as they were. No conditions.
-/
import Derived.WalkKit
import Derived.Lib.MapLaws
import Derived.Lib.RuneBytes
import Derived.Lib.SpaceU
import Derived.Lib.TrimUEq
import Derived.Laws.AppendOwn
import Derived.RowKit
import Derived.Below
import Derived.Lib.Hide
import Derived.OwnWalk
import Derived.WalkSpells
import Derived.WalkLawsBesides
import Derived.Lib.RuneCount
import Derived.Lib.OthersKept
import Derived.Laws.AppendOwnNone
import Derived.ChangeSlices
import Derived.RegionTactic
import Derived.OpenShut
import Derived.SizedLaws
import Derived.ProofKit
import Derived.Lib.SmallJoins
import Derived.Test.YteklhapffplohaaGreatDoorProg
import Derived.Handy
import Derived.Laws.MakeOwn
import Derived.Lib.SliceRun
import Derived.Lib.ValidU
import Derived.BigQuiet
import Derived.Deep.DeepCutAuto
set_option linter.unusedVariables false
set_option linter.unusedSimpArgs false
namespace Go.Proofs.YteklhapffplohaaGreatDoor
end Go.Proofs.YteklhapffplohaaGreatDoor
namespace Go.Proofs.YteklhapffplohaaGreatDoor.Ch
def p1 (r : Int) : Prop := (97 ≤ r ∧ r ≤ 122) ∨ (224 ≤ r ∧ r ≤ 254 ∧ r ≠ 247) ∨ (945 ≤ r ∧ r ≤ 969 ∧ r ≠ 962) ∨ (1072 ≤ r ∧ r ≤ 1103)
def p2 (r : Int) : Prop := (65 ≤ r ∧ r ≤ 90) ∨ (192 ≤ r ∧ r ≤ 222 ∧ r ≠ 215) ∨ (913 ≤ r ∧ r ≤ 937 ∧ r ≠ 930) ∨ (1040 ≤ r ∧ r ≤ 1071)
def p3 (r : Int) : Prop := 1104 ≤ r ∧ r ≤ 1119
def p4 (r : Int) : Prop := 1024 ≤ r ∧ r ≤ 1039
def p5 (r : Int) : Prop := (256 ≤ r ∧ r ≤ 311 ∧ r ≠ 304 ∧ r ≠ 305) ∨ (330 ≤ r ∧ r ≤ 375)
def p6 (r : Int) : Prop := (313 ≤ r ∧ r ≤ 328) ∨ (377 ≤ r ∧ r ≤ 382)
instance (r : Int) : Decidable (p1 r) := by unfold p1; infer_instance
instance (r : Int) : Decidable (p2 r) := by unfold p2; infer_instance
instance (r : Int) : Decidable (p3 r) := by unfold p3; infer_instance
instance (r : Int) : Decidable (p4 r) := by unfold p4; infer_instance
instance (r : Int) : Decidable (p5 r) := by unfold p5; infer_instance
instance (r : Int) : Decidable (p6 r) := by unfold p6; infer_instance
def pairZ (r : Int) : Int × Int × Bool :=
 if p1 r then (r,r - 32,true) else if p2 r then (r + 32,r,true) else if p3 r then (r,r - 80,true) else if p4 r then (r + 80,r,true)
 else if p5 r then (r - r % 2 + 1,r - r % 2,true) else if p6 r then (r - 1 + r % 2 + 1,r - 1 + r % 2,true) else (r,r,false)
def oddLetter (r : Int) : Bool := r == 170 || r == 181 || r == 186 || r == 223 || r == 255 || r == 304 || r == 305 || r == 312 || r == 329 || r == 376 || r == 383 || r == 962
def letterB (r : Int) : Bool := if oddLetter r = true then true else (pairZ r).2.2
def blankB (r : Int) : Bool := r == 9 || r == 10 || r == 11 || r == 12 || r == 13 || r == 32 || r == 133 || r == 160 || r == 8232 || r == 8233
theorem pairZ_1 {r : Int} (h : p1 r) : pairZ r = (r,r - 32,true) := by simp [pairZ,h]
theorem pairZ_2 {r : Int} (h1 : ¬ p1 r) (h : p2 r) : pairZ r = (r + 32,r,true) := by simp [pairZ,h1,h]
theorem pairZ_3 {r : Int} (h1 : ¬ p1 r) (h2 : ¬ p2 r) (h : p3 r) : pairZ r = (r,r - 80,true) := by simp [pairZ,h1,h2,h]
theorem pairZ_4 {r : Int} (h1 : ¬ p1 r) (h2 : ¬ p2 r) (h3 : ¬ p3 r) (h : p4 r) : pairZ r = (r + 80,r,true) := by simp [pairZ,h1,h2,h3,h]
theorem pairZ_5 {r : Int} (h1 : ¬ p1 r) (h2 : ¬ p2 r) (h3 : ¬ p3 r) (h4 : ¬ p4 r) (h : p5 r) : pairZ r = (r - r % 2 + 1,r - r % 2,true) := by simp [pairZ,h1,h2,h3,h4,h]
theorem pairZ_6 {r : Int} (h1 : ¬ p1 r) (h2 : ¬ p2 r) (h3 : ¬ p3 r) (h4 : ¬ p4 r) (h5 : ¬ p5 r) (h : p6 r) : pairZ r = (r - 1 + r % 2 + 1,r - 1 + r % 2,true) := by simp [pairZ,h1,h2,h3,h4,h5,h]
theorem pairZ_0 {r : Int} (h1 : ¬ p1 r) (h2 : ¬ p2 r) (h3 : ¬ p3 r) (h4 : ¬ p4 r) (h5 : ¬ p5 r) (h6 : ¬ p6 r) : pairZ r = (r,r,false) := by simp [pairZ,h1,h2,h3,h4,h5,h6]
theorem or1 : ∀ n : Fin 400,bits .or .i32 (n.val : Int) 1 = (n.val : Int) - (n.val : Int) % 2 + 1 := by decide +kernel
theorem an1 : ∀ n : Fin 400,bits .andNot .i32 (n.val : Int) 1 = (n.val : Int) - (n.val : Int) % 2 := by decide +kernel
theorem and1 : ∀ n : Fin 400,bits .and .i32 (n.val : Int) 1 = (n.val : Int) % 2 := by decide +kernel
theorem or_1 (r : Int) (h0 : 0 ≤ r) (h1 : r < 400) : bits .or .i32 r 1 = r - r % 2 + 1 := by
 obtain ⟨n,rfl⟩ := Int.eq_ofNat_of_zero_le h0;exact or1 ⟨n,by omega⟩
theorem andNot_1 (r : Int) (h0 : 0 ≤ r) (h1 : r < 400) : bits .andNot .i32 r 1 = r - r % 2 := by
 obtain ⟨n,rfl⟩ := Int.eq_ofNat_of_zero_le h0;exact an1 ⟨n,by omega⟩
theorem and_1 (r : Int) (h0 : 0 ≤ r) (h1 : r < 400) : bits .and .i32 r 1 = r % 2 := by
 obtain ⟨n,rfl⟩ := Int.eq_ofNat_of_zero_le h0;exact and1 ⟨n,by omega⟩
end Go.Proofs.YteklhapffplohaaGreatDoor.Ch
namespace Go.Proofs.YteklhapffplohaaGreatDoor.Ru
open Go.Lib
def okR (r : Int) : Prop := (0 ≤ r ∧ r < 55296) ∨ (57344 ≤ r ∧ r ≤ 1114111)
instance (r : Int) : Decidable (okR r) := by unfold okR; infer_instance
theorem width_pos (l : List UInt8) (_h : l ≠ []) : 1 ≤ (decodeL l).2 := decodeL_width l
theorem width_le (l : List UInt8) (h : l ≠ []) : (decodeL l).2 ≤ l.length := decodeL_le l h
theorem decode_ok (l : List UInt8) (_hne : l ≠ []) : okR ((decodeL l).1 : Int) := by
 unfold okR;rw [decodeL_N];have k0 := (l.getD 0 0).toNat_lt;have k1 := (l.getD 1 0).toNat_lt;have k2 := (l.getD 2 0).toNat_lt;have k3 := (l.getD 3 0).toNat_lt;rcases decodeN_shape l.length (l.getD 0 0).toNat (l.getD 1 0).toNat (l.getD 2 0).toNat (l.getD 3 0).toNat with ⟨c,e⟩ | ⟨c1,c2,c3,cv,e⟩ | ⟨c1,c2,c3,c4,cv,cs,e⟩ | ⟨c1,c2,c3,c4,c5,cv,cw,e⟩ | e <;> rw [e] <;> simp only [] <;> omega
theorem encode_bad {r : Int} (h : ¬ okR r) : encodeRune r = encodeRune 65533 := by
 unfold okR at h;unfold encodeRune;rw [encodeRuneZ_bad (by omega),encodeRuneZ_three (r := 65533) (by omega)];rfl
theorem encode_length (r : Int) : 1 ≤ (encodeRune r).length ∧ (encodeRune r).length ≤ 4 := by
 have := encodeRuneZ_length r;simpa [encodeRune] using this
theorem byteNat (z : Int) (_h0 : 0 ≤ z) (h1 : z < 256) : (z.toNat.toUInt8).toNat = z.toNat := by
 simp;omega
set_option maxHeartbeats 1000000
theorem decode_encode (r : Int) (h : okR r) (t : List UInt8) : decodeL (encodeRune r ++ t) = (r.toNat,(encodeRune r).length) := by
 unfold okR at h;rw [decodeL_N];unfold encodeRune;by_cases c1 : r ≤ 127
 · rw [encodeRuneZ_one (by omega) c1];have e0 := byteNat r (by omega) (by omega);simp only [List.map_cons,List.map_nil,List.cons_append,List.nil_append,List.getD_cons_zero,e0,List.length_cons,List.length_nil];unfold decodeN;rw [if_pos (by omega)]
 by_cases c2 : r ≤ 2047
 · rw [encodeRuneZ_two (by omega) c2];have e0 := byteNat (192 + r / 64) (by omega) (by omega);have e1 := byteNat (128 + r % 64) (by omega) (by omega);simp only [List.map_cons,List.map_nil,List.cons_append,List.nil_append,List.getD_cons_zero,List.getD_cons_succ,e0,e1,List.length_cons,List.length_nil];unfold decodeN;rw [if_neg (by omega),if_pos (by omega),if_pos (by omega)];refine Prod.ext ?_ rfl;simp only [];omega
 by_cases c3 : r ≤ 65535
 · rw [encodeRuneZ_three (by omega)];have e0 := byteNat (224 + r / 4096) (by omega) (by omega);have e1 := byteNat (128 + r / 64 % 64) (by omega) (by omega);have e2 := byteNat (128 + r % 64) (by omega) (by omega);simp only [List.map_cons,List.map_nil,List.cons_append,List.nil_append,List.getD_cons_zero,List.getD_cons_succ,e0,e1,e2,List.length_cons,List.length_nil];unfold decodeN;rw [if_neg (by omega),if_neg (by omega),if_pos (by omega),if_pos (by omega)];refine Prod.ext ?_ rfl;simp only [];omega
 · rw [encodeRuneZ_four (by omega) (by omega)];have e0 := byteNat (240 + r / 262144) (by omega) (by omega);have e1 := byteNat (128 + r / 4096 % 64) (by omega) (by omega);have e2 := byteNat (128 + r / 64 % 64) (by omega) (by omega);have e3 := byteNat (128 + r % 64) (by omega) (by omega);simp only [List.map_cons,List.map_nil,List.cons_append,List.nil_append,List.getD_cons_zero,List.getD_cons_succ,e0,e1,e2,e3,List.length_cons,List.length_nil];unfold decodeN;rw [if_neg (by omega),if_neg (by omega),if_neg (by omega),if_pos (by omega),if_pos (by omega)];refine Prod.ext ?_ rfl;simp only [];omega
end Go.Proofs.YteklhapffplohaaGreatDoor.Ru
namespace Go.Proofs.YteklhapffplohaaGreatDoor.Ch
open Ru
end Go.Proofs.YteklhapffplohaaGreatDoor.Ch
namespace Go.Proofs.YteklhapffplohaaGreatDoor
open Go.RowKit
def Wt.name (n : Int) : List UInt8 :=
 if n = 0 then [110,117,108] else if n = 7 then [97,108,97,114,109] else if n = 8 then [98,97,99,107,115,112,97,99,101] else if n = 9 then [116,97,98]
 else if n = 10 then [110,101,119,108,105,110,101] else if n = 11 then [118,116,97,98] else if n = 12 then [112,97,103,101] else if n = 13 then [114,101,116,117,114,110]
 else if n = 27 then [101,115,99] else if n = 32 then [115,112,97,99,101] else if n = 127 then [100,101,108,101,116,101] else []
def Wt.firstB (r : Int) : Bool := Ch.letterB r || (decide (r = 33) || decide (r = 36) || decide (r = 37) || decide (r = 38) || decide (r = 42) || decide (r = 47) || decide (r = 58) || decide (r = 60) || decide (r = 61) || decide (r = 62) || decide (r = 63) || decide (r = 94) || decide (r = 95) || decide (r = 126)) || (decide (127 < r) && !Ch.blankB r)
def Wt.restB (r : Int) : Bool := Wt.firstB r || (decide (48 ≤ r) && decide (r ≤ 57)) || (decide (r = 43) || decide (r = 45) || decide (r = 46) || decide (r = 64))
end Go.Proofs.YteklhapffplohaaGreatDoor
namespace Go.Proofs.YteklhapffplohaaGreatDoor
def Nt.val : List Nat → Nat
 | [] => 0
 | x :: xs => x + 4294967296 * Nt.val xs
def Nt.Wd (ws : List Nat) : Prop := ∀ x ∈ ws,x < 4294967296
def Nt.dig (n : Nat) : List Nat := if h : n = 0 then [] else (n % 4294967296) :: Nt.dig (n / 4294967296)
termination_by n
decreasing_by omega
theorem Nt.dig_zero : Nt.dig 0 = [] := by rw [Nt.dig]; simp
theorem Nt.dig_pos {n : Nat} (h : 0 < n) : Nt.dig n = (n % 4294967296) :: Nt.dig (n / 4294967296) := by rw [Nt.dig]; simp; omega
theorem Nt.val_dig (n : Nat) : Nt.val (Nt.dig n) = n := by
 induction n using Nat.strongRecOn with
 | _ n ih =>
   rcases Nat.eq_zero_or_pos n with h | h
   · subst h; rw [Nt.dig_zero]; rfl
   · rw [Nt.dig_pos h,Nt.val,ih (n / 4294967296) (by omega)];omega
theorem Nt.dig_wd (n : Nat) : Nt.Wd (Nt.dig n) := by
 induction n using Nat.strongRecOn with
 | _ n ih =>
   rcases Nat.eq_zero_or_pos n with h | h
   · subst h; rw [Nt.dig_zero]; intro x hx; cases hx
   · rw [Nt.dig_pos h];intro x hx;rcases List.mem_cons.1 hx with hx | hx
     · omega
     · exact ih (n / 4294967296) (by omega) x hx
theorem Nt.Wd.tail {x : Nat} {xs : List Nat} (h : Nt.Wd (x :: xs)) : Nt.Wd xs := fun y hy => h y (List.mem_cons_of_mem _ hy)
theorem Nt.Wd.head {x : Nat} {xs : List Nat} (h : Nt.Wd (x :: xs)) : x < 4294967296 := h x (List.mem_cons_self ..)
theorem Nt.Wd.take {ws : List Nat} (h : Nt.Wd ws) (k : Nat) : Nt.Wd (ws.take k) := fun x hx => h x (List.mem_of_mem_take hx)
theorem Nt.Wd.getD {ws : List Nat} (h : Nt.Wd ws) (k : Nat) : ws.getD k 0 < 4294967296 := by
 rw [List.getD_eq_getElem?_getD];rcases Nat.lt_or_ge k ws.length with hk | hk
 · rw [List.getElem?_eq_getElem hk,Option.getD_some];exact h _ (List.getElem_mem hk)
 · rw [List.getElem?_eq_none hk];decide
theorem Nt.dig_val : ∀ (ws : List Nat),Nt.Wd ws → (ws ≠ [] → ws.getD (ws.length - 1) 0 ≠ 0) → Nt.dig (Nt.val ws) = ws
 | [],_,_ => Nt.dig_zero
 | x :: xs,hw,ht => by
   have ht := ht (by simp);have hx := hw.head;rcases Nat.eq_zero_or_pos xs.length with h0 | h0
   · have : xs = [] := List.eq_nil_of_length_eq_zero h0;subst this;have hx0 : x ≠ 0 := by simpa using ht
     rw [show Nt.val [x] = x by simp [Nt.val],Nt.dig_pos (by omega),show x / 4294967296 = 0 by omega,Nt.dig_zero,show x % 4294967296 = x by omega]
   · have ht2 : xs.getD (xs.length - 1) 0 ≠ 0 := by
      have e : (x :: xs).length - 1 = (xs.length - 1) + 1 := by simp; omega
      rw [e] at ht;simpa using ht
     have ih := Nt.dig_val xs hw.tail (fun _ => ht2);have hv : 0 < Nt.val xs := by
      rcases Nat.eq_zero_or_pos (Nt.val xs) with h | h
      · rw [h,Nt.dig_zero] at ih;rw [← ih] at h0;simp at h0
      · exact h
     rw [Nt.val,Nt.dig_pos (by omega),show (x + 4294967296 * Nt.val xs) % 4294967296 = x by omega,show (x + 4294967296 * Nt.val xs) / 4294967296 = Nt.val xs by omega,ih]
theorem Nt.val_append : ∀ (a b : List Nat),Nt.val (a ++ b) = Nt.val a + 4294967296 ^ a.length * Nt.val b
 | [],b => by simp [Nt.val]
 | x :: a,b => by
   rw [List.cons_append,Nt.val,Nt.val_append a b,Nt.val,List.length_cons,Nat.pow_succ];rw [Nat.mul_add,← Nat.mul_assoc,Nat.mul_comm (4294967296 ^ a.length) 4294967296];omega
theorem Nt.val_lt : ∀ (ws : List Nat),Nt.Wd ws → Nt.val ws < 4294967296 ^ ws.length
 | [],_ => by simp [Nt.val]
 | x :: xs,hw => by
   have ih := Nt.val_lt xs hw.tail;have hx := hw.head;rw [Nt.val,List.length_cons,Nat.pow_succ];omega
theorem Nt.val_zeros : ∀ (ws : List Nat),(∀ x ∈ ws,x = 0) → Nt.val ws = 0
 | [],_ => rfl
 | x :: xs,h => by
   rw [Nt.val,Nt.val_zeros xs (fun y hy => h y (List.mem_cons_of_mem _ hy)),h x (List.mem_cons_self ..)]
theorem Nt.take_succ (ws : List Nat) (k : Nat) (hk : k < ws.length) : ws.take (k + 1) = ws.take k ++ [ws.getD k 0] := by
 rw [List.take_add_one,List.getD_eq_getElem?_getD,List.getElem?_eq_getElem hk];rfl
theorem Nt.val_take_succ (ws : List Nat) (k : Nat) (hk : k < ws.length) : Nt.val (ws.take (k + 1)) = Nt.val (ws.take k) + 4294967296 ^ k * ws.getD k 0 := by
 rw [Nt.take_succ ws k hk,Nt.val_append,List.length_take,Nat.min_eq_left (by omega)];simp [Nt.val]
theorem Nt.dig_of {ws : List Nat} {n : Nat} (hw : Nt.Wd ws) (hn : n ≤ ws.length) (hz : ∀ j,n ≤ j → j < ws.length → ws.getD j 0 = 0) (ht : n = 0 ∨ ws.getD (n - 1) 0 ≠ 0) : ws.take n = Nt.dig (Nt.val ws) := by
 have hv : Nt.val ws = Nt.val (ws.take n) := by
  conv => lhs; rw [← List.take_append_drop n ws]
  rw [Nt.val_append,Nt.val_zeros (ws.drop n),Nat.mul_zero,Nat.add_zero];intro x hx;obtain ⟨j,hj,rfl⟩ := List.getElem_of_mem hx;rw [List.length_drop] at hj;have := hz (n + j) (by omega) (by omega);rw [List.getD_eq_getElem?_getD,List.getElem?_eq_getElem (by omega),Option.getD_some] at this;rw [List.getElem_drop];exact this
 rw [hv];refine (Nt.dig_val _ (hw.take n) (fun hne => ?_)).symm;have hn0 : n ≠ 0 := by
  intro e;subst e;simp at hne
 have hl : (ws.take n).length = n := by rw [List.length_take]; omega
 rw [hl,List.getD_eq_getElem?_getD,List.getElem?_take,if_pos (by omega),← List.getD_eq_getElem?_getD];rcases ht with h | h
 · exact absurd h hn0
 · exact h
theorem Nt.trim_ex (ws : List Nat) : ∀ k,k ≤ ws.length → (∀ j,k ≤ j → j < ws.length → ws.getD j 0 = 0) → ∃ m,m ≤ ws.length ∧ (∀ j,m ≤ j → j < ws.length → ws.getD j 0 = 0) ∧ (m = 0 ∨ ws.getD (m - 1) 0 ≠ 0)
 | 0,h,hz => ⟨0,h,hz,.inl rfl⟩
 | k + 1,h,hz => by
   by_cases hx : ws.getD k 0 = 0
   · refine Nt.trim_ex ws k (by omega) (fun j h1 h2 => ?_);rcases Nat.lt_or_ge k j with h3 | h3
     · exact hz j (by omega) h2
     · obtain rfl : j = k := by omega
       exact hx
   · exact ⟨k + 1,h,hz,.inr hx⟩
theorem Nt.take_dig {ws : List Nat} (hw : Nt.Wd ws) : (Nt.dig (Nt.val ws)).length ≤ ws.length ∧ ws.take (Nt.dig (Nt.val ws)).length = Nt.dig (Nt.val ws) := by
 obtain ⟨m,hm,hz,ht⟩ := Nt.trim_ex ws ws.length (Nat.le_refl _) (fun j h1 h2 => by omega);have h := Nt.dig_of hw hm hz ht;have hl : (Nt.dig (Nt.val ws)).length = m := by rw [← h,List.length_take]; omega
 rw [hl];exact ⟨hm,h⟩
theorem Nt.dig_small {n : Nat} (h : 0 < n) (h2 : n < 4294967296) : Nt.dig n = [n] := by
 rw [Nt.dig_pos h,show n / 4294967296 = 0 by omega,Nt.dig_zero,show n % 4294967296 = n by omega]
theorem Nt.dig_len_pos {n : Nat} : 0 < (Nt.dig n).length ↔ 0 < n := by
 rcases Nat.eq_zero_or_pos n with h | h
 · subst h; rw [Nt.dig_zero]; simp
 · rw [Nt.dig_pos h]; simp; omega
theorem Nt.dig_last (n : Nat) (h : 0 < n) : (Nt.dig n).getD ((Nt.dig n).length - 1) 0 ≠ 0 := by
 induction n using Nat.strongRecOn with
 | _ n ih =>
   rw [Nt.dig_pos h];rcases Nat.eq_zero_or_pos (n / 4294967296) with h0 | h0
   · rw [h0,Nt.dig_zero];simp;omega
   · have := ih (n / 4294967296) (by omega) h0;have hl := Nt.dig_len_pos.2 h0;have e : ((n % 4294967296) :: Nt.dig (n / 4294967296)).length - 1 = ((Nt.dig (n / 4294967296)).length - 1) + 1 := by simp; omega
     rw [e];simpa using this
theorem Nt.getD_ge (ws : List Nat) (k : Nat) (h : ws.length ≤ k) : ws.getD k 0 = 0 := by
 rw [List.getD_eq_getElem?_getD,List.getElem?_eq_none h]; rfl
theorem Nt.val_take_step (ws : List Nat) (k : Nat) : Nt.val (ws.take (k + 1)) = Nt.val (ws.take k) + 4294967296 ^ k * ws.getD k 0 := by
 rcases Nat.lt_or_ge k ws.length with h | h
 · exact Nt.val_take_succ ws k h
 · rw [Nt.getD_ge ws k h,List.take_of_length_le (by omega),List.take_of_length_le h,Nat.mul_zero,Nat.add_zero]
theorem Nt.val_set : ∀ (ws : List Nat) (k x : Nat),k < ws.length → Nt.val (ws.set k x) + 4294967296 ^ k * ws.getD k 0 = Nt.val ws + 4294967296 ^ k * x
 | [],k,x,h => by simp at h
 | w :: ws,0,x,h => by
   simp only [List.set_cons_zero,Nt.val,Nat.pow_zero,Nat.one_mul];simp;omega
 | w :: ws,k + 1,x,h => by
   have ih := Nt.val_set ws k x (by simpa using h);simp only [List.set_cons_succ,Nt.val];have e : (w :: ws).getD (k + 1) 0 = ws.getD k 0 := by simp
   rw [e,Nat.pow_succ,Nat.mul_comm (4294967296 ^ k) 4294967296,Nat.mul_assoc,Nat.mul_assoc];omega
theorem Nt.set_take (ws : List Nat) (i x k : Nat) (h : k ≤ i) : (ws.set i x).take k = ws.take k := by
 rw [List.take_set];exact List.set_eq_of_length_le (by rw [List.length_take]; omega)
theorem Nt.getD_set_self (ws : List Nat) (i x : Nat) (h : i < ws.length) : (ws.set i x).getD i 0 = x := by
 rw [List.getD_eq_getElem?_getD,List.getElem?_set_self h]; rfl
theorem Nt.getD_set_ne (ws : List Nat) (i j x : Nat) (h : i ≠ j) : (ws.set i x).getD j 0 = ws.getD j 0 := by
 rw [List.getD_eq_getElem?_getD,List.getElem?_set_ne h,← List.getD_eq_getElem?_getD]
theorem Nt.val_set_take (ws : List Nat) (i x : Nat) (h : i < ws.length) : Nt.val ((ws.set i x).take (i + 1)) = Nt.val (ws.take i) + 4294967296 ^ i * x := by
 rw [Nt.val_take_step,Nt.set_take ws i x i (Nat.le_refl _),Nt.getD_set_self ws i x h]
theorem Nt.Wd.set {ws : List Nat} (h : Nt.Wd ws) (i x : Nat) (hx : x < 4294967296) : Nt.Wd (ws.set i x) := fun y hy => by
 rcases List.mem_or_eq_of_mem_set hy with hy | hy
 · exact h y hy
 · rw [hy]; exact hx
theorem Nt.Wd.zeros (n : Nat) : Nt.Wd (List.replicate n 0) := fun x hx => by
 rw [(List.mem_replicate.1 hx).2]; decide
theorem Nt.zeros_getD (n k : Nat) : (List.replicate n 0).getD k 0 = 0 := by
 rw [List.getD_eq_getElem?_getD,List.getElem?_replicate];split <;> rfl
theorem Nt.val_replicate (n : Nat) : Nt.val (List.replicate n 0) = 0 := Nt.val_zeros _ (fun x hx => (List.mem_replicate.1 hx).2)
theorem Nt.val_drop_step (ws : List Nat) (i : Nat) (h : i < ws.length) : Nt.val (ws.drop i) = ws.getD i 0 + 4294967296 * Nt.val (ws.drop (i + 1)) := by
 rw [List.drop_eq_getElem_cons h,Nt.val,List.getD_eq_getElem?_getD,List.getElem?_eq_getElem h];rfl
theorem Nt.short_step {a ws : List Nat} {i r d : Nat} (h : Nt.val (a.drop (i + 1)) = d * Nt.val (ws.drop (i + 1)) + r) (hd : 0 < d) (hi : i < a.length) (hw : i < ws.length) :
 Nt.val (a.drop i) = d * Nt.val ((ws.set i ((4294967296 * r + a.getD i 0) / d)).drop i) + (4294967296 * r + a.getD i 0) % d := by
 have hl : i < (ws.set i ((4294967296 * r + a.getD i 0) / d)).length := by rw [List.length_set]; exact hw
 rw [Nt.val_drop_step a i hi,Nt.val_drop_step _ i hl,Nt.getD_set_self _ _ _ hw]
 have e1 : (ws.set i ((4294967296 * r + a.getD i 0) / d)).drop (i + 1) = ws.drop (i + 1) := by
  rw [List.drop_set];rw [if_pos (by omega)]
 rw [e1,h]
 have e := Nat.div_add_mod (4294967296 * r + a.getD i 0) d
 generalize a.getD i 0 = x at *
 generalize (4294967296 * r + x) / d = q at *
 generalize (4294967296 * r + x) % d = m at *
 generalize Nt.val (ws.drop (i + 1)) = V at *
 have e3 : d * (q + 4294967296 * V) = d * q + 4294967296 * (d * V) := by
  rw [Nat.mul_add,Nat.mul_left_comm]
 rw [e3,Nat.mul_add]
 omega
theorem Nt.short_lt {a r d : Nat} (ha : a < 4294967296) (hr : r < d) : (4294967296 * r + a) / d < 4294967296 := by
 rw [Nat.div_lt_iff_lt_mul (by omega)];have : 4294967296 * r + 4294967296 ≤ 4294967296 * d := by
  rw [show 4294967296 * r + 4294967296 = 4294967296 * (r + 1) by omega];exact Nat.mul_le_mul_left _ hr
 omega
theorem Nt.val_lt_of {a b : List Nat} (ha : Nt.Wd a) (hb : Nt.Wd b) (hl : a.length = b.length) {i : Nat} (hi : i < a.length) (hlt : a.getD i 0 < b.getD i 0) (hs : ∀ j,i < j → j < a.length → a.getD j 0 = b.getD j 0) : Nt.val a < Nt.val b := by
 have hd : a.drop (i + 1) = b.drop (i + 1) := by
  apply List.ext_getElem?;intro j;rw [List.getElem?_drop,List.getElem?_drop];rcases Nat.lt_or_ge (i + 1 + j) a.length with h | h
  · have := hs (i + 1 + j) (by omega) h;rw [List.getD_eq_getElem?_getD,List.getD_eq_getElem?_getD,List.getElem?_eq_getElem h,List.getElem?_eq_getElem (by omega)] at this;rw [List.getElem?_eq_getElem h,List.getElem?_eq_getElem (by omega)];simpa using this
  · rw [List.getElem?_eq_none h,List.getElem?_eq_none (by omega)]
 have ea : Nt.val a = Nt.val (a.take i) + 4294967296 ^ i * (a.getD i 0 + 4294967296 * Nt.val (a.drop (i + 1))) := by
  conv => lhs; rw [← List.take_append_drop i a]
  rw [Nt.val_append,List.length_take,Nat.min_eq_left (by omega),Nt.val_drop_step a i hi]
 have eb : Nt.val b = Nt.val (b.take i) + 4294967296 ^ i * (b.getD i 0 + 4294967296 * Nt.val (b.drop (i + 1))) := by
  conv => lhs; rw [← List.take_append_drop i b]
  rw [Nt.val_append,List.length_take,Nat.min_eq_left (by omega),Nt.val_drop_step b i (by omega)]
 rw [ea,eb,hd];have h1 := Nt.val_lt (a.take i) (ha.take i);rw [List.length_take,Nat.min_eq_left (by omega)] at h1;generalize a.getD i 0 = x at *;generalize b.getD i 0 = y at *;generalize Nt.val (b.drop (i + 1)) = V at *;generalize 4294967296 ^ i = P at *;have h2 : P * (x + 4294967296 * V) + P ≤ P * (y + 4294967296 * V) := by
  rw [← Nat.mul_succ];exact Nat.mul_le_mul_left _ (by omega)
 omega
theorem Nt.dig_len_lt {m n : Nat} (h : (Nt.dig m).length < (Nt.dig n).length) : m < n := by
 have h1 := Nt.val_lt _ (Nt.dig_wd m);rw [Nt.val_dig] at h1;have hn : 0 < n := Nt.dig_len_pos.1 (by omega);have hl := Nt.dig_last n hn;have h2 : 4294967296 ^ ((Nt.dig n).length - 1) ≤ n := by
  have e := Nt.val_dig n;have hlen : (Nt.dig n).length - 1 < (Nt.dig n).length := by omega
  have e2 : Nt.val (Nt.dig n) = Nt.val ((Nt.dig n).take ((Nt.dig n).length - 1)) + 4294967296 ^ ((Nt.dig n).length - 1) * (Nt.dig n).getD ((Nt.dig n).length - 1) 0 := by
   rw [← Nt.val_take_succ _ _ hlen,Nat.sub_add_cancel (by omega),List.take_length]
  rw [e] at e2;have h3 : 4294967296 ^ ((Nt.dig n).length - 1) * 1 ≤ 4294967296 ^ ((Nt.dig n).length - 1) * (Nt.dig n).getD ((Nt.dig n).length - 1) 0 := Nat.mul_le_mul_left _ (by omega);omega
 have h4 : 4294967296 ^ (Nt.dig m).length ≤ 4294967296 ^ ((Nt.dig n).length - 1) := Nat.pow_le_pow_right (by decide) (by omega);omega
theorem Nt.dig_inj {m n : Nat} (h : Nt.dig m = Nt.dig n) : m = n := by
 rw [← Nt.val_dig m,h,Nt.val_dig]
theorem Nt.dig_same {m n : Nat} (hl : (Nt.dig m).length = (Nt.dig n).length) (h : ∀ j,j < (Nt.dig m).length → (Nt.dig m).getD j 0 = (Nt.dig n).getD j 0) : m = n := by
 refine Nt.dig_inj (List.ext_getElem hl (fun j h1 h2 => ?_));have := h j h1;rw [List.getD_eq_getElem?_getD,List.getD_eq_getElem?_getD,List.getElem?_eq_getElem h1,List.getElem?_eq_getElem h2] at this;simpa using this
def Nt.cmp (m n : Nat) : Int := if m < n then -1 else if m = n then 0 else 1
theorem Nt.cmp_lt {m n : Nat} (h : m < n) : Nt.cmp m n = -1 := by simp [Nt.cmp,h]
theorem Nt.cmp_gt {m n : Nat} (h : n < m) : Nt.cmp m n = 1 := by simp [Nt.cmp]; omega
theorem Nt.cmp_eq (m : Nat) : Nt.cmp m m = 0 := by simp [Nt.cmp]
theorem Nt.cmp_neg {m n : Nat} : Nt.cmp m n < 0 ↔ m < n := by
 unfold Nt.cmp;split
 · simp; assumption
 · split <;> simp <;> omega
theorem Nt.gcd_step (a b : Nat) : Nat.gcd b (a % b) = Nat.gcd a b := by
 rw [Nat.gcd_comm a b,Nat.gcd_rec b a,Nat.gcd_comm]
end Go.Proofs.YteklhapffplohaaGreatDoor
namespace Go.Proofs.YteklhapffplohaaGreatDoor
open Go.RowKit
def Nt.In (w : World) (v : Value) (ws : List Nat) : Prop :=
 (v = .slice none 0 0 ∧ ws = []) ∨ (∃ a cap,v = .slice (some a) 0 cap ∧ ws = []) ∨
 (0 < ws.length ∧ ∃ b off cap,v = .slice (some ⟨b,off,none⟩) ws.length cap ∧ ws.length ≤ cap ∧ b < w.heap.size ∧ ∀ j,j < ws.length → w.cell? ⟨b,off + j,none⟩ = some (.int .u32 (ws.getD j 0 : Nat)))
def Nt.N (w : World) (v : Value) (n : Nat) : Prop := Nt.In w v (Nt.dig n)
theorem Nt.In.below {w w' : World} {v : Value} {ws : List Nat} {B : Nat} (h : Nt.In w v ws) (hb : Below B w w') (hB : w.heap.size ≤ B) : Nt.In w' v ws := by
 rcases h with h | h | ⟨h0,b,off,cap,hv,hc,hl,hcell⟩
 · exact .inl h
 · exact .inr (.inl h)
 · exact .inr (.inr ⟨h0,b,off,cap,hv,hc,by have := hb.size; omega,fun j hj => (hb.cell (p := ⟨b,off + j,none⟩) (by show b < B; omega)).trans (hcell j hj)⟩)
theorem Nt.N.below {w w' : World} {v : Value} {n : Nat} {B : Nat} (h : Nt.N w v n) (hb : Below B w w') (hB : w.heap.size ≤ B) : Nt.N w' v n := Nt.In.below h hb hB
theorem Nt.In.slice {w : World} {v : Value} {ws : List Nat} (h : Nt.In w v ws) : ∃ ad cap,v = .slice ad ws.length cap := by
 rcases h with ⟨rfl,rfl⟩ | ⟨a,cap,rfl,rfl⟩ | ⟨_,b,off,cap,rfl,_⟩
 · exact ⟨_,_,rfl⟩
 · exact ⟨_,_,rfl⟩
 · exact ⟨_,_,rfl⟩
theorem Nt.In.at {w : World} {ad : Option Addr} {n cap : Nat} {ws : List Nat} (h : Nt.In w (.slice ad n cap) ws) (h0 : 0 < ws.length) : ∃ b off,ad = some ⟨b,off,none⟩ ∧ n = ws.length ∧ ws.length ≤ cap ∧ b < w.heap.size ∧ ∀ j,j < ws.length → w.cell? ⟨b,off + j,none⟩ = some (.int .u32 (ws.getD j 0 : Nat)) := by
 rcases h with ⟨_,rfl⟩ | ⟨_,_,_,rfl⟩ | ⟨_,b,off,c,hv,hc,hl,hcell⟩
 · simp at h0
 · simp at h0
 · simp only [Value.slice.injEq] at hv;obtain ⟨rfl,rfl,rfl⟩ := hv;exact ⟨b,off,rfl,rfl,hc,hl,hcell⟩
theorem Nt.In.cap {w : World} {ad : Option Addr} {n cap : Nat} {ws : List Nat} (h : Nt.In w (.slice ad n cap) ws) : n = ws.length ∧ ws.length ≤ cap := by
 rcases h with ⟨hv,rfl⟩ | ⟨a,c,hv,rfl⟩ | ⟨_,b,off,c,hv,hc,_⟩
 · simp only [Value.slice.injEq] at hv; exact ⟨by simpa using hv.2.1,Nat.zero_le _⟩
 · simp only [Value.slice.injEq] at hv; exact ⟨by simpa using hv.2.1,Nat.zero_le _⟩
 · simp only [Value.slice.injEq] at hv; obtain ⟨_,rfl,rfl⟩ := hv; exact ⟨rfl,hc⟩
theorem Nt.In.nil (w : World) : Nt.In w (.slice none 0 0) [] := .inl ⟨rfl,rfl⟩
theorem Nt.N.zero (w : World) : Nt.N w (.slice none 0 0) 0 := by unfold Nt.N; rw [Nt.dig_zero]; exact Nt.In.nil w
theorem Nt.In.takeN {w : World} {ad : Option Addr} {cap : Nat} {ws : List Nat} (h : Nt.In w (.slice ad ws.length cap) ws) (n : Nat) (hn : n ≤ ws.length) : Nt.In w (.slice ad n cap) (ws.take n) := by
 rcases h with ⟨hv,rfl⟩ | ⟨a,c,hv,rfl⟩ | ⟨h0,b,off,c,hv,hc,hl,hcell⟩
 · obtain rfl : n = 0 := by simpa using hn
   simp only [Value.slice.injEq] at hv;obtain ⟨rfl,_,rfl⟩ := hv;exact .inl ⟨rfl,rfl⟩
 · obtain rfl : n = 0 := by simpa using hn
   simp only [Value.slice.injEq] at hv;obtain ⟨rfl,_,rfl⟩ := hv;exact .inr (.inl ⟨a,cap,rfl,rfl⟩)
 · simp only [Value.slice.injEq] at hv;obtain ⟨rfl,_,rfl⟩ := hv;rcases Nat.eq_zero_or_pos n with hz | hz
   · subst hz;exact .inr (.inl ⟨_,cap,rfl,by simp⟩)
   · have hlen : (ws.take n).length = n := by rw [List.length_take]; omega
     refine .inr (.inr ⟨by omega,b,off,cap,by rw [hlen],by omega,hl,fun j hj => ?_⟩);rw [hlen] at hj;rw [hcell j (by omega),List.getD_eq_getElem?_getD,List.getD_eq_getElem?_getD,List.getElem?_take,if_pos hj]
def Nt.row (ws : List Nat) : Array Value := (ws.map fun (x : Nat) => Value.int .u32 (x : Int)).toArray
theorem Nt.row_size (ws : List Nat) : (Nt.row ws).size = ws.length := by simp [Nt.row]
theorem Nt.row_at (ws : List Nat) (k : Nat) (hk : k < ws.length) : (Nt.row ws)[k]? = some (.int .u32 (ws.getD k 0 : Nat)) := by
 rw [List.getD_eq_getElem?_getD,List.getElem?_eq_getElem hk];simp [Nt.row,List.getElem?_eq_getElem hk]
theorem Nt.row_set (ws : List Nat) (k x : Nat) : (Nt.row ws).set! k (.int .u32 (x : Int)) = Nt.row (ws.set k x) := by
 simp [Nt.row,List.map_set]
theorem Nt.cell_row {w : World} {T : Nat} {t : TypeId} {ws : List Nat} (h : w.heap[T]? = some (.cells (Nt.row ws) t (0,0))) (k : Nat) (hk : k < ws.length) : w.cell? ⟨T,k,none⟩ = some (.int .u32 (ws.getD k 0 : Nat)) := by
 have e : w.cell? ⟨T,k,none⟩ = (Nt.row ws)[k]? := by simp [World.cell?,h]
 rw [e,Nt.row_at ws k hk]
theorem Nt.frozen_row {w : World} {T : Nat} {t : TypeId} {ws : List Nat} (h : w.heap[T]? = some (.cells (Nt.row ws) t (0,0))) (k : Nat) : w.frozen? ⟨T,k,none⟩ = false := by
 simp [World.frozen?,h]
theorem Nt.set_row {w : World} {T : Nat} {t : TypeId} {ws : List Nat} (h : w.heap[T]? = some (.cells (Nt.row ws) t (0,0))) (k x : Nat) : (w.setCell ⟨T,k,none⟩ (.int .u32 (x : Int))).heap[T]? = some (.cells (Nt.row (ws.set k x)) t (0,0)) := by
 obtain ⟨hlt,hk⟩ := Array.getElem?_eq_some_iff.1 h;rw [← Nt.row_set];show (w.heap.modify T _)[T]? = _;rw [Array.getElem?_eq_getElem (by rw [Array.size_modify]; exact hlt),Array.getElem_modify_self,hk];rfl
theorem Nt.In.of_row {w : World} {T : Nat} {t : TypeId} {ws : List Nat} (h : w.heap[T]? = some (.cells (Nt.row ws) t (0,0))) : Nt.In w (.slice (some ⟨T,0,none⟩) ws.length ws.length) ws := by
 rcases Nat.eq_zero_or_pos ws.length with h0 | h0
 · have : ws = [] := List.eq_nil_of_length_eq_zero h0;subst this;exact .inr (.inl ⟨_,0,rfl,rfl⟩)
 · refine .inr (.inr ⟨h0,T,0,ws.length,rfl,Nat.le_refl _,(Array.getElem?_eq_some_iff.1 h).1,fun j hj => ?_⟩);rw [Nat.zero_add];exact Nt.cell_row h j hj
theorem Nt.made_zeros (n : Nat) : madeCells (Value.int .u32 0).cells n = Nt.row (List.replicate n 0) := by
 apply Array.ext
 · simp [madeCells,Nt.row]
 · intro i h1 h2;simp [madeCells,Value.cells,Nt.row,Nat.mod_one]
end Go.Proofs.YteklhapffplohaaGreatDoor
namespace Go.Proofs.YteklhapffplohaaGreatDoor.Sl
open Go.RowKit
theorem addr_add (b off j : Nat) : (⟨b,off,none⟩ : Addr).add j = ⟨b,off + j,none⟩ := by
 unfold Addr.add;split <;> simp_all
theorem own_below {w w' : World} {B B2 : Nat} {t : TypeId} {v : Value} {n : Nat} {xs : List Value} (h : w.ownsRow B t 1 v n xs) (hb : Below B2 w w') (hB : w.heap.size ≤ B2) : w'.ownsRow B t 1 v n xs := by
 refine ⟨h.1,?_⟩;rcases h.2 with hv | ⟨g,cap,cur,hv,hB',hg,rest⟩
 · exact .inl hv
 · have hlt := (Array.getElem?_eq_some_iff.1 hg).1;exact .inr ⟨g,cap,cur,hv,hB',by rw [hb.block g (by omega)]; exact hg,rest⟩
theorem own_empty (w : World) (t : TypeId) : (w.alloc (.cells #[] t)).ownsRow w.heap.size t 1 (.slice (some ⟨w.heap.size,0,none⟩) 0 0) 0 [] :=
 ⟨by simp,.inr ⟨w.heap.size,0,#[],rfl,Nat.le_refl _,heap_alloc_new w _,Nat.le_refl _,Nat.zero_le _,by simp,by simp⟩⟩
theorem ub (n : Nat) (z : Int) (h : z.toNat = n) : UInt8.ofNat n = z.toNat.toUInt8 := by subst h; rfl
theorem encode_ok (n : Nat) (h : Ru.okR (n : Int)) : Utf8.encode (n : Int) = ⟨(Lib.encodeRune (n : Int)).toArray⟩ := by
 have hv : Utf8.valid (n : Int) = true := by
  unfold Ru.okR at h;unfold Utf8.valid;simp only [Bool.or_eq_true,Bool.and_eq_true,decide_eq_true_eq];omega
 unfold Utf8.encode Lib.encodeRune;unfold Ru.okR at h;simp only [hv,if_true,Int.toNat_natCast];by_cases c1 : n < 128
 · rw [if_pos c1,Lib.encodeRuneZ_one (by omega) (by omega),ub n (n : Int) (by omega)];rfl
 rw [if_neg c1];by_cases c2 : n < 2048
 · rw [if_pos c2,Lib.encodeRuneZ_two (by omega) (by omega),ub _ (192 + (n : Int) / 64) (by omega),ub _ (128 + (n : Int) % 64) (by omega)];rfl
 rw [if_neg c2];by_cases c3 : n < 65536
 · rw [if_pos c3,Lib.encodeRuneZ_three (by omega),ub _ (224 + (n : Int) / 4096) (by omega),ub _ (128 + (n : Int) / 64 % 64) (by omega),ub _ (128 + (n : Int) % 64) (by omega)];rfl
 rw [if_neg c3,Lib.encodeRuneZ_four (by omega) (by omega),ub _ (240 + (n : Int) / 262144) (by omega),ub _ (128 + (n : Int) / 4096 % 64) (by omega),ub _ (128 + (n : Int) / 64 % 64) (by omega),ub _ (128 + (n : Int) % 64) (by omega)];rfl
theorem encode_no (r : Int) (h : ¬ Ru.okR r) : Utf8.encode r = Utf8.encode 65533 := by
 have hv : Utf8.valid r = false := by
  unfold Ru.okR at h;unfold Utf8.valid;rw [Bool.eq_false_iff];simp only [ne_eq,Bool.or_eq_true,Bool.and_eq_true,decide_eq_true_eq];omega
 unfold Utf8.encode;rw [hv];rfl
theorem encode_eq (r : Int) : Utf8.encode r = ⟨(Lib.encodeRune r).toArray⟩ := by
 by_cases h : Ru.okR r
 · obtain ⟨n,rfl⟩ := Int.eq_ofNat_of_zero_le (a := r) (by unfold Ru.okR at h; omega);exact encode_ok n h
 · rw [encode_no r h,Ru.encode_bad h];exact encode_ok 65533 (by unfold Ru.okR; omega)
end Go.Proofs.YteklhapffplohaaGreatDoor.Sl
namespace Go.Proofs.YteklhapffplohaaGreatDoor
open Go.RowKit
def Cd.byt (s : ByteArray) (i : Nat) : Int := (s.get! i).toNat
abbrev Cd.U := Int × Bool × Int
def Cd.pair (r q : Int) : Prop := 55296 ≤ r ∧ r ≤ 56319 ∧ 56320 ≤ q ∧ q ≤ 57343
instance (r q : Int) : Decidable (Cd.pair r q) := by unfold Cd.pair; infer_instance
def Cd.utf8U (s : ByteArray) (at_ : Nat) : List Cd.U :=
 if _h : at_ < s.size then (((Utf8.decode s at_).1 : Int),decide ((Utf8.decode s at_).1 ≠ 65533 ∨ 1 < (Utf8.decode s at_).2),(at_ : Int)) :: Cd.utf8U s (at_ + (Utf8.decode s at_).2) else []
termination_by s.size - at_
decreasing_by
 have := Lib.decode_width_pos s at_ _h
 omega
theorem Cd.utf8U_one (s : ByteArray) (at_ : Nat) (h : at_ < s.size) :
 Cd.utf8U s at_ = (((Utf8.decode s at_).1 : Int),decide ((Utf8.decode s at_).1 ≠ 65533 ∨ 1 < (Utf8.decode s at_).2),(at_ : Int)) :: Cd.utf8U s (at_ + (Utf8.decode s at_).2) := by
 rw [Cd.utf8U,dif_pos h]
theorem Cd.utf8U_end (s : ByteArray) (at_ : Nat) (h : ¬ at_ < s.size) : Cd.utf8U s at_ = [] := by
 rw [Cd.utf8U,dif_neg h]
end Go.Proofs.YteklhapffplohaaGreatDoor
namespace Go.Proofs.YteklhapffplohaaGreatDoor.By
open Go.RowKit
def vals (s : ByteArray) : List Value := (List.range s.size).map fun j => Value.int .u8 (Cd.byt s j)
theorem vals_len (s : ByteArray) : (vals s).length = s.size := by simp [vals]
theorem vals_at (s : ByteArray) (j : Nat) (h : j < s.size) : (vals s)[j]? = some (.int .u8 (Cd.byt s j)) := by simp [vals,h]
def In (w : World) (v : Value) (s : ByteArray) : Prop :=
 (v = .slice none 0 0 ∧ s.size = 0) ∨ (∃ a cap,v = .slice (some a) 0 cap ∧ s.size = 0) ∨
 (0 < s.size ∧ ∃ b off cap,v = .slice (some ⟨b,off,none⟩) s.size cap ∧ s.size ≤ cap ∧ b < w.heap.size ∧ ∀ j,j < s.size → w.cell? ⟨b,off + j,none⟩ = some (.int .u8 (Cd.byt s j)))
theorem In.slice {w : World} {v : Value} {s : ByteArray} (h : In w v s) : ∃ ad cap,v = .slice ad s.size cap := by
 rcases h with ⟨h,h0⟩ | ⟨a,cap,h,h0⟩ | ⟨h0,b,off,cap,hv,_⟩
 · exact ⟨none,0,by rw [h,h0]⟩
 · exact ⟨some a,cap,by rw [h,h0]⟩
 · exact ⟨_,cap,hv⟩
theorem In.of_own {w : World} {B : Nat} {t : TypeId} {v : Value} {s : ByteArray} (h : w.ownsRow B t 1 v s.size (vals s)) : In w v s := by
 rcases h.2 with ⟨hv,h0⟩ | ⟨g,cap,cur,hv,hB,hg,hn,hm,hs,ht⟩
 · exact .inl ⟨hv,h0⟩
 · rcases Nat.eq_zero_or_pos s.size with h0 | h0
   · exact .inr (.inl ⟨_,cap,by rw [hv,h0],h0⟩)
   · refine .inr (.inr ⟨h0,g,0,cap,hv,hn,(Array.getElem?_eq_some_iff.1 hg).1,fun i hi => ?_⟩);have := h.cells (g := g) (by rw [hv]; rfl) i _ (vals_at s i hi);rw [← this,Sl.addr_add]
section
variable {P : Program} {w : World} {ops : Array Oper} {rest : List Oper} {o : Oper} {a : Act} {Q : Exit → Act → World → Prop}
end
def ofNums (zs : List Int) : ByteArray := ⟨(zs.map fun z => z.toNat.toUInt8).toArray⟩
theorem ofNums_size (zs : List Int) : (ofNums zs).size = zs.length := by
 show (List.toArray _).size = _;simp
theorem ofNums_byt (zs : List Int) (hz : ∀ n ∈ zs,(Lit.int .u8 n).wf = true) (j : Nat) (h : j < zs.length) : Cd.byt (ofNums zs) j = zs.getD j 0 := by
 have hb := bounds_u8 (hz _ (List.getElem_mem h));have e : (ofNums zs).get! j = (zs[j]).toNat.toUInt8 := by
  show (ofNums zs).data[j]! = _;unfold ofNums;simp [h]
 unfold Cd.byt;rw [e,List.getD_eq_getElem?_getD,List.getElem?_eq_getElem h];have : ((zs[j]).toNat.toUInt8).toNat = (zs[j]).toNat := by
  rw [Nat.toUInt8,UInt8.toNat_ofNat'];omega
 rw [this];simp;omega
theorem In.open {H : Type} {enc : TypeId × Value → H} {P : Program} {w : World} {base : Nat} {spare : Nat → Bool} {held : Bool} {t e : TypeId} {v : Value} {d : DataW H} {ps : List MemPlace} (ht : P.underlying t = some (.slice e)) (he : P.underlying e = some (.int .u8)) (hc : P.cellsOf e = 1)
 (hv : ∃ a len cap,v = .slice a len cap) (hj : DataW.Trod enc P w base spare held t v d ps) :
 ∃ s : ByteArray,In w v s ∧ ((d = .nil ∧ s.size = 0) ∨ ∃ elems spare,d = .slice elems spare ∧ elems.length = s.size) := by
 obtain ⟨a0,len,cap,rfl⟩ := hv
 obtain ⟨fuel,hf⟩ := hj
 rcases Go.ChangeShapes.open_ints ht he hc hf with ⟨hcs,hx⟩ | ⟨a,len',cap',zs,hcs,_,hl,hm,hz,hx,hcell,hwz⟩
 · simp only [Value.cells,List.cons.injEq,Value.slice.injEq,and_true] at hcs;simp only [Prod.mk.injEq] at hx;refine ⟨⟨#[]⟩,.inl ⟨?_,rfl⟩,.inl ⟨hx.1,rfl⟩⟩;simp_all
 · simp only [Prod.mk.injEq] at hx;have hlz : len' ≤ zs.length := by rw [hz]; split <;> omega
   have hsz : (ofNums (zs.take len')).size = len' := by rw [ofNums_size,List.length_take]; omega
   have hva : (Value.slice a0 len cap) = .slice (some a) len' cap' := by simpa [Value.cells] using hcs
   refine ⟨ofNums (zs.take len'),?_,.inr ⟨_,_,hx.1,by simp [Go.ChangeShapes.lits,hsz]; omega⟩⟩;rcases Nat.eq_zero_or_pos len' with h0 | h0
   · exact .inr (.inl ⟨a,cap',by rw [hva,h0],by rw [hsz,h0]⟩)
   · obtain ⟨b,off,rfl,hcl⟩ := ints_at hcell (by omega);refine .inr (.inr ⟨by omega,b,off,cap',by rw [hva,hsz],by omega,?_,fun j hj => ?_⟩)
     · have h1 := hcl 0 (by omega);rcases Nat.lt_or_ge b w.heap.size with h | h
       · exact h
       · simp [World.cell?,Array.getElem?_eq_none h] at h1
     · rw [hsz] at hj;rw [hcl j (by omega),ofNums_byt _ (fun n hn => hwz n (List.mem_of_mem_take hn)) j (by rw [List.length_take]; omega)];congr 2;rw [List.getD_eq_getElem?_getD,List.getD_eq_getElem?_getD,List.getElem?_take,if_pos hj]
def bv (l : List UInt8) : List Value := l.map fun b => Value.int .u8 b.toNat
theorem bv_append (a b : List UInt8) : bv (a ++ b) = bv a ++ bv b := by simp [bv]
theorem bv_len (l : List UInt8) : (bv l).length = l.length := by simp [bv]
theorem vals_bv (l : List UInt8) : vals ⟨l.toArray⟩ = bv l := by
 have hz : (ByteArray.mk l.toArray).size = l.length := by show l.toArray.size = _; simp
 apply List.ext_getElem?;intro j;rcases Nat.lt_or_ge j l.length with h | h
 · rw [vals_at _ j (by rw [hz]; exact h)];have : (ByteArray.mk l.toArray).get! j = l[j] := by
    show l.toArray[j]! = _;simp [h]
   unfold Cd.byt;rw [this];simp [bv,h]
 · rw [List.getElem?_eq_none (by rw [vals_len,hz]; exact h),List.getElem?_eq_none (by rw [bv_len]; exact h)]
theorem In.of_bv {w : World} {B : Nat} {t : TypeId} {v : Value} {l : List UInt8} (h : w.ownsRow B t 1 v l.length (bv l)) : In w v ⟨l.toArray⟩ := by
 have hz : (ByteArray.mk l.toArray).size = l.length := by show l.toArray.size = _; simp
 refine In.of_own (B := B) (t := t) ?_;rw [hz,vals_bv];exact h
section
variable {P : Program} {w : World} {ops : Array Oper} {rest : List Oper} {o : Oper} {a : Act} {Q : Exit → Act → World → Prop}
end
end Go.Proofs.YteklhapffplohaaGreatDoor.By
namespace Go.Proofs.YteklhapffplohaaGreatDoor
open Go.RowKit
structure Tr.Hd where
 k : Int
 n : Int
 s1 : Bool
 t1 : List Nat
 b1 : List Nat
 s2 : Bool
 t2 : List Nat
 b2 : List Nat
 x : ByteArray
 raw : ByteArray
inductive Tr where
 | mk (h : Tr.Hd) (l : List Tr)
def Tr.hd : Tr → Tr.Hd | .mk h _ => h
def Tr.li : Tr → List Tr | .mk _ l => l
structure Tr.Hd.Ok (h : Tr.Hd) : Prop where
 k0 : -9223372036854775808 ≤ h.k
 k1 : h.k ≤ 9223372036854775807
 n0 : -9223372036854775808 ≤ h.n
 n1 : h.n ≤ 9223372036854775807
 w1 : Nt.Wd h.t1
 w2 : Nt.Wd h.b1
 w3 : Nt.Wd h.t2
 w4 : Nt.Wd h.b2
 l1 : h.t1.length ≤ 4611686018427387904
 l2 : h.b1.length ≤ 4611686018427387904
 l3 : h.t2.length ≤ 4611686018427387904
 l4 : h.b2.length ≤ 4611686018427387904
 x1 : h.x.size ≤ maxLen
 r1 : h.raw.size ≤ 140737488355328
def Tr.cells (h : Tr.Hd) (v3 v4 v6 v7 v9 v10 : Value) : Array Value := #[.int .i64 h.k,.int .i64 h.n,.bool h.s1,v3,v4,.bool h.s2,v6,v7,.string h.x,v9,v10]
def Tr.On (S : Nat → Prop) (v : Value) (n : Nat) : Prop := 0 < n → ∀ b off l cap,v = .slice (some ⟨b,off,none⟩) l cap → S b
structure Tr.Hd.In (w : World) (S : Nat → Prop) (h : Tr.Hd) (v3 v4 v6 v7 v9 : Value) : Prop where
 ok : h.Ok
 i3 : Nt.In w v3 h.t1
 i4 : Nt.In w v4 h.b1
 i6 : Nt.In w v6 h.t2
 i7 : Nt.In w v7 h.b2
 i9 : By.In w v9 h.raw
 o3 : Tr.On S v3 h.t1.length
 o4 : Tr.On S v4 h.b1.length
 o6 : Tr.On S v6 h.t2.length
 o7 : Tr.On S v7 h.b2.length
 o9 : Tr.On S v9 h.raw.size
def Tr.Mem (w : World) (b off : Nat) (C : Array Value) : Prop := ∀ j,j < 11 → ∃ u,C[j]? = some u ∧ w.cell? ⟨b,off + j,none⟩ = some u
def Tr.Sl (w : World) (S : Nat → Prop) (v : Value) (n : Nat) (P : Nat → Nat → Prop) : Prop :=
 (v = .slice none 0 0 ∧ n = 0) ∨ (∃ a cap,v = .slice (some a) 0 cap ∧ n = 0) ∨
 (0 < n ∧ ∃ b off cap,v = .slice (some ⟨b,off,none⟩) n cap ∧ n ≤ cap ∧ cap ≤ 9223372036854775807 ∧ b < w.heap.size ∧ S b ∧ P b off)
mutual
def Tr.In (w : World) (S : Nat → Prop) : Tr → Value → Prop
 | .mk h l,v => ∃ v3 v4 v6 v7 v9 v10,v = .agg (Tr.cells h v3 v4 v6 v7 v9 v10) ∧ Tr.Hd.In w S h v3 v4 v6 v7 v9 ∧ Tr.Sl w S v10 l.length (fun b off => Tr.All w S l b off)
def Tr.All (w : World) (S : Nat → Prop) : List Tr → Nat → Nat → Prop
 | [],_,_ => True
 | t :: ts,b,off => (∃ C,Tr.In w S t (.agg C) ∧ Tr.Mem w b off C) ∧ Tr.All w S ts b (off + 11)
end
theorem Tr.In_mk {w : World} {S : Nat → Prop} {h : Tr.Hd} {l : List Tr} {v : Value} : Tr.In w S (.mk h l) v ↔ ∃ v3 v4 v6 v7 v9 v10,v = .agg (Tr.cells h v3 v4 v6 v7 v9 v10) ∧ Tr.Hd.In w S h v3 v4 v6 v7 v9 ∧ Tr.Sl w S v10 l.length (fun b off => Tr.All w S l b off) := by rw [Tr.In]
theorem Tr.All_nil {w : World} {S : Nat → Prop} {b off : Nat} : Tr.All w S [] b off := by rw [Tr.All]; trivial
theorem Tr.All_cons {w : World} {S : Nat → Prop} {t : Tr} {ts : List Tr} {b off : Nat} : Tr.All w S (t :: ts) b off ↔ (∃ C,Tr.In w S t (.agg C) ∧ Tr.Mem w b off C) ∧ Tr.All w S ts b (off + 11) := by rw [Tr.All]
def Tr.LIn (w : World) (S : Nat → Prop) (l : List Tr) (v : Value) : Prop := Tr.Sl w S v l.length (fun b off => Tr.All w S l b off)
structure Tr.Kept (S : Nat → Prop) (w w' : World) : Prop where
 size : w.heap.size ≤ w'.heap.size
 block : ∀ q,S q → q < w.heap.size → w'.heap[q]? = w.heap[q]?
theorem Tr.Kept.below {S : Nat → Prop} {w w' : World} {B : Nat} (hb : Below B w w') (hB : ∀ q,S q → q < w.heap.size → q < B) : Tr.Kept S w w' := ⟨hb.size,fun q hq hl => hb.block q (hB q hq hl)⟩
theorem Tr.Kept.all {S : Nat → Prop} {w w' : World} {B : Nat} (hb : Below B w w') (hB : w.heap.size ≤ B) : Tr.Kept S w w' := Tr.Kept.below hb (fun q _ hl => Nat.lt_of_lt_of_le hl hB)
theorem Tr.Kept.cell {S : Nat → Prop} {w w' : World} (h : Tr.Kept S w w') {b off : Nat} (hS : S b) (hl : b < w.heap.size) : w'.cell? ⟨b,off,none⟩ = w.cell? ⟨b,off,none⟩ := World.cell?_of_block (w := w) (h.block b hS hl)
theorem Tr.Mem.kept {w w' : World} {S : Nat → Prop} {b off : Nat} {C : Array Value} (h : Tr.Mem w b off C) (hk : Tr.Kept S w w') (hS : S b) (hl : b < w.heap.size) : Tr.Mem w' b off C := fun j hj => by
 obtain ⟨u,h1,h2⟩ := h j hj;exact ⟨u,h1,(hk.cell hS hl).trans h2⟩
theorem Nt.In.kept {w w' : World} {S : Nat → Prop} {v : Value} {ws : List Nat} (h : Nt.In w v ws) (ho : Tr.On S v ws.length) (hk : Tr.Kept S w w') : Nt.In w' v ws := by
 rcases h with h | h | ⟨h0,b,off,cap,hv,hc,hl,hcell⟩
 · exact .inl h
 · exact .inr (.inl h)
 · exact .inr (.inr ⟨h0,b,off,cap,hv,hc,Nat.lt_of_lt_of_le hl hk.size,fun j hj => (hk.cell (ho h0 _ _ _ _ hv) hl).trans (hcell j hj)⟩)
theorem By.In.kept {w w' : World} {S : Nat → Prop} {v : Value} {s : ByteArray} (h : By.In w v s) (ho : Tr.On S v s.size) (hk : Tr.Kept S w w') : By.In w' v s := by
 rcases h with h | h | ⟨h0,b,off,cap,hv,hc,hl,hcell⟩
 · exact .inl h
 · exact .inr (.inl h)
 · exact .inr (.inr ⟨h0,b,off,cap,hv,hc,Nat.lt_of_lt_of_le hl hk.size,fun j hj => (hk.cell (ho h0 _ _ _ _ hv) hl).trans (hcell j hj)⟩)
theorem Tr.Sl.slice {w : World} {S : Nat → Prop} {v : Value} {n : Nat} {P : Nat → Nat → Prop} (h : Tr.Sl w S v n P) : ∃ ad cap,v = .slice ad n cap ∧ n ≤ cap ∧ (n = 0 ∨ cap ≤ 9223372036854775807) := by
 rcases h with ⟨rfl,rfl⟩ | ⟨a,cap,rfl,rfl⟩ | ⟨h0,b,off,cap,rfl,h1,h2,_⟩
 · exact ⟨_,_,rfl,Nat.le_refl _,.inl rfl⟩
 · exact ⟨_,_,rfl,Nat.zero_le _,.inl rfl⟩
 · exact ⟨_,_,rfl,h1,.inr h2⟩
theorem Tr.Sl.at {w : World} {S : Nat → Prop} {ad : Option Addr} {n m cap : Nat} {P : Nat → Nat → Prop} (h : Tr.Sl w S (.slice ad n cap) m P) (h0 : 0 < m) : ∃ b off,ad = some ⟨b,off,none⟩ ∧ n = m ∧ m ≤ cap ∧ cap ≤ 9223372036854775807 ∧ b < w.heap.size ∧ S b ∧ P b off := by
 rcases h with ⟨_,rfl⟩ | ⟨_,_,_,rfl⟩ | ⟨_,b,off,c,hv,h1,h2,h3,h4,h5⟩
 · omega
 · omega
 · simp only [Value.slice.injEq] at hv;obtain ⟨rfl,rfl,rfl⟩ := hv;exact ⟨b,off,rfl,rfl,h1,h2,h3,h4,h5⟩
theorem Tr.Sl.imp {w w' : World} {S S' : Nat → Prop} {v : Value} {n : Nat} {P P' : Nat → Nat → Prop} (h : Tr.Sl w S v n P) (hz : w.heap.size ≤ w'.heap.size) (hS : ∀ q,S q → S' q) (hP : ∀ b off,b < w.heap.size → S b → P b off → P' b off) : Tr.Sl w' S' v n P' := by
 rcases h with h | h | ⟨h0,b,off,cap,hv,h1,h2,h3,h4,h5⟩
 · exact .inl h
 · exact .inr (.inl h)
 · exact .inr (.inr ⟨h0,b,off,cap,hv,h1,h2,by omega,hS b h4,hP b off h3 h4 h5⟩)
theorem Tr.Hd.In.kept {w w' : World} {S : Nat → Prop} {h : Tr.Hd} {v3 v4 v6 v7 v9 : Value} (i : Tr.Hd.In w S h v3 v4 v6 v7 v9) (hk : Tr.Kept S w w') : Tr.Hd.In w' S h v3 v4 v6 v7 v9 :=
 ⟨i.ok,i.i3.kept i.o3 hk,i.i4.kept i.o4 hk,i.i6.kept i.o6 hk,i.i7.kept i.o7 hk,i.i9.kept i.o9 hk,i.o3,i.o4,i.o6,i.o7,i.o9⟩
theorem Tr.On.mono {S S' : Nat → Prop} {v : Value} {n : Nat} (h : Tr.On S v n) (k : ∀ q,S q → S' q) : Tr.On S' v n := fun h0 b off l cap e => k _ (h h0 b off l cap e)
theorem Tr.Hd.In.mono {w : World} {S S' : Nat → Prop} {h : Tr.Hd} {v3 v4 v6 v7 v9 : Value} (i : Tr.Hd.In w S h v3 v4 v6 v7 v9) (k : ∀ q,S q → S' q) : Tr.Hd.In w S' h v3 v4 v6 v7 v9 :=
 ⟨i.ok,i.i3,i.i4,i.i6,i.i7,i.i9,i.o3.mono k,i.o4.mono k,i.o6.mono k,i.o7.mono k,i.o9.mono k⟩
mutual
theorem Tr.In.kept {w w' : World} {S : Nat → Prop} (hk : Tr.Kept S w w') : ∀ (t : Tr) (v : Value),Tr.In w S t v → Tr.In w' S t v
 | .mk h l,v,hi => by
   rw [Tr.In_mk] at hi ⊢;obtain ⟨v3,v4,v6,v7,v9,v10,e,h1,h2⟩ := hi;exact ⟨v3,v4,v6,v7,v9,v10,e,h1.kept hk,h2.imp hk.size (fun _ h => h) (fun b off h3 h4 h5 => Tr.All.kept hk l b off h4 h3 h5)⟩
theorem Tr.All.kept {w w' : World} {S : Nat → Prop} (hk : Tr.Kept S w w') : ∀ (l : List Tr) (b off : Nat),S b → b < w.heap.size → Tr.All w S l b off → Tr.All w' S l b off
 | [],b,off,_,_,_ => Tr.All_nil
 | t :: ts,b,off,hS,hlt,h => by
   rw [Tr.All_cons] at h ⊢;obtain ⟨⟨C,h1,h2⟩,h3⟩ := h;exact ⟨⟨C,Tr.In.kept hk t _ h1,h2.kept hk hS hlt⟩,Tr.All.kept hk ts b (off + 11) hS hlt h3⟩
end
mutual
theorem Tr.In.mono {w : World} {S S' : Nat → Prop} (hk : ∀ q,S q → S' q) : ∀ (t : Tr) (v : Value),Tr.In w S t v → Tr.In w S' t v
 | .mk h l,v,hi => by
   rw [Tr.In_mk] at hi ⊢;obtain ⟨v3,v4,v6,v7,v9,v10,e,h1,h2⟩ := hi;exact ⟨v3,v4,v6,v7,v9,v10,e,h1.mono hk,h2.imp (Nat.le_refl _) hk (fun b off h3 h4 h5 => Tr.All.mono hk l b off h5)⟩
theorem Tr.All.mono {w : World} {S S' : Nat → Prop} (hk : ∀ q,S q → S' q) : ∀ (l : List Tr) (b off : Nat),Tr.All w S l b off → Tr.All w S' l b off
 | [],b,off,_ => Tr.All_nil
 | t :: ts,b,off,h => by
   rw [Tr.All_cons] at h ⊢;obtain ⟨⟨C,h1,h2⟩,h3⟩ := h;exact ⟨⟨C,Tr.In.mono hk t _ h1,h2⟩,Tr.All.mono hk ts b (off + 11) h3⟩
end
theorem Tr.In.below {w w' : World} {S : Nat → Prop} {B : Nat} {t : Tr} {v : Value} (h : Tr.In w S t v) (hb : Below B w w') (hB : w.heap.size ≤ B) : Tr.In w' S t v := Tr.In.kept (Tr.Kept.all hb hB) t v h
theorem Tr.LIn.kept {w w' : World} {S : Nat → Prop} {l : List Tr} {v : Value} (h : Tr.LIn w S l v) (hk : Tr.Kept S w w') : Tr.LIn w' S l v :=
 h.imp hk.size (fun _ h => h) (fun b off h3 h4 h5 => Tr.All.kept hk l b off h4 h3 h5)
theorem Tr.LIn.mono {w : World} {S S' : Nat → Prop} {l : List Tr} {v : Value} (h : Tr.LIn w S l v) (hk : ∀ q,S q → S' q) : Tr.LIn w S' l v :=
 h.imp (Nat.le_refl _) hk (fun b off h3 h4 h5 => Tr.All.mono hk l b off h5)
theorem Tr.All.at {w : World} {S : Nat → Prop} : ∀ (l : List Tr) (b off : Nat),Tr.All w S l b off → ∀ (k : Nat) (t : Tr),l[k]? = some t → ∃ C,Tr.In w S t (.agg C) ∧ Tr.Mem w b (off + 11 * k) C
 | [],b,off,_,k,t,hk => by simp at hk
 | x :: ts,b,off,h,0,t,hk => by
   obtain rfl : x = t := by simpa using hk
   rw [Tr.All_cons] at h;exact h.1
 | x :: ts,b,off,h,k + 1,t,hk => by
   rw [Tr.All_cons] at h;have := Tr.All.at ts b (off + 11) h.2 k t (by simpa using hk);rwa [show off + 11 + 11 * k = off + 11 * (k + 1) by omega] at this
theorem Tr.All.of {w : World} {S : Nat → Prop} : ∀ (l : List Tr) (b off : Nat),(∀ (k : Nat) (t : Tr),l[k]? = some t → ∃ C,Tr.In w S t (.agg C) ∧ Tr.Mem w b (off + 11 * k) C) → Tr.All w S l b off
 | [],b,off,_ => Tr.All_nil
 | x :: ts,b,off,h => by
   rw [Tr.All_cons];refine ⟨by simpa using h 0 x rfl,Tr.All.of ts b (off + 11) (fun k t hk => ?_)⟩;rw [show off + 11 + 11 * k = off + 11 * (k + 1) by omega];exact h (k + 1) t (by simpa using hk)
theorem Tr.In.form {w : World} {S : Nat → Prop} {t : Tr} {C : Array Value} (h : Tr.In w S t (.agg C)) : ∃ (hd : Tr.Hd) (l : List Tr) (v3 v4 v6 v7 v9 v10 : Value),C = Tr.cells hd v3 v4 v6 v7 v9 v10 := by
 obtain ⟨hd,l⟩ := t;rw [Tr.In_mk] at h;obtain ⟨v3,v4,v6,v7,v9,v10,e,_⟩ := h;exact ⟨hd,l,v3,v4,v6,v7,v9,v10,by injection e⟩
theorem Tr.Mem.cells {w : World} {b off : Nat} {u0 u1 u2 u3 u4 u5 u6 u7 u8 u9 u10 : Value} (h : Tr.Mem w b off #[u0,u1,u2,u3,u4,u5,u6,u7,u8,u9,u10]) :
 w.cell? ⟨b,off,none⟩ = some u0 ∧ w.cell? ⟨b,off + 1,none⟩ = some u1 ∧ w.cell? ⟨b,off + 2,none⟩ = some u2 ∧ w.cell? ⟨b,off + 3,none⟩ = some u3 ∧ w.cell? ⟨b,off + 4,none⟩ = some u4 ∧ w.cell? ⟨b,off + 5,none⟩ = some u5 ∧ w.cell? ⟨b,off + 6,none⟩ = some u6 ∧ w.cell? ⟨b,off + 7,none⟩ = some u7 ∧ w.cell? ⟨b,off + 8,none⟩ = some u8 ∧ w.cell? ⟨b,off + 9,none⟩ = some u9 ∧ w.cell? ⟨b,off + 10,none⟩ = some u10 := by
 have g : ∀ j u,j < 11 → (#[u0,u1,u2,u3,u4,u5,u6,u7,u8,u9,u10] : Array Value)[j]? = some u → w.cell? ⟨b,off + j,none⟩ = some u := fun j u hj hu => by
  obtain ⟨x,h1,h2⟩ := h j hj;rw [hu] at h1;cases h1;exact h2
 exact ⟨g 0 _ (by decide) rfl,g 1 _ (by decide) rfl,g 2 _ (by decide) rfl,g 3 _ (by decide) rfl,g 4 _ (by decide) rfl,g 5 _ (by decide) rfl,g 6 _ (by decide) rfl,g 7 _ (by decide) rfl,g 8 _ (by decide) rfl,g 9 _ (by decide) rfl,g 10 _ (by decide) rfl⟩
theorem Nt.infoWord : (Tryz.prog.info? 57).map (fun i => (i.zero,i.size,i.bytes)) = some (some (.int .u32 0),1,4) := by kernel_rfl
theorem Nt.In.of_own {w : World} {B : Nat} {t : TypeId} {v : Value} {ws : List Nat} (h : w.ownsRow B t 1 v ws.length (ws.map fun (x : Nat) => Value.int .u32 (x : Int))) : Nt.In w v ws := by
 rcases h.2 with ⟨hv,h0⟩ | ⟨g,cap,cur,rfl,hB,hg,hn,_⟩
 · have : ws = [] := List.eq_nil_of_length_eq_zero h0;subst this;exact .inl ⟨hv,rfl⟩
 · rcases Nat.eq_zero_or_pos ws.length with h0 | h0
   · have : ws = [] := List.eq_nil_of_length_eq_zero h0;subst this;exact .inr (.inl ⟨_,cap,rfl,rfl⟩)
   · refine .inr (.inr ⟨h0,g,0,cap,rfl,hn,(Array.getElem?_eq_some_iff.1 hg).1,fun j hj => ?_⟩);have := h.cells (g := g) rfl j (.int .u32 (ws.getD j 0 : Nat)) (by rw [List.getD_eq_getElem?_getD,List.getElem?_map,List.getElem?_eq_getElem hj]; rfl);rwa [Sl.addr_add] at this
set_option maxHeartbeats 4000000
set_option maxRecDepth 1000000
theorem Nt.Trim_same (ws : List Nat) (v : Value) (w : World) (h : Nt.In w v ws) (hw : Nt.Wd ws) (hl : ws.length ≤ 4611686018427387904) : Calls Tryz.prog 127 #[v] w fun e w' => e = .returned (.int .i64 ((Nt.dig (Nt.val ws)).length : Nat)) ∧ w = w' := by
 obtain ⟨ad,cap,rfl⟩ := h.slice;have H := Lib.hid h;have HW := Lib.hid hw;clear h hw;go_enter Tryz.func127,Tryz.ntmps127;go_wp2_with fail;go_loopw [3] (fun i wr => wr = w ∧ ∃ n : Nat,i = .int .i64 n ∧ n ≤ ws.length ∧ ∀ j,n ≤ j → j < ws.length → ws.getD j 0 = 0) (fun i _ => (intOf i).toNat);case atStart => exact ⟨rfl,ws.length,rfl,Nat.le_refl _,fun j h1 h2 => by omega⟩
 case round =>
  obtain ⟨hwr,n,rfl,hn,hz⟩ := hrel;subst hwr;have HZ := Lib.hid hz;clear hz;have fin : (n = 0 ∨ ws.getD (n - 1) 0 ≠ 0) → (Nt.dig (Nt.val ws)).length = n := fun ht => by
   rw [← Nt.dig_of HW.out hn HZ.out ht,List.length_take]; omega
  have FIN := Lib.hid fin;clear fin;rcases n with _ | n
  · have hr := FIN.out (.inl rfl);go_wp2_with fail;go_ret;exact ⟨by first | rfl | (rw [hr]; rfl),rfl⟩
  · obtain ⟨b,off,rfl,_,hcap,hbl,hcell⟩ := H.out.at (by omega);have c0 := hcell n (by omega);clear hcell;by_cases hx : ws.getD n 0 = 0
    · rw [hx] at c0;have HX := Lib.hid hx;clear hx;go_wp2_with fail;go_roundw;case rel =>
       refine ⟨by first | rfl | trivial,n,by first | rfl | go_num | (simp; try omega),by omega,fun j h1 h2 => ?_⟩;rcases Nat.lt_or_ge n j with h | h
       · exact HZ.out j (by omega) h2
       · obtain rfl : j = n := by omega
         exact HX.out
      case measure => simp [intOf]
    · have hr := FIN.out (.inr hx);have hx0 : ((ws.getD n 0 : Nat) == (0 : Int)) = false := by simp; exact hx
      generalize ws.getD n 0 = x at *;clear hx;go_wp2_with fail;go_ret;exact ⟨by first | rfl | (rw [hr]; rfl),rfl⟩
theorem Nt.norm_same (ws : List Nat) (ad : Option Addr) (cap : Nat) (w : World) (h : Nt.In w (.slice ad ws.length cap) ws) (hw : Nt.Wd ws) (hl : ws.length ≤ 4611686018427387904) : Calls Tryz.prog 145 #[.slice ad ws.length cap] w fun e w' => e = .returned (.slice ad (Nt.dig (Nt.val ws)).length cap) ∧ w = w' := by
 have KT := fun w h => Nt.Trim_same ws (.slice ad ws.length cap) w h hw hl;have H := Lib.hid h;have hcap := h.cap.2;obtain ⟨n,hn⟩ : ∃ n,(Nt.dig (Nt.val ws)).length = n := ⟨_,rfl⟩;rw [hn] at KT;have hnl : n ≤ ws.length := hn ▸ (Nt.take_dig hw).1;have h1 : (0 : Int) ≤ (n : Int) := by omega
 have h2 : (n : Int) ≤ (cap : Int) := by omega
 have HN := Lib.hid hn;clear h hn;go_enter Tryz.func145,Tryz.ntmps145;go_wp2_with fail;refine (KT _ H.out).mono ?_;rintro x w1 ⟨rfl,hw1⟩;subst hw1;go_wp2_with fail;go_ret;exact ⟨by rw [HN.out]; rfl,rfl⟩
set_option maxHeartbeats 200000
set_option maxRecDepth 512
theorem Nt.norm_eq (ws : List Nat) (ad : Option Addr) (cap : Nat) (w : World) (h : Nt.In w (.slice ad ws.length cap) ws) (hw : Nt.Wd ws) (hl : ws.length ≤ 4611686018427387904) : Calls Tryz.prog 145 #[.slice ad ws.length cap] w fun e w' => e = .returned (.slice ad (Nt.dig (Nt.val ws)).length cap) ∧ Below w.heap.size w w' :=
 (Nt.norm_same ws ad cap w h hw hl).mono fun _ _ ⟨he,hw⟩ => ⟨he,hw ▸ Below.refl _ _⟩
theorem Nt.norm_any (ws : List Nat) (v : Value) (w : World) (h : Nt.In w v ws) (hw : Nt.Wd ws) (hl : ws.length ≤ 4611686018427387904) : Calls Tryz.prog 145 #[v] w fun e w' => ∃ v',e = .returned v' ∧ Nt.N w' v' (Nt.val ws) ∧ Below w.heap.size w w' := by
 obtain ⟨ad,cap,rfl⟩ := h.slice;refine (Nt.norm_eq ws ad cap w h hw hl).mono fun e w' ⟨he,hb⟩ => ⟨_,he,?_,hb⟩;unfold Nt.N;have := (h.below hb (Nat.le_refl _)).takeN _ (Nt.take_dig hw).1;rwa [(Nt.take_dig hw).2] at this
def Nt.vs (ws : List Nat) : List Value := ws.map fun (x : Nat) => Value.int .u32 (x : Int)
theorem Nt.norm_own (ws : List Nat) (v : Value) (w : World) {B : Nat} {t : TypeId} (h : w.ownsRow B t 1 v ws.length (Nt.vs ws)) (hw : Nt.Wd ws) (hl : ws.length ≤ 4611686018427387904) : Calls Tryz.prog 145 #[v] w fun e w' => ∃ v',e = .returned v' ∧ w'.ownsRow B t 1 v' (Nt.dig (Nt.val ws)).length (Nt.vs (Nt.dig (Nt.val ws))) ∧ Below w.heap.size w w' := by
 have hin := Nt.In.of_own h;obtain ⟨ad,cap,rfl⟩ := hin.slice;refine (Nt.norm_eq ws ad cap w hin hw hl).mono fun e w' ⟨he,hb⟩ => ⟨_,he,?_,hb⟩;have h' := Sl.own_below h hb (Nat.le_refl _);obtain ⟨h1,h2⟩ := Nt.take_dig hw;generalize Nt.dig (Nt.val ws) = ds at *;refine ⟨by simp [Nt.vs],?_⟩;rcases h'.2 with ⟨hv,h0⟩ | ⟨g,c,cur,hv,hB,hg,hn,hm,hs,ht⟩
 · have : ds.length = 0 := by omega
   simp only [Value.slice.injEq] at hv;exact .inl ⟨by rw [hv.1,hv.2.2,this],this⟩
 · simp only [Value.slice.injEq] at hv;obtain ⟨rfl,_,rfl⟩ := hv;refine .inr ⟨g,cap,cur,rfl,hB,hg,by omega,hm,hs,?_⟩;have e : cur.toList.take (ds.length * 1) = (cur.toList.take (ws.length * 1)).take ds.length := by
    rw [List.take_take,Nat.min_eq_left (by omega),Nat.mul_one]
   rw [e,ht,← h2];simp [Nt.vs,List.map_take]
def Nt.sound (ws : List Nat) : Bool := decide (ws.length ≤ 512) && decide ((Nt.dig (Nt.val ws)).length = ws.length)
theorem Nt.sound_dig (n : Nat) : Nt.sound (Nt.dig n) = decide ((Nt.dig n).length ≤ 512) := by
 unfold Nt.sound;rw [Nt.val_dig];simp
theorem Nt.sound_eq {ws : List Nat} (hw : Nt.Wd ws) (h : Nt.sound ws = true) : ws = Nt.dig (Nt.val ws) ∧ ws.length ≤ 512 := by
 unfold Nt.sound at h;simp only [Bool.and_eq_true,decide_eq_true_eq] at h;have := (Nt.take_dig hw).2;rw [h.2,List.take_length] at this;exact ⟨this,h.1⟩
set_option maxHeartbeats 4000000
set_option maxRecDepth 1000000
theorem Nt.Clone_own (ws : List Nat) (v : Value) (w : World) (h : Nt.In w v ws) (hl : ws.length ≤ 1000000) : Calls Tryz.prog 129 #[v] w fun e w' => ∃ v',e = .returned v' ∧ w'.ownsRow w.heap.size 57 1 v' ws.length (ws.map fun (x : Nat) => Value.int .u32 (x : Int)) ∧ Below w.heap.size w w' := by
 obtain ⟨i0,hi0,hz0,hz1,hz2⟩ := info_parts Nt.infoWord;have q22 : ∀ (w : World) (a : Option Addr) (n c n' c' : Nat),(binOp .eql 22 (.slice a n c) (.slice none n' c')).run Tryz.prog w = .ok (.bool a.isNone) w := fun w a n c n' c' => Lib.run_eql_slice_nil w _ _ a n c n' c' Tryz.underlying22;rcases id h with ⟨rfl,rfl⟩ | ⟨a,cap,rfl,rfl⟩ | ⟨h0,b,off,cap,rfl,hc,hbl,hcell⟩
 · clear h;go_enter Tryz.func129,Tryz.ntmps129;go_wp2_with fail;go_ret;exact ⟨_,rfl,⟨by simp,.inl ⟨rfl,rfl⟩⟩,Below.refl _ _⟩
 · clear h;have hb1 : Below w.heap.size w (w.alloc (.cells #[] 57)) := (Below.refl _ _).alloc (Nat.le_refl _) _;have hown := Sl.own_empty w 57;have HB1 := Lib.hid hb1;go_enter Tryz.func129,Tryz.ntmps129;go_wp2_with (at_builtin; refine wpList_append_own _ rfl _ _ 22 rfl w.heap.size 57 i0 (.int .u32 0) 1 4 Tryz.underlying22 hi0 hz0 hz1 hz2 rfl (by decide) _ 0 _ rfl hown a 0 cap [] rfl rfl (fun j u hj => by simp at hj) (fun u hu => by cases hu) (by decide) (by decide) ?c4 ?_);case c4 => exact HB1.out.size
   intro v9 w9 hown9 hgr9 _;have HB9 := Lib.hid (HB1.out.grown hgr9 HB1.out.size (fun k hk => (hown.lt k hk).1));have HO9 := Lib.hid hown9;clear hown9 hgr9 hown hb1;go_wp2_with fail;go_ret;exact ⟨_,rfl,HO9.out,HB9.out⟩
 · clear h;have hb1 : Below w.heap.size w (w.alloc (.cells #[] 57)) := (Below.refl _ _).alloc (Nat.le_refl _) _;have hown := Sl.own_empty w 57;have HB1 := Lib.hid hb1;have hnews : ∀ j u,(ws.map fun (x : Nat) => Value.int .u32 (x : Int))[j]? = some u → (w.alloc (.cells #[] 57)).cell? ((⟨b,off,none⟩ : Addr).add j) = some u := by
    intro j u hj;have hjl : j < ws.length := by simpa using (List.getElem?_eq_some_iff.1 hj).1
    rw [Sl.addr_add];refine (hb1.cell (p := ⟨b,off + j,none⟩) hbl).trans ((hcell j hjl).trans ?_);rw [← hj,List.getD_eq_getElem?_getD,List.getElem?_map,List.getElem?_eq_getElem hjl];rfl
   have hl2 : (ws.map fun (x : Nat) => Value.int .u32 (x : Int)).length = ws.length * 1 := by simp
   have h1c : ∀ u ∈ (ws.map fun (x : Nat) => Value.int .u32 (x : Int)),u.oneCell' = true := by
    intro u hu;obtain ⟨x,_,rfl⟩ := List.mem_map.1 hu;rfl
   have HNE := Lib.hid hnews;have HL2 := Lib.hid hl2;have H1C := Lib.hid h1c;have hne : ws ≠ [] := by intro e; subst e; simp at h0
   clear hnews hl2 h1c hcell;go_enter Tryz.func129,Tryz.ntmps129;go_wp2_with (at_builtin; refine wpList_append_own _ rfl _ _ 22 rfl w.heap.size 57 i0 (.int .u32 0) 1 4 Tryz.underlying22 hi0 hz0 hz1 hz2 rfl (by decide) _ 0 _ rfl hown ⟨b,off,none⟩ ws.length cap (ws.map fun (x : Nat) => Value.int .u32 (x : Int)) rfl HL2.out HNE.out H1C.out ?c2 ?c3 ?c4 ?_);case c2 => unfold maxLen; omega
   case c3 => omega
   case c4 => exact HB1.out.size
   intro v9 w9 hown9 hgr9 _;have HB9 := Lib.hid (HB1.out.grown hgr9 HB1.out.size (fun k hk => (hown.lt k hk).1));try rw [Nat.zero_add,List.nil_append] at hown9
   have HO9 := Lib.hid hown9;clear hown9 hgr9 hown hb1;go_wp2_with fail;go_ret;exact ⟨_,rfl,HO9.out,HB9.out⟩
set_option maxHeartbeats 200000
set_option maxRecDepth 512
theorem Nt.Clone_any (ws : List Nat) (v : Value) (w : World) (h : Nt.In w v ws) (hl : ws.length ≤ 1000000) : Calls Tryz.prog 129 #[v] w fun e w' => ∃ v',e = .returned v' ∧ Nt.In w' v' ws ∧ Below w.heap.size w w' :=
 (Nt.Clone_own ws v w h hl).mono fun _ _ ⟨v',he,ho,hb⟩ => ⟨v',he,Nt.In.of_own ho,hb⟩
end Go.Proofs.YteklhapffplohaaGreatDoor
namespace Go.Proofs.YteklhapffplohaaGreatDoor
def Rt.sound (s : Bool) (t b : List Nat) : Bool := Nt.sound t && Nt.sound b && decide (b.length ≠ 0) && !(decide (t.length = 0) && s) && decide (Nat.gcd (Nt.val t) (Nt.val b) = 1)
def Rt.noRat (s : Bool) (t b : List Nat) : Bool := !s && decide (t.length = 0) && decide (b.length = 0)
def Tr.Hd.num (h : Tr.Hd) : Bool := if h.k = 3 then Rt.sound h.s1 h.t1 h.b1 && Rt.sound h.s2 h.t2 h.b2 else Rt.noRat h.s1 h.t1 h.b1 && Rt.noRat h.s2 h.t2 h.b2
def Tr.isText (k : Int) : Bool := decide (k = 5) || decide (k = 6) || decide (k = 11)
def Tr.isChar (n : Int) : Bool := decide (0 ≤ n) && decide (n ≤ 55295) || decide (57344 ≤ n) && decide (n ≤ 1114111)
def Tr.own (k n : Int) (l : Nat) : Bool :=
 if k = 8 then decide (n = 0) && decide (l = 2) else if k = 9 then decide (n = 0) else if k = 2 then (decide (n = 0) || decide (n = 1)) && decide (l = 0)
 else if k = 4 then Tr.isChar n && decide (l = 0) else decide (1 ≤ k) && decide (k ≤ 11) && decide (n = 0) && decide (l = 0)
def Tr.Hd.shape (h : Tr.Hd) (l : Nat) : Bool :=
 h.num && (Tr.isText h.k || decide (h.x.size = 0)) && Lib.validD h.x.data.toList && (decide (h.k = 7) || decide (h.raw.size = 0)) && Tr.own h.k h.n l
theorem Tr.own_pair {n : Int} {l : Nat} (h : Tr.own 8 n l = true) : l = 2 := by
 simp [Tr.own] at h; exact h.2
theorem Tr.Hd.shape_pair {h : Tr.Hd} {l : Nat} (hs : h.shape l = true) (hk : h.k = 8) : l = 2 := by
 unfold Tr.Hd.shape at hs;simp only [Bool.and_eq_true] at hs;have := hs.2;rw [hk] at this;exact Tr.own_pair this
mutual
def Tr.size : Tr → Nat
 | .mk _ l => 1 + Tr.sizeL l
def Tr.sizeL : List Tr → Nat
 | [] => 0
 | t :: ts => Tr.size t + Tr.sizeL ts
end
theorem Tr.size_mk (h : Tr.Hd) (l : List Tr) : Tr.size (.mk h l) = 1 + Tr.sizeL l := by rw [Tr.size]
theorem Tr.sizeL_nil : Tr.sizeL [] = 0 := by rw [Tr.sizeL]
theorem Tr.sizeL_cons (t : Tr) (ts : List Tr) : Tr.sizeL (t :: ts) = Tr.size t + Tr.sizeL ts := by rw [Tr.sizeL]
theorem Tr.size_pos (t : Tr) : 0 < Tr.size t := by cases t; rw [Tr.size_mk]; omega
theorem Tr.size_at : ∀ (l : List Tr) (k : Nat) (t : Tr),l[k]? = some t → Tr.size t ≤ Tr.sizeL l
 | [],k,t,h => by simp at h
 | x :: ts,0,t,h => by
   obtain rfl : x = t := by simpa using h
   rw [Tr.sizeL_cons]; omega
 | x :: ts,k + 1,t,h => by
   have := Tr.size_at ts k t (by simpa using h);rw [Tr.sizeL_cons]; omega
theorem Tr.size_lt {t u : Tr} {k : Nat} (h : t.li[k]? = some u) : Tr.size u < Tr.size t := by
 have := Tr.size_at t.li k u h;cases t with
 | mk hd l => rw [Tr.size_mk]; simp only [Tr.li] at this; omega
mutual
def Tr.snd : Tr → Nat → Int → Bool × Int
 | .mk h l,d,left =>
   if left - 1 < 0 ∨ 200 < d ∨ h.shape l.length = false then (false,left - 1)
   else if h.k = 8 then
    match l with
    | [a,b] => if (Tr.snd a (d + 1) (left - 1)).1 = true then Tr.snd b d (Tr.snd a (d + 1) (left - 1)).2 else (false,(Tr.snd a (d + 1) (left - 1)).2)
    | _ => (true,left - 1)
   else Tr.sndL l (d + 1) (left - 1)
def Tr.sndL : List Tr → Nat → Int → Bool × Int
 | [],_,left => (true,left)
 | t :: ts,d,left => if (Tr.snd t d left).1 = true then Tr.sndL ts d (Tr.snd t d left).2 else (false,(Tr.snd t d left).2)
end
theorem Tr.snd_bad {h : Tr.Hd} {l : List Tr} {d : Nat} {left : Int} (hb : left - 1 < 0 ∨ 200 < d ∨ h.shape l.length = false) : Tr.snd (.mk h l) d left = (false,left - 1) := by
 rw [Tr.snd.eq_def]; simp only; rw [if_pos hb]
theorem Tr.snd_pair {h : Tr.Hd} {a b : Tr} {d : Nat} {left : Int} (hb : ¬ (left - 1 < 0 ∨ 200 < d ∨ h.shape 2 = false)) (hk : h.k = 8) : Tr.snd (.mk h [a,b]) d left = if (Tr.snd a (d + 1) (left - 1)).1 = true then Tr.snd b d (Tr.snd a (d + 1) (left - 1)).2 else (false,(Tr.snd a (d + 1) (left - 1)).2) := by
 rw [Tr.snd.eq_def]; simp only [List.length_cons,List.length_nil]; rw [if_neg hb,if_pos hk]
theorem Tr.snd_list {h : Tr.Hd} {l : List Tr} {d : Nat} {left : Int} (hb : ¬ (left - 1 < 0 ∨ 200 < d ∨ h.shape l.length = false)) (hk : h.k ≠ 8) : Tr.snd (.mk h l) d left = Tr.sndL l (d + 1) (left - 1) := by
 rw [Tr.snd.eq_def]; simp only; rw [if_neg hb,if_neg hk]
theorem Tr.sndL_nil {d : Nat} {left : Int} : Tr.sndL [] d left = (true,left) := by rw [Tr.sndL]
theorem Tr.sndL_cons {t : Tr} {ts : List Tr} {d : Nat} {left : Int} : Tr.sndL (t :: ts) d left = if (Tr.snd t d left).1 = true then Tr.sndL ts d (Tr.snd t d left).2 else (false,(Tr.snd t d left).2) := by rw [Tr.sndL]
mutual
theorem Tr.snd_le : ∀ (t : Tr) (d : Nat) (left : Int),-1 ≤ left → (Tr.snd t d left).2 ≤ left ∧ ((Tr.snd t d left).1 = true → 0 ≤ (Tr.snd t d left).2)
 | .mk h l,d,left,h0 => by
   by_cases hb : left - 1 < 0 ∨ 200 < d ∨ h.shape l.length = false
   · rw [Tr.snd_bad hb]; exact ⟨by show left - 1 ≤ left; omega,fun h => by cases h⟩
   · have hb2 : 0 ≤ left - 1 := by
      rcases Int.lt_or_le (left - 1) 0 with h | h
      · exact absurd (Or.inl h) hb
      · exact h
     by_cases hk : h.k = 8
     · have hs : h.shape l.length = true := by
        cases e : h.shape l.length with
        | true => rfl
        | false => exact absurd (Or.inr (Or.inr e)) hb
       have hl := Tr.Hd.shape_pair hs hk;match l,hl with
       | [a,b],_ =>
         rw [Tr.snd_pair hb hk];have ha := Tr.snd_le a (d + 1) (left - 1) (by omega);split
         · rename_i h1;have h2 := ha.2 h1;have hb' := Tr.snd_le b d _ (by omega : -1 ≤ (Tr.snd a (d + 1) (left - 1)).2);exact ⟨by omega,hb'.2⟩
         · exact ⟨by show (Tr.snd a (d + 1) (left - 1)).2 ≤ left; omega,fun h => by cases h⟩
     · rw [Tr.snd_list hb hk];have := Tr.sndL_le l (d + 1) (left - 1) hb2;exact ⟨by omega,this.2⟩
theorem Tr.sndL_le : ∀ (l : List Tr) (d : Nat) (left : Int),0 ≤ left → (Tr.sndL l d left).2 ≤ left ∧ ((Tr.sndL l d left).1 = true → 0 ≤ (Tr.sndL l d left).2)
 | [],d,left,h0 => by rw [Tr.sndL_nil]; exact ⟨Int.le_refl _,fun _ => h0⟩
 | t :: ts,d,left,h0 => by
   rw [Tr.sndL_cons];have ht := Tr.snd_le t d left (by omega);split
   · rename_i h1;have h2 := ht.2 h1;have hs := Tr.sndL_le ts d _ h2;exact ⟨by omega,hs.2⟩
   · exact ⟨ht.1,fun h => by cases h⟩
end
def Tr.sound (t : Tr) : Bool := (Tr.snd t 1 20000).1
end Go.Proofs.YteklhapffplohaaGreatDoor
namespace Go.Proofs.YteklhapffplohaaGreatDoor
open Go.RowKit
def Dr.cp (l : List UInt8) : Int := ((Lib.decodeL l).1 : Int)
def Dr.wd (l : List UInt8) : Nat := (Lib.decodeL l).2
def Dr.bad (l : List UInt8) : Bool := decide (Dr.cp l = 65533) && decide (Dr.wd l = 1)
theorem Dr.wd_pos {l : List UInt8} (h : l ≠ []) : 1 ≤ Dr.wd l := Ru.width_pos l h
theorem Dr.wd_le {l : List UInt8} (h : l ≠ []) : Dr.wd l ≤ l.length := Ru.width_le l h
theorem Dr.drop_lt {l : List UInt8} (h : l ≠ []) : (l.drop (Dr.wd l)).length < l.length := by
 have := Dr.wd_pos h;have := List.length_pos_iff.2 h;rw [List.length_drop];omega
def Dr.next (l : List UInt8) : Option (Int × List UInt8) := if l = [] then none else if Dr.bad l = true then none else some (Dr.cp l,l.drop (Dr.wd l))
theorem Dr.next_lt {l r : List UInt8} {c : Int} (h : Dr.next l = some (c,r)) : r.length < l.length := by
 unfold Dr.next at h;split at h
 · cases h
 · rename_i hn;split at h
   · cases h
   · simp only [Option.some.injEq,Prod.mk.injEq] at h;rw [← h.2];exact Dr.drop_lt hn
def Dr.lineC (c : Int) : Bool := decide (c = 10) || decide (c = 13) || decide (c = 133) || decide (c = 8232)
def Dr.line (l : List UInt8) : Option (List UInt8) :=
 if h : l = [] then some l else if Dr.bad l = true then none else if Dr.lineC (Dr.cp l) = true then some l else Dr.line (l.drop (Dr.wd l))
termination_by l.length
decreasing_by exact Dr.drop_lt h
def Dr.remark (d : Nat) (l : List UInt8) : Option (List UInt8) :=
 if h1 : l.take 2 = [35,124] then Dr.remark (d + 1) (l.drop 2) else if h2 : l.take 2 = [124,35] then (if d = 1 then some (l.drop 2) else Dr.remark (d - 1) (l.drop 2))
 else if h : l = [] then none else if Dr.bad l = true then none else Dr.remark d (l.drop (Dr.wd l))
termination_by l.length
decreasing_by
 · rw [List.length_drop]; have := congrArg List.length h1; simp at this; omega
 · rw [List.length_drop]; have := congrArg List.length h2; simp at this; omega
 · exact Dr.drop_lt h
def Dr.hexB (b : UInt8) : Bool := (decide (48 ≤ b.toNat) && decide (b.toNat ≤ 57)) || (decide (97 ≤ b.toNat) && decide (b.toNat ≤ 102)) || (decide (65 ≤ b.toNat) && decide (b.toNat ≤ 70))
def Dr.semi : List UInt8 → List UInt8
 | [] => []
 | b :: r => if b = 59 then r else b :: r
def Dr.digits (l : List UInt8) : Option (List UInt8) := (Dr.next l).map fun x => Dr.semi (x.2.dropWhile Dr.hexB)
theorem Dr.dropWhile_le (p : UInt8 → Bool) : ∀ (l : List UInt8),(l.dropWhile p).length ≤ l.length
 | [] => Nat.le_refl _
 | b :: r => by
   rw [List.dropWhile_cons];split
   · have := Dr.dropWhile_le p r;rw [List.length_cons]; omega
   · exact Nat.le_refl _
theorem Dr.semi_le (l : List UInt8) : (Dr.semi l).length ≤ l.length := by
 cases l with
 | nil => exact Nat.le_refl _
 | cons b r =>
   show (if b = 59 then r else b :: r).length ≤ _;split
   · rw [List.length_cons]; omega
   · exact Nat.le_refl _
theorem Dr.digits_lt {l r : List UInt8} (h : Dr.digits l = some r) : r.length < l.length := by
 unfold Dr.digits at h;cases hn : Dr.next l with
 | none => rw [hn] at h; cases h
 | some x =>
   rw [hn] at h;simp only [Option.map_some,Option.some.injEq] at h;obtain ⟨c,r2⟩ := x;have h1 := Dr.next_lt hn;have h2 := Dr.dropWhile_le Dr.hexB r2;have h3 := Dr.semi_le (r2.dropWhile Dr.hexB);rw [← h];show (Dr.semi (r2.dropWhile Dr.hexB)).length < _;omega
def Dr.delim (c : Int) : Bool := Ch.blankB c || decide (c = 40) || decide (c = 41) || decide (c = 91) || decide (c = 93) || decide (c = 34) || decide (c = 59)
def Dr.token (l : List UInt8) : Option (List UInt8) :=
 if h : l = [] then some l else if Dr.bad l = true then none else if Dr.delim (Dr.cp l) = true then some l
 else if Dr.cp l = 92 then (match h2 : Dr.digits (l.drop (Dr.wd l)) with | none => none | some r => Dr.token r) else Dr.token (l.drop (Dr.wd l))
termination_by l.length
decreasing_by
 · exact Nat.lt_trans (Dr.digits_lt h2) (Dr.drop_lt h)
 · exact Dr.drop_lt h
def Dr.upto (l r : List UInt8) : List UInt8 := l.take (l.length - r.length)
def Dr.hexV (b : UInt8) : Nat := if b.toNat ≤ 57 then b.toNat - 48 else if 97 ≤ b.toNat then b.toNat - 87 else b.toNat - 55
def Dr.hex (ds : List UInt8) : Option Int :=
 if (decide (1 ≤ ds.length) && decide (ds.length ≤ 8) && ds.all Dr.hexB && Tr.isChar ((ds.foldl (fun n b => 16 * n + Dr.hexV b) 0 : Nat) : Int)) = true then some ((ds.foldl (fun n b => 16 * n + Dr.hexV b) 0 : Nat) : Int) else none
def Dr.escEnd (l : List UInt8) : Option (List UInt8 × List UInt8) :=
 if h : l = [] then none else if Dr.bad l = true then none else if Dr.cp l = 59 then some ([],l.drop (Dr.wd l))
 else (Dr.escEnd (l.drop (Dr.wd l))).map fun x => (l.take (Dr.wd l) ++ x.1,x.2)
termination_by l.length
decreasing_by exact Dr.drop_lt h
theorem Dr.escEnd_lt : ∀ (n : Nat) (l : List UInt8),l.length ≤ n → ∀ x,Dr.escEnd l = some x → x.2.length < l.length
 | 0,l,hl,x,h => by
   have : l = [] := List.length_eq_zero_iff.1 (by omega);rw [Dr.escEnd,dif_pos this] at h;cases h
 | n + 1,l,hl,x,h => by
   rw [Dr.escEnd] at h;split at h
   · cases h
   · rename_i hne;have hlt := Dr.drop_lt hne;split at h
     · cases h
     · split at h
       · simp only [Option.some.injEq] at h;rw [← h];exact hlt
       · cases hy : Dr.escEnd (l.drop (Dr.wd l)) with
         | none => rw [hy] at h; cases h
         | some y =>
           rw [hy] at h;simp only [Option.map_some,Option.some.injEq] at h;have := Dr.escEnd_lt n _ (by omega) y hy;rw [← h];show y.2.length < _;omega
def Dr.esc (l : List UInt8) : Option (Int × List UInt8) :=
 match Dr.escEnd l with
 | none => none
 | some x => (Dr.hex x.1).map fun c => (c,x.2)
theorem Dr.esc_lt {l r : List UInt8} {c : Int} (h : Dr.esc l = some (c,r)) : r.length < l.length := by
 unfold Dr.esc at h;split at h
 · cases h
 · rename_i x hx;have := Dr.escEnd_lt _ l (Nat.le_refl _) x hx;cases hh : Dr.hex x.1 with
   | none => rw [hh] at h; cases h
   | some d =>
     rw [hh] at h;simp only [Option.map_some,Option.some.injEq,Prod.mk.injEq] at h;rw [← h.2];exact this
def Dr.unesc (c : Int) : Option UInt8 :=
 if c = 97 then some 7 else if c = 98 then some 8 else if c = 116 then some 9 else if c = 110 then some 10 else if c = 118 then some 11 else if c = 102 then some 12 else if c = 114 then some 13
 else if c = 34 then some 34 else if c = 92 then some 92 else none
def Dr.ret (l : List UInt8) : Option (List UInt8) := if l = [] then some l else if Dr.bad l = true then none else if (decide (Dr.cp l = 10) || decide (Dr.cp l = 133)) = true then some (l.drop (Dr.wd l)) else some l
theorem Dr.ret_le {l r : List UInt8} (h : Dr.ret l = some r) : r.length ≤ l.length := by
 unfold Dr.ret at h;split at h
 · simp only [Option.some.injEq] at h; rw [h]; exact Nat.le_refl _
 · split at h
   · cases h
   · split at h
     · simp only [Option.some.injEq] at h; rw [← h,List.length_drop]; omega
     · simp only [Option.some.injEq] at h; rw [h]; exact Nat.le_refl _
inductive Dr.Step where
 | no
 | stop (r : List UInt8)
 | go (b r : List UInt8)
def Dr.txt1 (l : List UInt8) : Dr.Step :=
 match Dr.next l with
 | none => .no
 | some (c,r) =>
   if c = 34 then .stop r
   else if c = 92 then
    (match Dr.next r with
    | none => .no
    | some (c2,r2) =>
      if c2 = 120 then (match Dr.esc r2 with | none => .no | some (d,r3) => .go (Lib.encodeRune d) r3)
      else (match Dr.unesc c2 with | none => .no | some b => .go [b] r2))
   else if c = 13 then (match Dr.ret r with | none => .no | some r2 => .go [10] r2)
   else if (decide (c = 133) || decide (c = 8232)) = true then .go [10] r
   else .go (Lib.encodeRune c) r
theorem Dr.txt1_lt {l b r : List UInt8} (h : Dr.txt1 l = .go b r) : r.length < l.length := by
 unfold Dr.txt1 at h;split at h
 · cases h
 · rename_i c r1 h1;have q1 := Dr.next_lt h1;split at h
   · cases h
   · split at h
     · split at h
       · cases h
       · rename_i c2 r2 h2;have q2 := Dr.next_lt h2;split at h
         · split at h
           · cases h
           · rename_i d r3 h3;have q3 := Dr.esc_lt h3;simp only [Dr.Step.go.injEq] at h;rw [← h.2]; omega
         · split at h
           · cases h
           · simp only [Dr.Step.go.injEq] at h;rw [← h.2]; omega
     · split at h
       · split at h
         · cases h
         · rename_i r2 h2;have q2 := Dr.ret_le h2;simp only [Dr.Step.go.injEq] at h;rw [← h.2]; omega
       · split at h <;> (simp only [Dr.Step.go.injEq] at h; rw [← h.2]; omega)
def Dr.text (l : List UInt8) : Option (List UInt8 × List UInt8) :=
 match h : Dr.txt1 l with
 | .no => none
 | .stop r => some ([],r)
 | .go b r => (Dr.text r).map fun x => (b ++ x.1,x.2)
termination_by l.length
decreasing_by exact Dr.txt1_lt h
def Dr.named (name : List UInt8) : Option Int := ((List.range 128).find? fun (n : Nat) => decide (Wt.name ((n : Nat) : Int) = name)).map fun (n : Nat) => ((n : Nat) : Int)
def Dr.char (l : List UInt8) : Option (Int × List UInt8) :=
 match Dr.next l with
 | none => none
 | some (c,r) =>
   if Dr.delim c = true then (if r = [] then some (c,r) else if Dr.bad r = true then none else if Dr.delim (Dr.cp r) = true then some (c,r) else none)
   else
    match Dr.token r with
    | none => none
    | some r2 =>
      if Dr.upto r r2 = [] then some (c,r2)
      else if Lib.encodeRune c ++ Dr.upto r r2 = [108,105,110,101,102,101,101,100] then some (10,r2)
      else match Dr.named (Lib.encodeRune c ++ Dr.upto r r2) with
       | some n => some (n,r2)
       | none => if c = 120 then (Dr.hex (Dr.upto r r2)).map fun n => (n,r2) else none
def Dr.sym1 (first : Bool) (l : List UInt8) : Option (List UInt8 × List UInt8) :=
 match Dr.next l with
 | none => none
 | some (c,r) =>
   if c = 92 then
    (match Dr.next r with
    | none => none
    | some (c2,r2) => if c2 = 120 then (match Dr.esc r2 with | none => none | some (d,r3) => some (Lib.encodeRune d,r3)) else none)
   else if ((first && !Wt.firstB c) || !Wt.restB c) = true then none else some (Lib.encodeRune c,r)
theorem Dr.sym1_lt {first : Bool} {l b r : List UInt8} (h : Dr.sym1 first l = some (b,r)) : r.length < l.length := by
 unfold Dr.sym1 at h;split at h
 · cases h
 · rename_i c r1 h1;have q1 := Dr.next_lt h1;split at h
   · split at h
     · cases h
     · rename_i c2 r2 h2;have q2 := Dr.next_lt h2;split at h
       · split at h
         · cases h
         · rename_i d r3 h3;have q3 := Dr.esc_lt h3;simp only [Option.some.injEq,Prod.mk.injEq] at h;rw [← h.2]; omega
       · cases h
   · split at h
     · cases h
     · simp only [Option.some.injEq,Prod.mk.injEq] at h;rw [← h.2]; omega
def Dr.syms (first : Bool) (l : List UInt8) : Option (List UInt8) :=
 if l = [] ∧ first = false then some [] else
 match h : Dr.sym1 first l with
 | none => none
 | some x => (Dr.syms false x.2).map fun y => x.1 ++ y
termination_by l.length
decreasing_by exact Dr.sym1_lt (b := x.1) h
def Dr.symbol (t : List UInt8) : Option (List UInt8) := if t.take 2 = [45,62] then (Dr.syms false (t.drop 2)).map fun y => [45,62] ++ y else Dr.syms true t
def Dr.val (b : UInt8) : Nat := if 48 ≤ b.toNat ∧ b.toNat ≤ 57 then b.toNat - 48 else if 97 ≤ b.toNat ∧ b.toNat ≤ 122 then b.toNat - 87 else if 65 ≤ b.toNat ∧ b.toNat ≤ 90 then b.toNat - 55 else 99
def Dr.natV (rx : Nat) (ds : List UInt8) : Nat := ds.foldl (fun n b => n * rx + Dr.val b) 0
def Dr.natR (rx : Nat) (ds : List UInt8) : Option Nat := if 16384 < ds.length then none else if 512 < (Nt.dig (Dr.natV rx ds)).length then none else some (Dr.natV rx ds)
def Dr.isDig (rx : Nat) (b : UInt8) : Bool := decide (Dr.val b < rx)
def Dr.digs (rx : Nat) (s : List UInt8) (w : Int) : Option (Nat × List UInt8 × Int) :=
 if s.takeWhile (Dr.isDig rx) = [] then none else
 match Dr.natR rx (s.takeWhile (Dr.isDig rx)) with
 | some v => some (v,s.dropWhile (Dr.isDig rx),w)
 | none => some (0,s.dropWhile (Dr.isDig rx),4)
abbrev Dr.Fr := Bool × Nat × Nat
def Dr.ratS (neg : Bool) (t b : Nat) : Dr.Fr := (neg && decide (0 < t / Nat.gcd t b),t / Nat.gcd t b,b / Nat.gcd t b)
def Dr.whole (neg : Bool) (t : Nat) : Dr.Fr := (neg && decide (0 < t),t,1)
def Dr.frac (rx : Nat) (neg : Bool) (s : List UInt8) (w : Int) : Option (Dr.Fr × List UInt8 × Int) :=
 match Dr.digs rx s w with
 | none => none
 | some (t,s1,w1) =>
   match s1 with
   | 47 :: s2 =>
     (match Dr.digs rx s2 w1 with
     | none => none
     | some (b,s3,w2) => if b = 0 then some (Dr.whole neg t,s3,if w2 = 0 then 3 else w2) else some (Dr.ratS neg t b,s3,w2))
   | _ => some (Dr.whole neg t,s1,w1)
def Dr.sign : List UInt8 → Bool × Bool × List UInt8
 | 43 :: r => (false,true,r)
 | 45 :: r => (true,true,r)
 | l => (false,false,l)
def Dr.unit (l : List UInt8) : Bool := decide (l = [105]) || decide (l = [73])
def Dr.number (rx : Nat) (s : List UInt8) : Option (Dr.Fr × Dr.Fr × Int) :=
 let a := Dr.sign s
 if (a.2.1 && Dr.unit a.2.2) = true then some (Dr.whole false 0,Dr.whole a.1 1,0) else
 match Dr.frac rx a.1 a.2.2 0 with
 | none => none
 | some (re,s2,w) =>
   if s2 = [] then some (re,Dr.whole false 0,w)
   else if (a.2.1 && Dr.unit s2) = true then some (Dr.whole false 0,re,w)
   else
    let b := Dr.sign s2
    if b.2.1 = false then none
    else if Dr.unit b.2.2 = true then some (re,Dr.whole b.1 1,w)
    else match Dr.frac rx b.1 b.2.2 w with
     | none => none
     | some (im,s4,w4) => if Dr.unit s4 = true then some (re,im,w4) else none
def Dr.radix (c : UInt8) : Nat := if c = 98 then 2 else if c = 111 then 8 else if c = 100 then 10 else if c = 120 then 16 else 0
def Dr.pre (rx : Nat) (rs ex : Bool) : List UInt8 → Option (Nat × List UInt8)
 | 35 :: c :: r =>
   if (decide (c ||| 32 = 101) && !ex) = true then Dr.pre rx rs true r
   else if (decide (0 < Dr.radix (c ||| 32)) && !rs) = true then Dr.pre (Dr.radix (c ||| 32)) true ex r
   else none
 | [35] => none
 | l => some (rx,l)
inductive Dr.Num where
 | ok (re im : Dr.Fr)
 | err (e : Int)
def Dr.num (t : List UInt8) : Dr.Num :=
 match Dr.pre 10 false false t with
 | none => .err 5
 | some (rx,s) =>
   match Dr.number rx s with
   | none => .err 5
   | some (re,im,w) => if 16384 < t.length then .err 4 else if w ≠ 0 then .err w else .ok re im
theorem Nt.bits_u32 (a b : Nat) (ha : a < 4294967296) (hb : b < 4294967296) : bits .and .u32 (a : Int) (b : Int) = ((a &&& b : Nat) : Int) ∧ bits .or .u32 (a : Int) (b : Int) = ((a ||| b : Nat) : Int) ∧ bits .xor .u32 (a : Int) (b : Int) = ((a ^^^ b : Nat) : Int) := by
 have hk : ∀ n : Int,0 ≤ n → n < 2 ^ 32 → IntKind.u32.wrap n = n := fun n h0 h1 => by rw [IntKind.wrap_u32]; omega
 obtain ⟨h1,h2⟩ := bits_nat .u32 32 (by decide) hk a b ha hb;refine ⟨h1,h2,?_⟩;have ha' : a % 2 ^ IntKind.u32.bits = a := Nat.mod_eq_of_lt ha;have hb' : b % 2 ^ IntKind.u32.bits = b := Nat.mod_eq_of_lt hb;simp only [bits,BitVec.ofInt_natCast,BitVec.toNat_xor,BitVec.toNat_ofNat,ha',hb'];have : a ^^^ b < 2 ^ 32 := Nat.xor_lt_two_pow ha hb;exact hk _ (by omega) (by omega)
set_option maxHeartbeats 4000000
set_option maxRecDepth 1000000
theorem Nt.Add32_any (x y c : Nat) (w : World) (hx : x < 4294967296) (hy : y < 4294967296) (hc : c ≤ 1) : Calls Tryz.prog 148 #[.int .u32 x,.int .u32 y,.int .u32 c] w fun e w' => e = .returned (.tuple #[.int .u32 ((x + y + c) % 4294967296 : Nat),.int .u32 ((x + y + c) / 4294967296 : Nat)]) ∧ w' = w := by
 have h1 : ((x : Int) + (y : Int)) % 18446744073709551616 = (x : Int) + (y : Int) := by omega
 have h2 : ((x : Int) + (y : Int) + (c : Int)) % 18446744073709551616 = (x : Int) + (y : Int) + (c : Int) := by omega
 go_enter Tryz.func148,Tryz.ntmps148;go_wp2_with fail;go_ret2;refine ⟨?_,rfl⟩;rw [show (((x + y + c) % 4294967296 : Nat) : Int) = ((x : Int) + (y : Int) + (c : Int)) % 4294967296 by omega,show (((x + y + c) / 4294967296 : Nat) : Int) = ((x : Int) + (y : Int) + (c : Int)) / 4294967296 by omega];rfl
set_option maxHeartbeats 200000
set_option maxRecDepth 512
theorem Nt.make (n : Nat) (w : World) (hn : n ≤ 1000000) : (Instr.makeSlice 22 (.int .i64 (n : Int)) (.int .i64 (n : Int))).run Tryz.prog w = .ok (.slice (some ⟨w.heap.size,0,none⟩) n n) (w.alloc (.cells (Nt.row (List.replicate n 0)) 57)) := by
 obtain ⟨i0,hi,hz0,hz1,hz2⟩ := info_parts Nt.infoWord;have := run_makeSlice (P := Tryz.prog) w 22 57 i0 (.int .u32 0) Tryz.underlying22 hi hz0 .i64 .i64 n n (by omega) (by omega) (by rw [hz1]; omega) (by rw [hz2]; omega) (by omega);rw [this,hz1,show ((n : Int).toNat * 1) = n by omega,Nt.made_zeros];rfl
theorem Nt.store {w : World} {T B : Nat} {w0 : World} {t : TypeId} {ws : List Nat} (h : w.heap[T]? = some (.cells (Nt.row ws) t (0,0))) (k x : Nat) (hk : k < ws.length) (hb : Below B w0 w) (hB : B ≤ T) :
 ∃ W,w.setCell ⟨T,k,none⟩ (.int .u32 (x : Int)) = W ∧ w.cell? ⟨T,k,none⟩ = some (.int .u32 (ws.getD k 0 : Nat)) ∧ w.frozen? ⟨T,k,none⟩ = false ∧ W.heap[T]? = some (.cells (Nt.row (ws.set k x)) t (0,0)) ∧ Below B w0 W ∧ W.heap.size = w.heap.size :=
 ⟨_,rfl,Nt.cell_row h k hk,Nt.frozen_row h k,Nt.set_row h k x,hb.setCell (p := ⟨T,k,none⟩) hB _,by simp⟩
end Go.Proofs.YteklhapffplohaaGreatDoor
namespace Go.Proofs.YteklhapffplohaaGreatDoor
theorem Nt.guess_dec {U D v1 v2 lo dlo t rest u2 P : Nat} (hD : D = (v1 * 4294967296 + v2) * P + dlo) (hU : U = ((t * v1 + rest) * 4294967296 + u2) * P + lo) (hlo : lo < P) (h : rest * 4294967296 + u2 < t * v2) : U < t * D := by
 have h1 : (t * v1 + rest) * 4294967296 + u2 + 1 ≤ t * (v1 * 4294967296 + v2) := by
  rw [Nat.mul_add,Nat.add_mul,← Nat.mul_assoc];omega
 have h2 : ((t * v1 + rest) * 4294967296 + u2 + 1) * P ≤ t * (v1 * 4294967296 + v2) * P := Nat.mul_le_mul_right _ h1;have h3 : t * D = t * (v1 * 4294967296 + v2) * P + t * dlo := by rw [hD,Nat.mul_add,Nat.mul_assoc]
 rw [Nat.add_mul,Nat.one_mul] at h2;have h4 := Nat.zero_le (t * dlo);omega
theorem Nt.guess_ok {U D v1 v2 lo dlo t rest u2 P : Nat} (hD : D = (v1 * 4294967296 + v2) * P + dlo) (hdlo : dlo < P) (hv1 : 0 < v1) (hU : U = ((t * v1 + rest) * 4294967296 + u2) * P + lo) (ht : t ≤ 4294967295) (h : t * v2 ≤ rest * 4294967296 + u2) : t * D < U + D := by
 have h1 : t * (v1 * 4294967296 + v2) ≤ (t * v1 + rest) * 4294967296 + u2 := by
  rw [Nat.mul_add,Nat.add_mul,← Nat.mul_assoc];omega
 have h2 := Nat.mul_le_mul_right P h1;have h3 : t * D = t * (v1 * 4294967296 + v2) * P + t * dlo := by rw [hD,Nat.mul_add,Nat.mul_assoc]
 have h4 : t * dlo ≤ 4294967295 * P := Nat.mul_le_mul ht (by omega);have h5 : 4294967296 * P ≤ (v1 * 4294967296 + v2) * P := Nat.mul_le_mul_right _ (by omega);have hP : 0 < P := by omega
 omega
theorem Nt.guess_word {v1 t rest u0 u1 : Nat} (ht : t * v1 + rest = u0 * 4294967296 + u1) (h0 : u0 ≤ v1) (h1 : u1 < 4294967296) (hr : 4294967296 ≤ rest) : t ≤ 4294967295 := by
 rcases Nat.lt_or_ge t 4294967296 with h | h
 · omega
 · have := Nat.mul_le_mul_right v1 h;have := Nat.mul_le_mul_right 4294967296 h0;omega
theorem Nt.guess_first {v1 u0 u1 : Nat} (hv1 : 2147483648 ≤ v1) (h0 : u0 ≤ v1) (h1 : u1 < 4294967296) : (u0 * 4294967296 + u1) / v1 ≤ 4294967297 := by
 have h : u0 * 4294967296 + u1 < 4294967298 * v1 := by omega
 have := (Nat.div_lt_iff_lt_mul (by omega : 0 < v1)).2 h;omega
theorem Nt.guess_start {U D v1 r1 u2 P P2 dlo lo q : Nat} (hD : D = v1 * P2 + dlo) (hU : U = r1 * P2 + lo) (hlo : lo < P2) (hq : q * D ≤ U) (hv1 : 0 < v1) : q ≤ r1 / v1 := by
 rw [Nat.le_div_iff_mul_le hv1];rcases Nat.lt_or_ge r1 (q * v1) with h | h
 · exfalso;have h1 : (r1 + 1) * P2 ≤ q * v1 * P2 := Nat.mul_le_mul_right _ h;have h2 : q * D = q * v1 * P2 + q * dlo := by rw [hD,Nat.mul_add,Nat.mul_assoc]
   have := Nat.zero_le (q * dlo);rw [Nat.add_mul,Nat.one_mul] at h1;omega
 · exact h
theorem Nt.sub_word {u d t c o : Nat} (hu : u < 4294967296) (hd : d < 4294967296) (ht : t < 4294967296) (hc : c < 4294967296) (ho : o ≤ 1) :
 c + t * d < 18446744073709551616 ∧ (c + t * d) / 4294967296 < 4294967296 ∧
 (∃ x o' : Nat,o' ≤ 1 ∧ x < 4294967296 ∧ ((u : Int) - ((c + t * d) % 4294967296 : Nat) - (o : Int)) % 18446744073709551616 / 9223372036854775808 = (o' : Int) ∧ ((u : Int) - ((c + t * d) % 4294967296 : Nat) - (o : Int)) % 18446744073709551616 % 4294967296 = (x : Int) ∧ x + (c + t * d) % 4294967296 + o = u + 4294967296 * o') := by
 have h : t * d ≤ 4294967295 * 4294967295 := Nat.mul_le_mul (by omega) (by omega)
 generalize t * d = p at *
 refine ⟨by omega,by omega,?_⟩
 by_cases hb : (c + p) % 4294967296 + o ≤ u
 · exact ⟨u - (c + p) % 4294967296 - o,0,by omega,by omega,by omega,by omega,by omega⟩
 · exact ⟨u + 4294967296 - (c + p) % 4294967296 - o,1,by omega,by omega,by omega,by omega,by omega⟩
theorem Nt.val_seg (ws : List Nat) (j k : Nat) : Nt.val ((ws.drop j).take (k + 1)) = Nt.val ((ws.drop j).take k) + 4294967296 ^ k * ws.getD (j + k) 0 := by
 rw [Nt.val_take_step,List.getD_eq_getElem?_getD,List.getElem?_drop,← List.getD_eq_getElem?_getD]
theorem Nt.seg_set (ws : List Nat) (j k x : Nat) : (((ws.set (j + k) x).drop j).take k) = ((ws.drop j).take k) := by
 rw [List.drop_set,if_neg (by omega),show j + k - j = k by omega,Nt.set_take _ _ _ _ (Nat.le_refl _)]
theorem Nt.val_seg_set (ws : List Nat) (j k x : Nat) (h : j + k < ws.length) : Nt.val (((ws.set (j + k) x).drop j).take (k + 1)) = Nt.val ((ws.drop j).take k) + 4294967296 ^ k * x := by
 rw [Nt.val_seg,Nt.seg_set,Nt.getD_set_self _ _ _ h]
theorem Nt.val_split (ws : List Nat) (j n : Nat) (h : j + n ≤ ws.length) : Nt.val ws = Nt.val (ws.take j) + 4294967296 ^ j * (Nt.val ((ws.drop j).take n) + 4294967296 ^ n * Nt.val (ws.drop (j + n))) := by
 conv => lhs; rw [← List.take_append_drop j ws,← List.take_append_drop n (ws.drop j)]
 rw [Nt.val_append,Nt.val_append,List.drop_drop,List.length_take,List.length_take,List.length_drop,Nat.min_eq_left (by omega),Nat.min_eq_left (by omega)]
theorem Nt.sub_step {u0 us d : List Nat} {j k t c o x o' : Nat} (h : Nt.val ((u0.drop j).take k) + 4294967296 ^ k * (c + o) = Nt.val ((us.drop j).take k) + t * Nt.val (d.take k)) (hx : x + (c + t * d.getD k 0) % 4294967296 + o = u0.getD (j + k) 0 + 4294967296 * o') (hk : j + k < us.length) :
 Nt.val ((u0.drop j).take (k + 1)) + 4294967296 ^ (k + 1) * ((c + t * d.getD k 0) / 4294967296 + o') = Nt.val (((us.set (j + k) x).drop j).take (k + 1)) + t * Nt.val (d.take (k + 1)) := by
 rw [Nt.val_seg_set _ _ _ _ hk,Nt.val_seg,Nt.val_take_step d,Nat.pow_succ]
 have e := Nat.mod_add_div (c + t * d.getD k 0) 4294967296
 generalize u0.getD (j + k) 0 = uu at *
 generalize 4294967296 ^ k = P at *
 have e1 : t * (Nt.val (d.take k) + P * d.getD k 0) = t * Nt.val (d.take k) + P * (t * d.getD k 0) := by
  rw [Nat.mul_add,Nat.mul_left_comm]
 rw [e1]
 generalize t * d.getD k 0 = p at *
 generalize (c + p) % 4294967296 = m at *
 generalize (c + p) / 4294967296 = q at *
 have e2 : P * x + P * m + P * o = P * uu + P * 4294967296 * o' := by
  rw [Nat.mul_assoc,← Nat.mul_add,← Nat.mul_add,← Nat.mul_add,hx]
 have e3 : P * m + P * 4294967296 * q = P * c + P * p := by
  rw [Nat.mul_assoc,← Nat.mul_add,e,Nat.mul_add]
 have e4 : P * 4294967296 * (q + o') = P * 4294967296 * q + P * 4294967296 * o' := Nat.mul_add _ _ _
 have e5 : P * (c + o) = P * c + P * o := Nat.mul_add _ _ _
 omega
theorem Nt.back_step {u0 us d : List Nat} {j k c : Nat} (h : Nt.val ((us.drop j).take k) + 4294967296 ^ k * c = Nt.val ((u0.drop j).take k) + Nt.val (d.take k)) (hk : j + k < us.length) :
 Nt.val (((us.set (j + k) ((u0.getD (j + k) 0 + d.getD k 0 + c) % 4294967296)).drop j).take (k + 1)) + 4294967296 ^ (k + 1) * ((u0.getD (j + k) 0 + d.getD k 0 + c) / 4294967296) = Nt.val ((u0.drop j).take (k + 1)) + Nt.val (d.take (k + 1)) := by
 rw [Nt.val_seg_set _ _ _ _ hk,Nt.val_seg,Nt.val_take_step d,Nat.pow_succ]
 have e := Nat.mod_add_div (u0.getD (j + k) 0 + d.getD k 0 + c) 4294967296
 generalize u0.getD (j + k) 0 = x at *
 generalize d.getD k 0 = y at *
 generalize (x + y + c) % 4294967296 = m at *
 generalize (x + y + c) / 4294967296 = q at *
 generalize 4294967296 ^ k = P at *
 have e2 : P * m + P * 4294967296 * q = P * x + P * y + P * c := by
  rw [Nat.mul_assoc,← Nat.mul_add,e,Nat.mul_add,Nat.mul_add]
 omega
theorem Nt.up_step {a ws : List Nat} {i s c : Nat} (hs : s < 32) (hx : a.getD i 0 < 4294967296) (h : Nt.val (ws.take i) + 4294967296 ^ i * c = Nt.val (a.take i) * 2 ^ s) (hc : c < 2 ^ s) (hi : i < ws.length) :
 c + a.getD i 0 * 2 ^ s % 4294967296 < 4294967296 ∧ a.getD i 0 * 2 ^ s / 4294967296 < 2 ^ s ∧
 Nt.val ((ws.set i (c + a.getD i 0 * 2 ^ s % 4294967296)).take (i + 1)) + 4294967296 ^ (i + 1) * (a.getD i 0 * 2 ^ s / 4294967296) = Nt.val (a.take (i + 1)) * 2 ^ s := by
 rw [Nt.val_set_take _ _ _ hi,Nt.val_take_step a]
 generalize a.getD i 0 = x at *
 have hd : 2 ^ s * 2 ^ (32 - s) = 4294967296 := by rw [← Nat.pow_add,show s + (32 - s) = 32 by omega]
 have hp := Nat.two_pow_pos s
 have hm : x * 2 ^ s % 4294967296 = (x % 2 ^ (32 - s)) * 2 ^ s := by
  rw [← hd,Nat.mul_comm x,Nat.mul_mod_mul_left,Nat.mul_comm]
 have h1 : x % 2 ^ (32 - s) + 1 ≤ 2 ^ (32 - s) := Nat.mod_lt _ (Nat.two_pow_pos _)
 have h2 : (x % 2 ^ (32 - s) + 1) * 2 ^ s ≤ 2 ^ (32 - s) * 2 ^ s := Nat.mul_le_mul_right _ h1
 rw [Nat.add_mul,Nat.one_mul,Nat.mul_comm (2 ^ (32 - s)),hd] at h2
 refine ⟨by omega,?_,?_⟩
 · rw [Nat.div_lt_iff_lt_mul (by decide),Nat.mul_comm];exact (Nat.mul_lt_mul_left hp).2 hx
 · have e := Nat.mod_add_div (x * 2 ^ s) 4294967296;rw [Nat.add_mul,Nat.pow_succ,Nat.mul_assoc (4294967296 ^ i) x];generalize x * 2 ^ s = y at *;generalize y % 4294967296 = m at *;generalize y / 4294967296 = q at *;generalize 4294967296 ^ i = P at *;have e2 : P * m + P * 4294967296 * q = P * y := by rw [Nat.mul_assoc,← Nat.mul_add,e]
   rw [Nat.mul_add];omega
theorem Nt.val_seg_lt {u : List Nat} (hu : Nt.Wd u) (j n : Nat) : Nt.val ((u.drop j).take n) < 4294967296 ^ n := by
 have hw : Nt.Wd ((u.drop j).take n) := fun x hx => hu x (List.mem_of_mem_drop (List.mem_of_mem_take hx));have h := Nt.val_lt _ hw;exact Nat.lt_of_lt_of_le h (Nat.pow_le_pow_right (by decide) (by rw [List.length_take]; omega))
theorem Nt.round_seg {u : List Nat} {j n D : Nat} (hu : Nt.Wd u) (hj : j + n < u.length) (hU : Nt.val u < D * 4294967296 ^ (j + 1)) (hD : D < 4294967296 ^ n) :
 Nt.val u = Nt.val (u.take j) + 4294967296 ^ j * Nt.val ((u.drop j).take (n + 1)) ∧ Nt.val ((u.drop j).take (n + 1)) < D * 4294967296 ∧ Nt.val (u.drop (j + (n + 1))) = 0 := by
 have hs := Nt.val_split u j (n + 1) (by omega)
 have hz : Nt.val (u.drop (j + (n + 1))) = 0 := by
  rcases Nat.eq_zero_or_pos (Nt.val (u.drop (j + (n + 1)))) with h | h
  · exact h
  · exfalso;have h1 : D * 4294967296 ^ (j + 1) ≤ 4294967296 ^ n * 4294967296 ^ (j + 1) := Nat.mul_le_mul_right _ (by omega);rw [← Nat.pow_add] at h1;have h2 : 4294967296 ^ j * (4294967296 ^ (n + 1) * 1) ≤ 4294967296 ^ j * (Nt.val ((u.drop j).take (n + 1)) + 4294967296 ^ (n + 1) * Nt.val (u.drop (j + (n + 1)))) :=
     Nat.mul_le_mul_left _ (Nat.le_trans (Nat.mul_le_mul_left _ h) (Nat.le_add_left _ _))
    rw [Nat.mul_one,← Nat.pow_add,show j + (n + 1) = n + (j + 1) by omega] at h2;rw [show n + (j + 1) = j + (n + 1) by omega] at h2 h1;omega
 rw [hz,Nat.mul_zero,Nat.add_zero] at hs
 refine ⟨hs,?_,hz⟩
 have hp : 0 < 4294967296 ^ j := Nat.pow_pos (by decide)
 have h3 : 4294967296 ^ j * Nt.val ((u.drop j).take (n + 1)) < 4294967296 ^ j * (D * 4294967296) := by
  have e : D * 4294967296 ^ (j + 1) = 4294967296 ^ j * (D * 4294967296) := by
   rw [Nat.pow_succ,Nat.mul_left_comm]
  omega
 exact Nat.lt_of_mul_lt_mul_left h3
theorem Nt.round_top {u d : List Nat} {j m : Nat} (hu : Nt.Wd u) (hd : Nt.Wd d) (hdl : d.length = m + 2) (hS : Nt.val ((u.drop j).take (m + 3)) < Nt.val d * 4294967296) :
 Nt.val d = (d.getD (m + 1) 0 * 4294967296 + d.getD m 0) * 4294967296 ^ m + Nt.val (d.take m) ∧ Nt.val (d.take m) < 4294967296 ^ m ∧
 Nt.val ((u.drop j).take (m + 3)) = ((u.getD (j + (m + 2)) 0 * 4294967296 + u.getD (j + (m + 1)) 0) * 4294967296 + u.getD (j + m) 0) * 4294967296 ^ m + Nt.val ((u.drop j).take m) ∧ Nt.val ((u.drop j).take m) < 4294967296 ^ m ∧
 u.getD (j + (m + 2)) 0 ≤ d.getD (m + 1) 0 := by
 have e1 : Nt.val d = (d.getD (m + 1) 0 * 4294967296 + d.getD m 0) * 4294967296 ^ m + Nt.val (d.take m) := by
  conv => lhs; rw [← List.take_length (l := d),hdl,Nt.val_take_step,Nt.val_take_step,Nat.pow_succ]
  rw [Nat.add_mul];have : d.getD (m + 1) 0 * 4294967296 * 4294967296 ^ m = 4294967296 ^ m * 4294967296 * d.getD (m + 1) 0 := by
   rw [Nat.mul_comm,Nat.mul_comm (d.getD (m + 1) 0),Nat.mul_assoc]
  rw [this,Nat.mul_comm (d.getD m 0)];omega
 have l1 : Nt.val (d.take m) < 4294967296 ^ m := by
  have := Nt.val_lt _ (hd.take m);exact Nat.lt_of_lt_of_le this (Nat.pow_le_pow_right (by decide) (by rw [List.length_take]; omega))
 have l2 := Nt.val_seg_lt hu j m
 have l3 := Nt.val_seg_lt hu j (m + 2)
 have e2 : Nt.val ((u.drop j).take (m + 3)) = ((u.getD (j + (m + 2)) 0 * 4294967296 + u.getD (j + (m + 1)) 0) * 4294967296 + u.getD (j + m) 0) * 4294967296 ^ m + Nt.val ((u.drop j).take m) := by
  rw [Nt.val_seg,Nt.val_seg,Nt.val_seg,Nat.pow_succ (m := m + 1),Nat.pow_succ (m := m)];generalize u.getD (j + (m + 2)) 0 = a;generalize u.getD (j + (m + 1)) 0 = b;generalize u.getD (j + m) 0 = c;generalize 4294967296 ^ m = P;rw [Nat.add_mul,Nat.add_mul,Nat.add_mul];have h1 : P * 4294967296 * 4294967296 * a = a * 4294967296 * 4294967296 * P := by
   rw [Nat.mul_comm,Nat.mul_comm P 4294967296,Nat.mul_assoc 4294967296 P,Nat.mul_comm P 4294967296,← Nat.mul_assoc,← Nat.mul_assoc]
  have h2 : P * 4294967296 * b = b * 4294967296 * P := by
   rw [Nat.mul_comm,Nat.mul_comm P,← Nat.mul_assoc]
  rw [h1,h2,Nat.mul_comm P c];omega
 refine ⟨e1,l1,e2,l2,?_⟩
 rcases Nat.lt_or_ge (d.getD (m + 1) 0) (u.getD (j + (m + 2)) 0) with h | h
 · exfalso;have s1 : Nt.val ((u.drop j).take (m + 3)) = Nt.val ((u.drop j).take (m + 2)) + 4294967296 ^ (m + 2) * u.getD (j + (m + 2)) 0 := Nt.val_seg u j (m + 2);have s2 : Nt.val d = Nt.val (d.take (m + 1)) + 4294967296 ^ (m + 1) * d.getD (m + 1) 0 := by
    conv => lhs; rw [← List.take_length (l := d),hdl,Nt.val_take_step]
   have l4 : Nt.val (d.take (m + 1)) < 4294967296 ^ (m + 1) := by
    have := Nt.val_lt _ (hd.take (m + 1));exact Nat.lt_of_lt_of_le this (Nat.pow_le_pow_right (by decide) (by rw [List.length_take]; omega))
   have h5 : 4294967296 ^ (m + 2) * (d.getD (m + 1) 0 + 1) ≤ 4294967296 ^ (m + 2) * u.getD (j + (m + 2)) 0 := Nat.mul_le_mul_left _ h;rw [show m + 2 = (m + 1) + 1 from rfl,Nat.pow_succ] at h5 s1;rw [Nat.mul_assoc,Nat.mul_assoc] at h5;rw [Nat.mul_assoc] at s1;generalize 4294967296 ^ (m + 1) = P at *;generalize d.getD (m + 1) 0 = y at *;generalize u.getD (j + (m + 1 + 1)) 0 = x at *;have h6 : P * (4294967296 * (y + 1)) = P * y * 4294967296 + P * 4294967296 := by
    rw [show 4294967296 * (y + 1) = y * 4294967296 + 4294967296 by omega,Nat.mul_add,← Nat.mul_assoc]
   omega
 · exact h
theorem Nt.round_fits {u us d : List Nat} {j n t c o : Nat} (h : Nt.val ((u.drop j).take n) + 4294967296 ^ n * (c + o) = Nt.val ((us.drop j).take n) + t * Nt.val (d.take n)) (hd : d.length = n) (hl : j + n < us.length) (hco : c + o ≤ u.getD (j + n) 0) :
 Nt.val (((us.set (j + n) (u.getD (j + n) 0 - c - o)).drop j).take (n + 1)) + t * Nt.val d = Nt.val ((u.drop j).take (n + 1)) := by
 rw [Nt.val_seg_set _ _ _ _ hl,Nt.val_seg]
 rw [List.take_of_length_le (l := d) (by omega)] at h
 generalize u.getD (j + n) 0 = x at *
 have : 4294967296 ^ n * x = 4294967296 ^ n * (x - c - o) + 4294967296 ^ n * (c + o) := by
  rw [← Nat.mul_add]; congr 1; omega
 omega
theorem Nt.round_back {u us ub d : List Nat} {j n t c o cc : Nat} (hus : Nt.Wd us) (hub : Nt.Wd ub) (h : Nt.val ((u.drop j).take n) + 4294967296 ^ n * (c + o) = Nt.val ((us.drop j).take n) + t * Nt.val (d.take n)) (hd : d.length = n) (hl : j + n < ub.length) (hco : ¬ c + o ≤ u.getD (j + n) 0)
 (hb : Nt.val ((ub.drop j).take n) + 4294967296 ^ n * cc = Nt.val ((us.drop j).take n) + Nt.val (d.take n)) (hcc : cc ≤ 1) (hg : t * Nt.val d < Nt.val ((u.drop j).take (n + 1)) + Nt.val d) (hdl : Nt.val d < 4294967296 ^ n) (hc : c < 4294967296) (ho : o ≤ 1) :
 cc = 1 ∧ u.getD (j + n) 0 + 1 = c + o ∧ 1 ≤ t ∧ Nt.val ((u.drop j).take (n + 1)) < t * Nt.val d ∧ Nt.val (((ub.set (j + n) 0).drop j).take (n + 1)) + (t - 1) * Nt.val d = Nt.val ((u.drop j).take (n + 1)) := by
 rw [Nt.val_seg_set _ _ _ _ hl,Nt.val_seg,Nat.mul_zero,Nat.add_zero]
 rw [Nt.val_seg] at hg
 rw [List.take_of_length_le (l := d) (by omega)] at h hb
 have l1 := Nt.val_seg_lt hus j n
 have l2 := Nt.val_seg_lt hub j n
 generalize u.getD (j + n) 0 = x at *
 generalize Nt.val ((u.drop j).take n) = A at *
 generalize Nt.val ((us.drop j).take n) = S at *
 generalize Nt.val ((ub.drop j).take n) = R at *
 generalize Nt.val d = D at *
 generalize 4294967296 ^ n = P at *
 have e : P * (c + o) = P * x + P * (c + o - x) := by rw [← Nat.mul_add]; congr 1; omega
 have hx : x + 1 = c + o := by
  rcases Nat.lt_or_ge (c + o - x) 2 with h2 | h2
  · omega
  · exfalso;have := Nat.mul_le_mul_left P h2;omega
 rw [show c + o - x = 1 by omega,Nat.mul_one] at e
 have ht : 1 ≤ t := by
  rcases Nat.eq_zero_or_pos t with h0 | h0
  · subst h0; simp at h; omega
  · exact h0
 have et : t * D = (t - 1) * D + D := by rw [← Nat.succ_mul]; congr 1; omega
 have hc1 : cc = 1 := by
  rcases Nat.eq_zero_or_pos cc with h0 | h0
  · subst h0; simp at hb; omega
  · omega
 subst hc1
 exact ⟨rfl,hx,ht,by omega,by omega⟩
theorem Nt.round_end {u un d : List Nat} {j n t A Q : Nat} (hA : A = Nt.val d * Q + Nt.val u) (hu : Nt.Wd u) (hn : j + n < u.length) (hl : un.length = u.length) (h1 : un.take j = u.take j) (h2 : un.drop (j + (n + 1)) = u.drop (j + (n + 1))) (hU : Nt.val u < Nt.val d * 4294967296 ^ (j + 1)) (hD : Nt.val d < 4294967296 ^ n)
 (he : Nt.val ((un.drop j).take (n + 1)) + t * Nt.val d = Nt.val ((u.drop j).take (n + 1))) (hs : Nt.val ((un.drop j).take (n + 1)) < Nt.val d) :
 A = Nt.val d * (Q + 4294967296 ^ j * t) + Nt.val un ∧ Nt.val un < Nt.val d * 4294967296 ^ j := by
 obtain ⟨s1,s2,s3⟩ := Nt.round_seg hu hn hU hD
 have s4 := Nt.val_split un j (n + 1) (by omega)
 rw [h1,h2,s3,Nat.mul_zero,Nat.add_zero] at s4
 have l1 := Nt.val_lt _ (hu.take j)
 have l2 : 4294967296 ^ (u.take j).length ≤ 4294967296 ^ j := Nat.pow_le_pow_right (by decide) (by rw [List.length_take]; omega)
 generalize Nt.val (u.take j) = T at *
 generalize Nt.val ((un.drop j).take (n + 1)) = S at *
 generalize Nt.val ((u.drop j).take (n + 1)) = R at *
 generalize Nt.val d = D at *
 generalize 4294967296 ^ j = P at *
 refine ⟨?_,?_⟩
 · rw [hA,s1,s4,← he,Nat.mul_add,Nat.mul_add,Nat.mul_left_comm D P t,Nat.mul_comm t D];omega
 · have : P * (S + 1) ≤ P * D := Nat.mul_le_mul_left _ hs;rw [Nat.mul_add,Nat.mul_one] at this;rw [Nat.mul_comm D P];omega
theorem Nt.round_last {a b s D Q U : Nat} (hD : D = b * 2 ^ s) (hb : 0 < b) (hA : a * 2 ^ s = D * Q + U) (hU : U < D * 4294967296 ^ 0) : Q = a / b ∧ U / 2 ^ s = a % b := by
 rw [Nat.pow_zero,Nat.mul_one] at hU;have hp := Nat.two_pow_pos s;have hD0 : 0 < D := hD ▸ Nat.mul_pos hb hp;have hq : Q = a * 2 ^ s / D := by rw [hA,Nat.mul_add_div hD0,Nat.div_eq_of_lt hU,Nat.add_zero]
 have hr : U = a * 2 ^ s % D := by rw [hA,Nat.mul_add_mod,Nat.mod_eq_of_lt hU]
 rw [hD,Nat.mul_div_mul_right _ _ hp] at hq;rw [hD,Nat.mul_mod_mul_right] at hr;exact ⟨hq,by rw [hr,Nat.mul_div_cancel _ hp]⟩
theorem Nt.guess_up {U D v1 v2 lo dlo t rest u01 u2 P : Nat} (hD : D = (v1 * 4294967296 + v2) * P + dlo) (hdlo : dlo < P) (hU : U = (u01 * 4294967296 + u2) * P + lo) (he : t * v1 + rest = u01) (hv1 : 0 < v1) (ht : t ≤ 4294967295) (h : t * v2 ≤ rest * 4294967296 + u2) : t * D < U + D := by
 subst he;exact Nt.guess_ok hD hdlo hv1 hU ht h
theorem Nt.guess_rest {S t D U : Nat} (h : S + t * D = U) (hg : U / D ≤ t) (hD : 0 < D) : S < D := by
 have h1 := Nat.lt_div_mul_add hD (a := U);have h2 := Nat.mul_le_mul_right D hg;omega
theorem Nt.set_low {qs : List Nat} {j t : Nat} (h : ∀ i,i < j + 1 → qs.getD i 0 = 0) : ∀ i,i < j → (qs.set j t).getD i 0 = 0 := fun i hi => by
 rw [Nt.getD_set_ne _ _ _ _ (by omega)];exact h i (by omega)
theorem Nt.set_quot {qs : List Nat} {j t A D u : Nat} (hA : A = D * (Nt.val qs + 4294967296 ^ j * t) + u) (h : ∀ i,i < j + 1 → qs.getD i 0 = 0) (hj : j < qs.length) : A = D * Nt.val (qs.set j t) + u := by
 have := Nt.val_set qs j t hj;rw [h j (by omega),Nat.mul_zero,Nat.add_zero] at this;rw [this];exact hA
theorem Nt.val_take_of {us : List Nat} {n : Nat} (hw : Nt.Wd us) (hn : n ≤ us.length) (h : Nt.val us < 4294967296 ^ n) : Nt.val (us.take n) = Nt.val us := by
 have e := Nt.val_append (us.take n) (us.drop n);rw [List.take_append_drop,List.length_take,Nat.min_eq_left hn] at e;rcases Nat.eq_zero_or_pos (Nt.val (us.drop n)) with h0 | h0
 · rw [h0,Nat.mul_zero] at e; omega
 · have := Nat.mul_le_mul_left (4294967296 ^ n) h0;omega
theorem Nt.guess_down {U D v1 v2 lo dlo t rest u01 u2 P : Nat} (hD : D = (v1 * 4294967296 + v2) * P + dlo) (hU : U = (u01 * 4294967296 + u2) * P + lo) (hlo : lo < P) (he : t * v1 + rest = u01) (h : rest * 4294967296 + u2 < t * v2) : U / D < t := by
 subst he;have := Nt.guess_dec (t := t) (rest := rest) hD hU hlo h;exact Nat.div_lt_of_lt_mul (by rw [Nat.mul_comm]; exact this)
theorem Nt.guess_big {U D v1 v2 lo dlo u01 u2 P q : Nat} (hD : D = (v1 * 4294967296 + v2) * P + dlo) (hdlo : dlo < P) (hU : U = (u01 * 4294967296 + u2) * P + lo) (hlo : lo < P) (hv1 : 0 < v1) (hu2 : u2 < 4294967296) (hq : q * D ≤ U) : q ≤ u01 / v1 := by
 refine Nt.guess_start (P2 := 4294967296 * P) (dlo := v2 * P + dlo) (lo := u2 * P + lo) (r1 := u01) (u2 := 0) (P := 0) ?_ ?_ ?_ hq hv1
 · rw [hD,Nat.add_mul,Nat.mul_assoc]; omega
 · rw [hU,Nat.add_mul,Nat.mul_assoc]; omega
 · have := Nat.mul_le_mul_right P (Nat.le_of_lt_succ hu2 : u2 ≤ 4294967295);omega
theorem Nt.take_set_ge (ws : List Nat) (j k x : Nat) : (ws.set (j + k) x).take j = ws.take j := Nt.set_take _ _ _ _ (by omega)
theorem Nt.drop_set_lt (ws : List Nat) (i k x : Nat) (h : i < k) : (ws.set i x).drop k = ws.drop k := by
 rw [List.drop_set,if_pos h]
theorem Nt.drop_getD {us u : List Nat} {j i : Nat} (h : us.drop j = u.drop j) (hi : j ≤ i) : us.getD i 0 = u.getD i 0 := by
 have e : ∀ l : List Nat,l.getD i 0 = (l.drop j).getD (i - j) 0 := fun l => by
  rw [List.getD_eq_getElem?_getD,List.getD_eq_getElem?_getD,List.getElem?_drop,show j + (i - j) = i by omega]
 rw [e us,e u,h]
theorem Nt.drop_more {us u : List Nat} {j k : Nat} (h : us.drop j = u.drop j) (hk : j ≤ k) : us.drop k = u.drop k := by
 have e : ∀ l : List Nat,l.drop k = (l.drop j).drop (k - j) := fun l => by rw [List.drop_drop]; congr 1; omega
 rw [e us,e u,h]
theorem Nt.down_word (x y s : Nat) (hs : s < 32) (hx : x < 4294967296) (hy : y < 4294967296) : (x + 4294967296 * y) / 2 ^ s % 4294967296 = x / 2 ^ s + y % 2 ^ s * 2 ^ (32 - s) := by
 have hd : 2 ^ s * 2 ^ (32 - s) = 4294967296 := by rw [← Nat.pow_add,show s + (32 - s) = 32 by omega]
 have hp := Nat.two_pow_pos s;have hp2 := Nat.two_pow_pos (32 - s);have e1 : (x + 4294967296 * y) / 2 ^ s = x / 2 ^ s + y * 2 ^ (32 - s) := by
  rw [← hd,show x + 2 ^ s * 2 ^ (32 - s) * y = x + 2 ^ s * (y * 2 ^ (32 - s)) by rw [Nat.mul_assoc,Nat.mul_comm (2 ^ (32 - s)) y],Nat.add_mul_div_left _ _ hp]
 have l1 : x / 2 ^ s < 2 ^ (32 - s) := by
  rw [Nat.div_lt_iff_lt_mul hp,Nat.mul_comm,hd]; exact hx
 have e2 : y * 2 ^ (32 - s) % 4294967296 = y % 2 ^ s * 2 ^ (32 - s) := by
  rw [← hd,Nat.mul_mod_mul_right]
 have l2 : y % 2 ^ s * 2 ^ (32 - s) + 2 ^ (32 - s) ≤ 4294967296 := by
  have h1 : (y % 2 ^ s + 1) * 2 ^ (32 - s) ≤ 2 ^ s * 2 ^ (32 - s) := Nat.mul_le_mul_right _ (Nat.mod_lt _ hp);rw [Nat.add_mul,Nat.one_mul,hd] at h1;exact h1
 rw [e1,Nat.add_mod,e2,Nat.mod_eq_of_lt (by omega : x / 2 ^ s < 4294967296),Nat.mod_eq_of_lt (by omega)]
theorem Nt.down_val : ∀ (ws : List Nat) (s : Nat),s < 32 → Nt.Wd ws → ∀ os : List Nat,os.length = ws.length → (∀ i,i < ws.length → os.getD i 0 = ws.getD i 0 / 2 ^ s + ws.getD (i + 1) 0 % 2 ^ s * 2 ^ (32 - s)) → Nt.val os = Nt.val ws / 2 ^ s
 | [],s,hs,_,os,hl,_ => by
   obtain rfl : os = [] := List.eq_nil_of_length_eq_zero hl;simp [Nt.val]
 | x :: xs,s,hs,hw,os,hl,h => by
   obtain ⟨o,rest,rfl⟩ : ∃ o rest,os = o :: rest := by cases os with | nil => simp at hl | cons o r => exact ⟨o,r,rfl⟩
   have ih := Nt.down_val xs s hs hw.tail rest (by simpa using hl) (fun i hi => by simpa using h (i + 1) (by simpa using hi));have h0 := h 0 (by simp);simp only [List.getD_cons_zero,Nat.zero_add,List.getD_cons_succ] at h0;rw [Nt.val,Nt.val,ih,h0];have hd : 2 ^ s * 2 ^ (32 - s) = 4294967296 := by rw [← Nat.pow_add,show s + (32 - s) = 32 by omega]
   have hp := Nat.two_pow_pos s;have e0 : xs.getD 0 0 % 2 ^ s = Nt.val xs % 2 ^ s := by
    cases xs with
    | nil => simp [Nt.val]
    | cons y ys =>
      rw [List.getD_cons_zero,Nt.val,← hd,Nat.mul_assoc,Nat.add_mul_mod_self_left]
   rw [e0];generalize Nt.val xs = V;have e1 : (x + 4294967296 * V) / 2 ^ s = x / 2 ^ s + V * 2 ^ (32 - s) := by
    rw [← hd,show x + 2 ^ s * 2 ^ (32 - s) * V = x + 2 ^ s * (V * 2 ^ (32 - s)) by rw [Nat.mul_assoc,Nat.mul_comm (2 ^ (32 - s)) V],Nat.add_mul_div_left _ _ hp]
   rw [e1];have e2 := Nat.mod_add_div V (2 ^ s);have e3 : V * 2 ^ (32 - s) = V % 2 ^ s * 2 ^ (32 - s) + 4294967296 * (V / 2 ^ s) := by
    conv => lhs; rw [← e2]
    rw [Nat.add_mul,Nat.mul_right_comm,hd]
   omega
end Go.Proofs.YteklhapffplohaaGreatDoor
