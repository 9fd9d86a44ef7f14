/-
  The walks of package chars' functions of one character: pair, Up, Down, Letter, Digit, Blank compute the plain functions. No conditions but that the character is an int32. The walks of package chars' functions of one character, second text: Up, Down, Letter compute the plain functions. The only condition: the character is an int32. datum.First and datum.Rest of any character.
-/
import Derived.Test.YteklhapffplohaaGreatDoorRows
import Derived.WalkKit
import Derived.WalkSpells
import Derived.WalkLawsBesides
import Derived.Handy
import Derived.Test.YteklhapffplohaaGreatDoorVa
import Derived.Test.YteklhapffplohaaGreatDoorVd
import Derived.Test.YteklhapffplohaaGreatDoorVe
set_option linter.unusedVariables false
set_option linter.unusedSimpArgs false
namespace Go.Proofs.YteklhapffplohaaGreatDoor
open Go.RowKit
theorem Ch.ret3 {a b c d : Int} {x y : Bool} (p : Int × Int × Bool) (hp : p = (c,d,y)) (h1 : a = c) (h2 : b = d) (h3 : x = y) :
 Ending.returned (.tuple #[.int .i32 a,.int .i32 b,.bool x]) = .returned (.tuple #[.int .i32 p.1,.int .i32 p.2.1,.bool p.2.2]) := by
 subst hp h1 h2 h3; rfl
set_option maxHeartbeats 4000000
set_option maxRecDepth 100000
theorem Ch.pair_any (r : Int) (w : World) :
 Calls Tryz.prog 135 #[.int .i32 r] w fun e w' => e = .returned (.tuple #[.int .i32 (Ch.pairZ r).1,.int .i32 (Ch.pairZ r).2.1,.bool (Ch.pairZ r).2.2]) ∧ w = w' := by
 go_enter Tryz.func135,Tryz.ntmps135
 go_wp2
 all_goals
  go_ret3
  refine ⟨?_,rfl⟩
  simp only [bne_iff_ne,bne_eq_false_iff_eq,ne_eq] at *
  first
   | exact Ch.ret3 _ (Ch.pairZ_1 (by unfold Ch.p1; omega)) rfl rfl rfl
   | exact Ch.ret3 _ (Ch.pairZ_2 (by unfold Ch.p1; omega) (by unfold Ch.p2; omega)) rfl rfl rfl
   | exact Ch.ret3 _ (Ch.pairZ_3 (by unfold Ch.p1; omega) (by unfold Ch.p2; omega) (by unfold Ch.p3; omega)) rfl rfl rfl
   | exact Ch.ret3 _ (Ch.pairZ_4 (by unfold Ch.p1; omega) (by unfold Ch.p2; omega) (by unfold Ch.p3; omega) (by unfold Ch.p4; omega)) rfl rfl rfl
   | exact Ch.ret3 _ (Ch.pairZ_5 (by unfold Ch.p1; omega) (by unfold Ch.p2; omega) (by unfold Ch.p3; omega) (by unfold Ch.p4; omega) (by unfold Ch.p5; omega)) (Ch.or_1 _ (by omega) (by omega)) (Ch.andNot_1 _ (by omega) (by omega)) rfl
   | exact Ch.ret3 _ (Ch.pairZ_6 (by unfold Ch.p1; omega) (by unfold Ch.p2; omega) (by unfold Ch.p3; omega) (by unfold Ch.p4; omega) (by unfold Ch.p5; omega) (by unfold Ch.p6; omega)) (by rw [Ch.and_1 _ (by omega) (by omega)]; unfold wrap32; omega) (by rw [Ch.and_1 _ (by omega) (by omega)]; unfold wrap32; omega) rfl
   | exact Ch.ret3 _ (Ch.pairZ_0 (by unfold Ch.p1; omega) (by unfold Ch.p2; omega) (by unfold Ch.p3; omega) (by unfold Ch.p4; omega) (by unfold Ch.p5; omega) (by unfold Ch.p6; omega)) rfl rfl rfl
set_option maxHeartbeats 1000000
set_option maxRecDepth 512
theorem Ch.letter_any (r : Int) (w : World) :
 Calls Tryz.prog 118 #[.int .i32 r] w fun e w' => e = .returned (.bool (Ch.letterB r)) ∧ w = w' := by
 go_enter Tryz.func118,Tryz.ntmps118
 go_wp2_with (go_at_call 135; refine (Ch.pair_any _ _).mono ?_; rintro e w' ⟨rfl,rfl⟩)
 all_goals
  go_ret
  refine ⟨?_,rfl⟩
  simp_all [Ch.letterB,Ch.oddLetter]
set_option maxHeartbeats 200000
def Wt.inA (r : Int) : Bool := decide (r = 33) || decide (r = 36) || decide (r = 37) || decide (r = 38) || decide (r = 42) || decide (r = 47) || decide (r = 58) || decide (r = 60) || decide (r = 61) || decide (r = 62) || decide (r = 63) || decide (r = 94) || decide (r = 95) || decide (r = 126)
def Wt.inB (r : Int) : Bool := decide (r = 43) || decide (r = 45) || decide (r = 46) || decide (r = 64)
set_option maxRecDepth 100000
theorem Wt.tabA : ∀ n : Fin 128,decide (0 ≤ Lib.indexByte Wt.cA.data.toList ((n.val : Int).toNat.toUInt8)) = Wt.inA (n.val : Int) := by decide +kernel
theorem Wt.tabB : ∀ n : Fin 128,decide (0 ≤ Lib.indexByte Wt.cB.data.toList ((n.val : Int).toNat.toUInt8)) = Wt.inB (n.val : Int) := by decide +kernel
theorem Wt.asc : (∀ i (h : i < Wt.cA.size),(Wt.cA[i]'h).toNat < 128) ∧ (∀ i (h : i < Wt.cB.size),(Wt.cB[i]'h).toNat < 128) := by decide
set_option maxRecDepth 512
theorem Wt.contains (s : ByteArray) (f : Int → Bool) (hs : (s = Wt.cA ∧ f = Wt.inA) ∨ (s = Wt.cB ∧ f = Wt.inB)) (r : Int) (h : Ru.okR r) (w : World) :
 Calls Tryz.prog 100 #[.string s,.int .i32 r] w fun e w' => e = .returned (.bool (f r)) ∧ Below w.heap.size w w' := by
 by_cases h1 : r < 128
 · have h0 : 0 ≤ r := by unfold Ru.okR at h; omega
   obtain ⟨n,rfl⟩ := Int.eq_ofNat_of_zero_le h0;refine (Tryz.strings_ContainsRune_ascii s n w h0 h1).mono ?_;rintro e w' ⟨rfl,rfl⟩;refine ⟨?_,Below.refl _ _⟩;rcases hs with ⟨rfl,rfl⟩ | ⟨rfl,rfl⟩
   · have := Wt.tabA ⟨n,by omega⟩;rw [← this]
   · have := Wt.tabB ⟨n,by omega⟩;rw [← this]
 · have KI : Calls Tryz.prog 69 #[.string s,.int .i32 r] w fun e w' => e = .returned (.int .i64 (-1)) ∧ Below w.heap.size w w' := by
    by_cases h2 : r = 65533
    · subst h2;refine Wt.indexRune_bad s ?_ w;rcases hs with ⟨rfl,_⟩ | ⟨rfl,_⟩
      · exact Wt.asc.1
      · exact Wt.asc.2
    · exact Wt.indexRune_hi s (by rcases hs with ⟨h3,_⟩ | ⟨h3,_⟩; exact .inl h3; exact .inr h3) r h (by omega) h2 w
   have hf : f r = false := by
    rcases hs with ⟨_,rfl⟩ | ⟨_,rfl⟩
    · simp [Wt.inA]; omega
    · simp [Wt.inB]; omega
   clear hs;go_enter Tryz.func100,Tryz.ntmps100;go_wp2_with fail;refine KI.mono ?_;rintro e w1 ⟨rfl,hb⟩;go_wp2_with fail;go_ret;exact ⟨by rw [hf]; rfl,hb⟩
set_option maxHeartbeats 1000000
theorem Wt.First_any (r : Int) (h : Ru.okR r) (w : World) :
 Calls Tryz.prog 90 #[.int .i32 r] w fun e w' => e = .returned (.bool (Wt.firstB r)) ∧ Below w.heap.size w w' := by
 have KL := fun w' => Ch.letter_any r w'
 have KC := fun w' => Wt.contains Wt.cA Wt.inA (.inl ⟨rfl,rfl⟩) r h w'
 have KB := fun w' => Wt.blank_any r w'
 have hd : Wt.firstB r = (Ch.letterB r || Wt.inA r || (decide (127 < r) && !Ch.blankB r)) := rfl
 rw [hd]
 obtain ⟨x,hx⟩ : ∃ z,Ch.letterB r = z := ⟨_,rfl⟩
 obtain ⟨y,hy⟩ : ∃ z,Wt.inA r = z := ⟨_,rfl⟩
 obtain ⟨z,hz⟩ : ∃ z,Ch.blankB r = z := ⟨_,rfl⟩
 rw [hx] at KL ⊢
 rw [hy] at KC ⊢
 rw [hz] at KB ⊢
 clear hx hy hz hd h
 unfold Wt.cA at KC
 cases x
 all_goals cases y
 all_goals cases z
 all_goals
  go_enter Tryz.func90,Tryz.ntmps90
  go_wp2_with (first
    | (go_at_call 118; refine (KL _).mono ?_; rintro e w' ⟨rfl,rfl⟩)
    | (go_at_call 100; refine (KC _).mono ?_; rintro e w1 ⟨rfl,hb⟩)
    | (go_at_call 33; refine (KB _).mono ?_; rintro e w' ⟨rfl,rfl⟩))
 all_goals
  go_ret
  first
   | (refine ⟨Wt.retB (a := true) ?_,?_⟩
      · simp [*]
      · first | exact hb | exact Below.refl _ _)
   | (refine ⟨Wt.retB (a := false) ?_,?_⟩
      · first | rfl | (simp; done) | (simp; omega)
      · first | exact hb | exact Below.refl _ _)
theorem Wt.Rest_any (r : Int) (h : Ru.okR r) (w : World) :
 Calls Tryz.prog 91 #[.int .i32 r] w fun e w' => e = .returned (.bool (Wt.restB r)) ∧ Below w.heap.size w w' := by
 have KF := fun w' => Wt.First_any r h w'
 have KC := fun w' => Wt.contains Wt.cB Wt.inB (.inr ⟨rfl,rfl⟩) r h w'
 have hd : Wt.restB r = (Wt.firstB r || (decide (48 ≤ r) && decide (r ≤ 57)) || Wt.inB r) := rfl
 rw [hd]
 obtain ⟨x,hx⟩ : ∃ z,Wt.firstB r = z := ⟨_,rfl⟩
 obtain ⟨y,hy⟩ : ∃ z,Wt.inB r = z := ⟨_,rfl⟩
 rw [hx] at KF ⊢
 rw [hy] at KC ⊢
 clear hx hy hd h
 unfold Wt.cB at KC
 have h48 : r < 48 ∨ (48 ≤ r ∧ r ≤ 57) ∨ 57 < r := by omega
 rcases h48 with h48 | ⟨h48,h57⟩ | h57
 all_goals cases x
 all_goals cases y
 all_goals
  go_enter Tryz.func91,Tryz.ntmps91
  go_wp2_with (first
    | (go_at_call 90; refine (KF _).mono ?_; rintro e w1 ⟨rfl,hb⟩)
    | (go_at_call 100; refine (KC _).mono ?_; rintro e w2 ⟨rfl,hb2⟩))
 all_goals
  go_ret
  first
   | (refine ⟨Wt.retB (a := decide (r ≤ 57)) ?_,?_⟩
      · simp [*]
      · first | exact hb.trans (hb2.mono hb.size) | exact hb)
   | (refine ⟨Wt.retB (a := true) ?_,?_⟩
      · first | rfl | (simp [*]; done) | (simp [*]; omega)
      · first | exact hb.trans (hb2.mono hb.size) | exact hb)
   | (refine ⟨Wt.retB (a := false) ?_,?_⟩
      · first | rfl | (simp [*]; done) | (simp; omega) | (simp [*]; omega)
      · first | exact hb.trans (hb2.mono hb.size) | exact hb)
set_option maxHeartbeats 200000
def Dr.inC (r : Int) : Bool := decide (r = 40) || decide (r = 41) || decide (r = 91) || decide (r = 93) || decide (r = 34) || decide (r = 59)
set_option maxRecDepth 100000
theorem Dr.tabC : ∀ n : Fin 128,decide (0 ≤ Lib.indexByte Dr.cC.data.toList ((n.val : Int).toNat.toUInt8)) = Dr.inC (n.val : Int) := by decide +kernel
theorem Dr.ascC : (∀ i (h : i < Dr.cC.size),(Dr.cC[i]'h).toNat < 128) ∧ (∀ i (h : i < Dr.cD.size),(Dr.cD[i]'h).toNat < 128) := by decide
set_option maxRecDepth 512
theorem Dr.contains (r : Int) (h : Ru.okR r) (w : World) :
 Calls Tryz.prog 100 #[.string Dr.cC,.int .i32 r] w fun e w' => e = .returned (.bool (Dr.inC r)) ∧ Below w.heap.size w w' := by
 by_cases h1 : r < 128
 · have h0 : 0 ≤ r := by unfold Ru.okR at h; omega
   obtain ⟨n,rfl⟩ := Int.eq_ofNat_of_zero_le h0;refine (Tryz.strings_ContainsRune_ascii Dr.cC n w h0 h1).mono ?_;rintro e w' ⟨rfl,rfl⟩;refine ⟨?_,Below.refl _ _⟩;have := Dr.tabC ⟨n,by omega⟩;rw [← this]
 · have KI : Calls Tryz.prog 69 #[.string Dr.cC,.int .i32 r] w fun e w' => e = .returned (.int .i64 (-1)) ∧ Below w.heap.size w w' := by
    by_cases h2 : r = 65533
    · subst h2;exact Wt.indexRune_bad Dr.cC Dr.ascC.1 w
    · exact Dr.indexRune_hi Dr.cC (.inl rfl) r h (by omega) h2 w
   have hf : Dr.inC r = false := by
    simp [Dr.inC]; omega
   go_enter Tryz.func100,Tryz.ntmps100;go_wp2_with fail;refine KI.mono ?_;rintro e w1 ⟨rfl,hb⟩;go_wp2_with fail;go_ret;exact ⟨by rw [hf]; rfl,hb⟩
set_option maxHeartbeats 1000000
theorem Dr.delim_any (r : Int) (h : Ru.okR r) (w : World) :
 Calls Tryz.prog 71 #[.int .i32 r] w fun e w' => e = .returned (.bool (Dr.delim r)) ∧ Below w.heap.size w w' := by
 have KC := fun w' => Dr.contains r h w'
 have KB := fun w' => Wt.blank_any r w'
 have hd : Dr.delim r = (Ch.blankB r || Dr.inC r) := by unfold Dr.delim Dr.inC; simp only [Bool.or_assoc]
 rw [hd]
 obtain ⟨x,hx⟩ : ∃ z,Ch.blankB r = z := ⟨_,rfl⟩
 obtain ⟨y,hy⟩ : ∃ z,Dr.inC r = z := ⟨_,rfl⟩
 rw [hx] at KB ⊢
 rw [hy] at KC ⊢
 clear hx hy hd h
 unfold Dr.cC at KC
 cases x
 all_goals cases y
 all_goals
  go_enter Tryz.func71,Tryz.ntmps71
  go_wp2_with (first
    | (go_at_call 33; refine (KB _).mono ?_; rintro e w' ⟨rfl,rfl⟩)
    | (go_at_call 100; refine (KC _).mono ?_; rintro e w1 ⟨rfl,hb⟩))
 all_goals
  go_ret
  first
   | exact ⟨rfl,hb⟩
   | exact ⟨rfl,Below.refl _ _⟩
def Dr.escB : List UInt8 := [7,8,9,10,11,12,13,34,92]
set_option maxHeartbeats 200000
set_option maxRecDepth 100000
theorem Dr.tabD : ∀ n : Fin 128,(Lib.indexByte Dr.cD.data.toList ((n.val : Int).toNat.toUInt8) = -1 ∧ Dr.unesc (n.val : Int) = none) ∨ (0 ≤ Lib.indexByte Dr.cD.data.toList ((n.val : Int).toNat.toUInt8) ∧ Lib.indexByte Dr.cD.data.toList ((n.val : Int).toNat.toUInt8) < 9 ∧ Dr.unesc (n.val : Int) = Dr.escB[(Lib.indexByte Dr.cD.data.toList ((n.val : Int).toNat.toUInt8)).toNat]?) := by decide +kernel
set_option maxRecDepth 512
theorem Dr.unesc_hi {r : Int} (h : 128 ≤ r) : Dr.unesc r = none := by
 unfold Dr.unesc;repeat' (rw [if_neg (by omega)])
theorem Dr.indexD (r : Int) (h : Ru.okR r) (w : World) : ∃ k : Int,((k = -1 ∧ Dr.unesc r = none) ∨ (0 ≤ k ∧ k < 9 ∧ Dr.unesc r = Dr.escB[k.toNat]?)) ∧
 Calls Tryz.prog 69 #[.string Dr.cD,.int .i32 r] w fun e w' => e = .returned (.int .i64 k) ∧ Below w.heap.size w w' := by
 by_cases h1 : r < 128
 · have h0 : 0 ≤ r := by unfold Ru.okR at h; omega
   obtain ⟨n,rfl⟩ := Int.eq_ofNat_of_zero_le h0;refine ⟨_,Dr.tabD ⟨n,by omega⟩,(Tryz.strings_IndexRune_ascii Dr.cD n w h0 h1).mono ?_⟩;rintro e w' ⟨rfl,rfl⟩;exact ⟨rfl,Below.refl _ _⟩
 · refine ⟨-1,.inl ⟨rfl,Dr.unesc_hi (by omega)⟩,?_⟩;by_cases h2 : r = 65533
   · subst h2;exact Wt.indexRune_bad Dr.cD Dr.ascC.2 w
   · exact Dr.indexRune_hi Dr.cD (.inr rfl) r h (by omega) h2 w
end Go.Proofs.YteklhapffplohaaGreatDoor
