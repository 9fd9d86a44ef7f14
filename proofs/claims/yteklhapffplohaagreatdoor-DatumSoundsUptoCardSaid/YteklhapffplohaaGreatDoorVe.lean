/-
  strings.IndexRune of the reader's two constant texts: any character. The small functions that write uses: odd, CharName, of any character; the document's too.
-/
import Derived.Test.YteklhapffplohaaGreatDoorProg
import Derived.WalkKit
import Derived.WalkSpells
import Derived.WalkLawsBesides
import Derived.Handy
import Derived.Test.YteklhapffplohaaGreatDoorVd
import Derived.Test.YteklhapffplohaaGreatDoorVa
set_option linter.unusedVariables false
set_option linter.unusedSimpArgs false
namespace Go.Proofs.YteklhapffplohaaGreatDoor
open Go.RowKit
def Dr.cC : ByteArray := ⟨#[40,41,91,93,34,59]⟩
def Dr.cD : ByteArray := ⟨#[97,98,116,110,118,102,114,34,92]⟩
set_option maxHeartbeats 4000000
set_option maxRecDepth 1000000
theorem Dr.indexRune_hi (s : ByteArray) (hs : s = Dr.cC ∨ s = Dr.cD) (r : Int) (h : Ru.okR r) (h1 : 128 ≤ r) (h2 : r ≠ 65533) (w : World) :
 Calls Tryz.prog 69 #[.string s,.int .i32 r] w fun e w' => e = .returned (.int .i64 (-1)) ∧ Below w.heap.size w w' := by
 have hne : ((r : Int) == 65533) = false := beq_eq_false_iff_ne.2 h2
 have hr2 : r ≤ 2147483647 := by unfold Ru.okR at h; omega
 have hv : Lib.validRune r = true := by
  unfold Ru.okR at h;unfold Lib.validRune;simp only [Bool.or_eq_true,Bool.and_eq_true,decide_eq_true_eq];omega
 obtain ⟨g0,g1,g2,g3,g4⟩ := Wt.wr64
 have KV := fun w' => Tryz.utf8_ValidRune r w'
 rw [hv] at KV
 have henc := Sl.encode_eq r
 rcases Wt.enc_hi h h1 with ⟨a,c,e,hc⟩ | ⟨a,b,c,e,hc⟩ | ⟨a,b,d,c,e,hc⟩
 all_goals
  rw [e] at henc
  have d41 : ((41 : Int) = (c.toNat : Int)) = False := eq_false (by omega)
  have e41 : ((41 : Int) != (c.toNat : Int)) = true := bne_iff_ne.2 (by omega)
  have d91 : ((91 : Int) = (c.toNat : Int)) = False := eq_false (by omega)
  have e91 : ((91 : Int) != (c.toNat : Int)) = true := bne_iff_ne.2 (by omega)
  have d93 : ((93 : Int) = (c.toNat : Int)) = False := eq_false (by omega)
  have e93 : ((93 : Int) != (c.toNat : Int)) = true := bne_iff_ne.2 (by omega)
  have d98 : ((98 : Int) = (c.toNat : Int)) = False := eq_false (by omega)
  have e98 : ((98 : Int) != (c.toNat : Int)) = true := bne_iff_ne.2 (by omega)
  have d116 : ((116 : Int) = (c.toNat : Int)) = False := eq_false (by omega)
  have e116 : ((116 : Int) != (c.toNat : Int)) = true := bne_iff_ne.2 (by omega)
  have d110 : ((110 : Int) = (c.toNat : Int)) = False := eq_false (by omega)
  have e110 : ((110 : Int) != (c.toNat : Int)) = true := bne_iff_ne.2 (by omega)
  have KI := Lib.hid (fun (s : ByteArray) (hs : ∀ x ∈ s.data.toList,x.toNat < 128) w' => Wt.ib s c hs hc w')
  clear e hc
  rcases hs with rfl | rfl
 all_goals clear h hv
 all_goals first | unfold Dr.cC | unfold Dr.cD
 all_goals
  go_enter Tryz.func69,Tryz.ntmps69
  go_wp2_with (go_at_call 96; refine (KV _).mono ?_; rintro e w' ⟨rfl,rfl⟩)
  go_step3
  go_wp2_with fail
  refine wp_loop_rounds 1 ?_
  rw [rounds_succ]
  go_wp2_with fail
  go_step3
  go_wp2_with fail
  go_region
  all_goals go_wp2_with fail
  rotate_left
  · rename_i hx _ _;first
     | exact absurd ((show ((41 : Int) != (c.toNat : Int)) = false from hx).symm.trans e41) (by decide)
     | exact absurd ((show ((91 : Int) != (c.toNat : Int)) = false from hx).symm.trans e91) (by decide)
     | exact absurd ((show ((93 : Int) != (c.toNat : Int)) = false from hx).symm.trans e93) (by decide)
     | exact absurd ((show ((98 : Int) != (c.toNat : Int)) = false from hx).symm.trans e98) (by decide)
     | exact absurd ((show ((116 : Int) != (c.toNat : Int)) = false from hx).symm.trans e116) (by decide)
     | exact absurd ((show ((110 : Int) != (c.toNat : Int)) = false from hx).symm.trans e110) (by decide)
  go_region_held3 (fun wx => True) (trivial)
   (first
     | (go_at_call 95
        refine (KI.out _ (by decide) _).mono ?_
        rintro z2 w2 ⟨rfl,hw2⟩
        subst hw2))
  go_wp2_with fail
  rw [Exit.noGoto_ret]
  repeat (first | rw [Exit.noGoto_ret] | (simp only [Exit.inBlock,Exit.then]))
  go_ret
  exact ⟨rfl,Below.drew (Below.drew (Below.refl _ _))⟩
set_option maxHeartbeats 200000
set_option maxRecDepth 512
theorem Wt.retB {a b : Bool} (h : a = b) : Ending.returned (.bool a) = .returned (.bool b) := by rw [h]
set_option maxHeartbeats 4000000
theorem Wt.CharName_any (n : Int) (w : World) :
 Calls Tryz.prog 72 #[.int .i64 n] w fun e w' => e = .returned (.string ⟨(Wt.name n).toArray⟩) ∧ w = w' := by
 go_enter Tryz.func72,Tryz.ntmps72
 go_wp2
 all_goals
  go_ret
  refine ⟨?_,rfl⟩
  simp_all [Wt.name]
set_option maxHeartbeats 1000000
theorem Wt.blank_any (r : Int) (w : World) :
 Calls Tryz.prog 33 #[.int .i32 r] w fun e w' => e = .returned (.bool (Ch.blankB r)) ∧ w = w' := by
 go_enter Tryz.func33,Tryz.ntmps33
 go_wp2
 all_goals
  go_ret
  refine ⟨?_,rfl⟩
  simp_all [Ch.blankB]
end Go.Proofs.YteklhapffplohaaGreatDoor
