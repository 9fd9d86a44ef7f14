/-
  Parts of WorldPlays's code, taken out of the translation by a function.
-/
import Derived.Test.YtdikkknjdbchbaaWpSt
namespace Go.Proofs.Ytdikkknjdbchbaa
open Go.RowKit
set_option linter.unusedVariables false
set_option linter.unusedSimpArgs false

def Wp.isReg (n : Nat) : Code → Bool
  | .region id _ _ => id == n
  | _ => false
def Wp.find (p : Code → Bool) : Code → Option Code
  | .seq a b => if p (.seq a b) = true then some (.seq a b) else match Wp.find p a with
    | some c => some c
    | none => Wp.find p b
  | .cond _ a b => match Wp.find p a with
    | some c => some c
    | none => Wp.find p b
  | .block _ c => Wp.find p c
  | .loop c => Wp.find p c
  | .scope c => Wp.find p c
  | .region id ops d => if p (.region id ops d) = true then some (.region id ops d) else none
  | _ => none
def Wp.at12 : Code → Bool
  | .seq a _ => Wp.isReg 12 a
  | _ => false
def Wp.left31 : Code → Bool
  | .seq a _ => Wp.isReg 31 a
  | _ => false
def Wp.at31 : Code → Bool
  | .seq a _ => Wp.left31 a
  | _ => false
noncomputable def Wp.r3 : Code := (Try.f4.body.bind (Wp.find (Wp.isReg 3))).getD .skip
noncomputable def Wp.sw : Code := (Try.f4.body.bind (Wp.find Wp.at12)).getD .skip
noncomputable def Wp.tl : Code := (Try.f4.body.bind (Wp.find Wp.at31)).getD .skip
end Go.Proofs.Ytdikkknjdbchbaa
