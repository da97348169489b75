/- Layer 12: the small case; the laws. -/
import Derived.Test.YtgjmaifgkgejgaaGreatDoorFc
import Derived.Test.YtgjmaifgkgejgaaGreatDoorKe
set_option linter.unusedVariables false
set_option linter.unusedSimpArgs false
namespace Go.Proofs.YtgjmaifgkgejgaaGreatDoor.L
open Go.RowKit Go.Proofs

def TrueV (w : World) (e : Ending) (w' : World) : Prop := e = .returned (.bool true) ∧ Stp (fun _ => False) w w'
end Go.Proofs.YtgjmaifgkgejgaaGreatDoor.L
