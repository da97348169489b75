/- Layer 12: a field is printed. (The regions' ways: gen_xfc.py.) -/
import Derived.Test.YtdamgdmipfoalaaGreatDoorFb
set_option linter.unusedVariables false
set_option linter.unusedSimpArgs false
namespace Go.Proofs.YtdamgdmipfoalaaGreatDoor.L
open Go.RowKit Go.Proofs

theorem beqS (x : List UInt8) (n : ByteArray) : ((strB x).toList == n.toList) = decide (x = n.data.toList) := by
  rw [ByteArray.toList_eq, ByteArray.toList_eq, Bool.eq_iff_iff]
  simp [strB]
def StrB2 (w : World) (r : List UInt8 × Bool) (e : Ending) (w' : World) : Prop := e = .returned (.tuple #[.string (strB r.1), .bool r.2]) ∧ Stp (fun _ => False) w w'

end Go.Proofs.YtdamgdmipfoalaaGreatDoor.L
