/- Layer 2: the reference's numbers and texts. -/
import Derived.Test.YtdamgdmipfoalaaDoorAn
import Derived.Test.YtdamgdmipfoalaaDoorTx
set_option linter.unusedVariables false
set_option linter.unusedSimpArgs false
namespace Go.Proofs.YtdamgdmipfoalaaDoor.L
open Go.RowKit Go.Proofs

theorem numS_empty (l : List UInt8) (most : Int) (h : l.length = 0) : numS l most = (0, false) := by
  obtain rfl := List.eq_nil_of_length_eq_zero h
  rfl
theorem digR_of (c : UInt8) (h1 : 48 ≤ c.toNat) (h2 : c.toNat ≤ 57) : Lib.digitVal c = some (c.toNat - 48) := by
  unfold Lib.digitVal
  rw [if_pos ⟨h1, h2⟩]

end Go.Proofs.YtdamgdmipfoalaaDoor.L
