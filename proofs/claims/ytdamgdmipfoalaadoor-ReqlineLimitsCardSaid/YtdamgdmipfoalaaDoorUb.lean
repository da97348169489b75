/- Layer 11: the laws ReqlineTells, ReqlineBack. -/
import Derived.Test.YtdamgdmipfoalaaDoorUa
set_option linter.unusedVariables false
set_option linter.unusedSimpArgs false
namespace Go.Proofs.YtdamgdmipfoalaaDoor.L
open Go.RowKit Go.Proofs

end Go.Proofs.YtdamgdmipfoalaaDoor.L
