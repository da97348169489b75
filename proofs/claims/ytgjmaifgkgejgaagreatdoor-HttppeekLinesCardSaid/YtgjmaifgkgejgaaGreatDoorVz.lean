/- Layer 13: what the listed variables hold. -/
import Derived.Test.YtgjmaifgkgejgaaGreatDoorVf
import Derived.Test.YtgjmaifgkgejgaaGreatDoorOpen
import Derived.Test.YtgjmaifgkgejgaaGreatDoorRows
import Derived.ProofKit
import Derived.LaidMore
import Derived.Stop.Joined
import Derived.Stop.LaidErr
import Derived.Lib.LaidTab
set_option linter.unusedVariables false
set_option linter.unusedSimpArgs false
namespace Go.Proofs.YtgjmaifgkgejgaaGreatDoor.L
open Go.RowKit Go.ChangeShapes Go.WideShapes Go.Deep

theorem powP_of {W : World} {rest : List (String × DataW Unit)} (h : laidMet Tryz.prog (("internal/strconv.uint64pow10", Rows.laid_internal_strconv_uint64pow10) :: rest) W) : PowP W :=
  Lib.tabIs_of_head (zs := Lib.pow10Tab) (k := .u64) (t := 169) (e := 120) (n := 20) gPow (by kernel_rfl) (by kernel_rfl) (by kernel_rfl) (by kernel_rfl) (by kernel_rfl) h
theorem aheadP_of {W : World} {rest : List (String × DataW Unit)} (h : laidMet Tryz.prog (("hagioscope/addr.ahead", Rows.laid_hagioscope_addr_ahead) :: rest) W) : AheadP W :=
  Lib.tabIs_of_head (zs := aheadZ) (k := .u8) (t := 139) (e := 5) (n := 12) gAhead (by kernel_rfl) (by kernel_rfl) (by kernel_rfl) (by kernel_rfl) (by kernel_rfl) h
def bruZ : List Int := [0, 1, 56, 2, 57, 49, 28, 3, 61, 58, 42, 50, 38, 29, 17, 4, 62, 47, 59, 36, 45, 43, 51, 22, 53, 39, 33, 30, 24, 18, 12, 5,   63, 55, 48, 27, 60, 41, 37, 16, 46, 35, 44, 21, 52, 32, 23, 11, 54, 26, 40, 15, 34, 20, 31, 10, 25, 14, 19, 9, 13, 8, 7, 6]
theorem gBru : Tryz.prog.globalNamed "math/bits.deBruijn64tab" = some 8 := by kernel_rfl
theorem bruP_of {W : World} {rest : List (String × DataW Unit)} (h : laidMet Tryz.prog (("math/bits.deBruijn64tab", Rows.laid_math_bits_deBruijn64tab) :: rest) W) : BruP W := by
  have ht : Lib.TabIs Tryz.prog W "math/bits.deBruijn64tab" .u8 bruZ := Lib.tabIs_of_head (zs := bruZ) (k := .u8) (t := 189) (e := 5) (n := 64) gBru (by kernel_rfl) (by kernel_rfl) (by kernel_rfl) (by kernel_rfl) (by kernel_rfl) h
  exact Lib.TabIs.cell ht gBru 15 (by decide)
end Go.Proofs.YtgjmaifgkgejgaaGreatDoor.L
