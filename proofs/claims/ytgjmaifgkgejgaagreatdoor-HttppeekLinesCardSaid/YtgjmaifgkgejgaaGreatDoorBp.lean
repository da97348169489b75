/- be.Put, be.Vec alone (for seats without readers): XBe as far as Vec. -/
import Derived.Test.YtgjmaifgkgejgaaGreatDoorProg
import Derived.Test.YtgjmaifgkgejgaaGreatDoorOps
set_option linter.unusedVariables false
set_option linter.unusedSimpArgs false
namespace Go.Proofs.YtgjmaifgkgejgaaGreatDoor.L
open Go.RowKit Go.Proofs

theorem info_u8 : (Tryz.prog.info? 5).map (fun i => (i.zero, i.size, i.bytes)) = some (some (.int .u8 0), 1, 1) := by kernel_rfl
theorem size_u8 : (Tryz.prog.info? 5).map (·.size) = some 1 := by kernel_rfl

def toU8 (x : Int) : UInt8 := UInt8.ofNat (x % 256).toNat
/-- The last s bytes of a number, the great ones first. -/
def be (n : Int) : Nat → List UInt8
  | 0 => []
  | s + 1 => be (n / 256) s ++ [toU8 n]
theorem u64_wrap_mod (n : Int) : IntKind.u64.wrap n = n % 18446744073709551616 := by simp [IntKind.wrap, IntKind.signed, IntKind.bits]

end Go.Proofs.YtgjmaifgkgejgaaGreatDoor.L
