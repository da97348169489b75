/- Layer 12: what the laws' arguments read as. -/
import Derived.Test.YtgjmaifgkgejgaaGreatDoorFc
import Derived.Test.YtgjmaifgkgejgaaGreatDoorSh
import Derived.Test.YtgjmaifgkgejgaaGreatDoorWt
import Derived.Lib.SmallJoins
set_option linter.unusedVariables false
set_option linter.unusedSimpArgs false
namespace Go.Proofs.YtgjmaifgkgejgaaGreatDoor.L
open Go.RowKit Go.ChangeShapes Go.WideShapes Go.Deep

set_option maxRecDepth 10000 in
theorem fitW_fld : FitW Tryz.prog 46 fldK (fun x => x.1.size ≤ reachBytes ∧ x.2.size ≤ reachBytes) :=
  fitW_struct Tryz.underlying46 (by kernel_rfl) (fitFW_cons (fitW_str Tryz.underlying9) rfl (by kernel_rfl) (fitFW_one (fitW_str Tryz.underlying9) rfl (by kernel_rfl)))
set_option maxRecDepth 10000 in
theorem arg_fieldW {H : Type} {enc : TypeId × Value → H} {W : World} {base b0 : Nat} {r : Reach} {sp : Nat → Bool} {held : Bool} {dd : DataW H} {ps : List MemPlace} {v : Value}
    (hv : Value.okWide Tryz.prog W r b0 46 v) (h : DataW.Trod enc Tryz.prog W base sp held 46 v dd ps) (hw : ∀ n ∈ dd.weights Tryz.prog 46, n ≤ reachBytes) :
    ∃ n t : ByteArray, v = .agg #[.string n, .string t] ∧ n.size ≤ reachBytes ∧ t.size ≤ reachBytes := by
  obtain ⟨cs, ⟨n, t⟩, rfl, ⟨a, b, he, ha, hb⟩, h1, h2⟩ := argW_struct Tryz.underlying46 fitW_fld hv h hw
  obtain rfl : a = [.string n] := ha
  obtain rfl : b = [.string t] := hb
  obtain rfl : cs = #[.string n, .string t] := by
    apply Array.ext'
    rw [he]
    rfl
  exact ⟨n, t, rfl, h1, h2⟩
end Go.Proofs.YtgjmaifgkgejgaaGreatDoor.L
