/- Layer 12: what the laws' arguments read as. -/
import Derived.Test.YtdamgdmipfoalaaGreatDoorFd
import Derived.Test.YtdamgdmipfoalaaGreatDoorSh
import Derived.Lib.SmallJoins
set_option linter.unusedVariables false
set_option linter.unusedSimpArgs false
namespace Go.Proofs.YtdamgdmipfoalaaGreatDoor.L
open Go.RowKit Go.ChangeShapes Go.WideShapes Go.Deep

theorem fit_fld : Fit Tryz.prog 31 fldK (fun x => x.1.size ≤ maxLen ∧ x.2.size ≤ maxLen) :=
  fit_struct Tryz.underlying31 (by kernel_rfl) (fitF_cons (fit_str Tryz.underlying9) rfl (by kernel_rfl) (fitF_one (fit_str Tryz.underlying9) rfl (by kernel_rfl)))
set_option maxRecDepth 10000 in
theorem arg_field {H : Type} {enc : TypeId × Value → H} {W : World} {base b0 : Nat} {r : Reach} {sp : Nat → Bool} {held : Bool} {dd : DataW H} {ps : List MemPlace} {v : Value}
    (hv : Value.okWide Tryz.prog W r b0 31 v) (h : DataW.Trod enc Tryz.prog W base sp held 31 v dd ps) :
    ∃ n t : ByteArray, v = .agg #[.string n, .string t] ∧ n.size ≤ maxLen ∧ t.size ≤ maxLen := by
  obtain ⟨v0, v1, y0, y1, n, rfl, -, -, h0, h1⟩ := Joins.open_agg2 Tryz.underlying31 (by kernel_rfl) (by kernel_rfl) hv h
  obtain ⟨a, ha, ka⟩ := fit_str (P := Tryz.prog) Tryz.underlying9 enc W base sp held n [v0] y0 h0
  obtain ⟨b, hb, kb⟩ := fit_str (P := Tryz.prog) Tryz.underlying9 enc W base sp held n [v1] y1 h1
  have e0 : v0 = .string a := by have : [v0] = [Value.string a] := ha; simpa using this
  have e1 : v1 = .string b := by have : [v1] = [Value.string b] := hb; simpa using this
  exact ⟨a, b, by rw [e0, e1], ka, kb⟩
end Go.Proofs.YtdamgdmipfoalaaGreatDoor.L
