/- Layer 11: what the laws' arguments read as. -/
import Derived.Test.YtgjmaifgkgejgaaGreatDoorFc
import Derived.Test.YtgjmaifgkgejgaaGreatDoorOpen
import Derived.Test.YtgjmaifgkgejgaaGreatDoorSh
import Derived.Lib.SmallJoins
set_option linter.unusedVariables false
set_option linter.unusedSimpArgs false
namespace Go.Proofs.YtgjmaifgkgejgaaGreatDoor.L
open Go.RowKit Go.ChangeShapes Go.WideShapes Go.Deep

set_option maxRecDepth 10000 in
theorem arg_request {H : Type} {enc : TypeId × Value → H} {W : World} {base b0 : Nat} {r : Reach} {sp : Nat → Bool} {held : Bool} {dd : DataW H} {ps : List MemPlace} {v : Value}
    (hv : Value.okWide Tryz.prog W r b0 40 v) (h : DataW.Trod enc Tryz.prog W base sp held 40 v dd ps) :
    ∃ (m t : ByteArray) (n : Int), v = .agg #[.string m, .string t, .int .i64 n] ∧ m.size ≤ maxLen ∧ t.size ≤ maxLen := by
  obtain ⟨v0, v1, v2, y0, y1, y2, n, rfl, -, -, h0, h1, h2⟩ := Joins.open_agg3 Tryz.underlying40 (by kernel_rfl) (by kernel_rfl) hv h
  obtain ⟨a, ha, ka⟩ := fit_str (P := Tryz.prog) Tryz.underlying9 enc W base sp held n [v0] y0 h0
  obtain ⟨b, hb, kb⟩ := fit_str (P := Tryz.prog) Tryz.underlying9 enc W base sp held n [v1] y1 h1
  obtain ⟨c, hc, kc⟩ := fit_int (P := Tryz.prog) Tryz.underlying3 enc W base sp held n [v2] y2 h2
  have e0 : v0 = .string a := by have : [v0] = [Value.string a] := ha; simpa using this
  have e1 : v1 = .string b := by have : [v1] = [Value.string b] := hb; simpa using this
  have e2 : v2 = .int .i64 c := by have : [v2] = [Value.int .i64 c] := hc; simpa using this
  exact ⟨a, b, c, by rw [e0, e1, e2], ka, kb⟩
end Go.Proofs.YtgjmaifgkgejgaaGreatDoor.L
