/- Layer 22: what the laws' arguments read as; what the listed variables hold. -/
import Derived.Test.YtkpfkdcfakhmjaaDoorQi
import Derived.Test.YtkpfkdcfakhmjaaDoorOpen
import Derived.Test.YtkpfkdcfakhmjaaDoorRows
import Derived.ProofKit
import Derived.LaidMore
import Derived.Stop.Joined
import Derived.Stop.LaidErr
import Derived.Lib.LaidTab
set_option linter.unusedVariables false
set_option linter.unusedSimpArgs false
namespace Go.Proofs.YtkpfkdcfakhmjaaDoor.L
open Go.RowKit Go.ChangeShapes Go.WideShapes Go.Deep

theorem field_at {H : Type} {enc : TypeId × Value → H} {W : World} {base : Nat} {sp : Nat → Bool} {held : Bool} {P : Program} {t : TypeId} {fs : Array Field} {fuel : Nat} {cs : Array Value} {x : DataW H × List MemPlace}
    (ht : P.underlying t = some (.struct fs)) (h : DataW.trod enc P W base sp held fuel t cs.toList = some x) (i : Nat) (f : Field) (hf : fs[i]? = some f) {k : IntKind} (hk : P.underlying f.type = some (.int k)) (hc : P.cellsOf f.type = 1) :
    ∃ n : Int, cs[f.offset]? = some (.int k n) := by
  obtain ⟨xs, n, rfl, rfl, hl, hxl, hx⟩ := DataW.trod_struct ht h
  have h1 := hx i f hf
  rw [List.getElem?_eq_getElem (by rw [hxl]; exact (Array.getElem?_eq_some_iff.1 hf).1), hc] at h1
  obtain ⟨z, hz, -⟩ := DataW.trod_int hk h1
  refine ⟨z, ?_⟩
  have := congrArg (·[0]?) hz
  simpa [List.getElem?_take, List.getElem?_drop] using this
set_option maxRecDepth 10000 in
theorem arg_verdict {H : Type} {enc : TypeId × Value → H} {W : World} {base b0 : Nat} {r : Reach} {sp : Nat → Bool} {held : Bool} {dd : DataW H} {ps : List MemPlace} {v : Value}
    (hv : Value.okWide Tryd.prog W r b0 28 v) (h : DataW.Trod enc Tryd.prog W base sp held 28 v dd ps) :
    ∃ cs p q, v = .agg cs ∧ IsVd cs p q := by
  obtain ⟨cs, rfl, hs⟩ := okWide_struct Tryd.underlying28 hv
  obtain ⟨fuel, h⟩ := h
  have hs' : cs.size = 11 := hs.trans (by kernel_rfl)
  obtain ⟨p, hp⟩ := field_at Tryd.underlying28 h 1 _ rfl (k := .i64) (by kernel_rfl) (by kernel_rfl)
  obtain ⟨q, hq⟩ := field_at Tryd.underlying28 h 3 _ rfl (k := .i64) (by kernel_rfl) (by kernel_rfl)
  exact ⟨cs, p, q, rfl, hs', (Array.getElem?_eq_some_iff.1 hp).2, (Array.getElem?_eq_some_iff.1 hq).2⟩
set_option maxRecDepth 10000 in
theorem arg_decision {H : Type} {enc : TypeId × Value → H} {W : World} {base b0 : Nat} {r : Reach} {sp : Nat → Bool} {held : Bool} {dd : DataW H} {ps : List MemPlace} {v : Value}
    (hv : Value.okWide Tryd.prog W r b0 30 v) (h : DataW.Trod enc Tryd.prog W base sp held 30 v dd ps) :
    ∃ a y u, v = .agg #[.bool a, .int .i64 y, .int .i64 u] := by
  obtain ⟨v0, v1, v2, y0, y1, y2, n, rfl, -, -, h0, h1, h2⟩ := Joins.open_agg3 Tryd.underlying30 (by kernel_rfl) (by kernel_rfl) hv h
  obtain ⟨a, ha, -⟩ := DataW.trod_bool (by kernel_rfl) h0
  obtain ⟨y, hy, -⟩ := DataW.trod_int (k := .i64) (by kernel_rfl) h1
  obtain ⟨u, hu, -⟩ := DataW.trod_int (k := .i64) (by kernel_rfl) h2
  injection ha with ha
  injection hy with hy
  injection hu with hu
  exact ⟨a, y, u, by rw [ha, hy, hu]⟩

/-- The listed tables, as the rows name them. -/
abbrev laid3 : List (String × DataW Unit) := [("math/bits.deBruijn32tab", Rows.laid_math_bits_deBruijn32tab), ("math/bits.deBruijn64tab", Rows.laid_math_bits_deBruijn64tab), ("internal/strconv.uint64pow10", Rows.laid_internal_strconv_uint64pow10)]
theorem tabP_of {W : World} {rest : List (String × DataW Unit)} (h : laidMet Tryd.prog (("internal/strconv.uint64pow10", Rows.laid_internal_strconv_uint64pow10) :: rest) W) : TabP W :=
  Lib.tabIs_of_head (zs := Lib.pow10Tab) (k := .u64) (t := 101) (e := 63) (n := 20) gTab (by kernel_rfl) (by kernel_rfl) (by kernel_rfl) (by kernel_rfl) (by kernel_rfl) h
theorem tabP_of3 {W : World} (h : laidMetH Tryd.prog laid3 W) : TabP W := by
  rw [MakeChecks.laidMetH_plain _ _ _ (by kernel_rfl)] at h
  exact tabP_of h.tail.tail
set_option maxRecDepth 100000 in
theorem door_met3 (os : Os) (args : Array Value) : laidMetH Tryd.prog laid3 ((World.doorLaid Tryd.prog 400 os).forCall (fun _ _ => 0) ⟨#[], args, []⟩).memory :=
  laidMetH_of_parts3 (fuel := 8) (laidMet_of_run' 8 (by kernel_rfl) (by kernel_rfl)) (by kernel_rfl) (by kernel_rfl)
end Go.Proofs.YtkpfkdcfakhmjaaDoor.L
