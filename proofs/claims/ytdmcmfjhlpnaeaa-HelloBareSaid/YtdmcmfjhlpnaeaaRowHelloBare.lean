/-
  HelloBare: IT RETURNS TRUE, AND LEAVES ITS ARGUMENTS AS THEY WERE. No condition.
-/
import Derived.Test.YtdmcmfjhlpnaeaaLe
import Derived.Test.YtdmcmfjhlpnaeaaCl
import Derived.Test.YtdmcmfjhlpnaeaaRows
import Derived.WalkKit
import Derived.SizedLaws
import Derived.ProofKit
import Derived.OpenShut
import Derived.ShutString
import Derived.ChangeOld
import Derived.Below
namespace Go.Proofs.Ytdmcmfjhlpnaeaa.helloBare
open Go.ChangeShapes Go.WideShapes Go.ChangeAt Go.RowKit
open Go.ChangeMaps (open_string shut_string)
set_option linter.unusedVariables false

theorem own : ownKnob Try.prog.godebug = none := by kernel_rfl
theorem laidOut : laidOutB Try.prog = true := by kernel_rfl

set_option maxRecDepth 100000 in
theorem lifted (os : Os) (started : os.Started) (H : Type) (enc : TypeId × Value → H) :
    ReturnsInHanded {} Try.checked os 17 .any (Rows.helloBareSpec.pre6 enc Try.prog Try.f17 Rows.helloBareRow.domain false) (Rows.helloBareSpec.post enc Try.prog Try.f17 false true false false) := by
  refine returnsInHanded_of_change_sized (C := Try.checked) own started (by kernel_rfl) Try.func17
    (ChangeSpec.witness6 (enc := enc) (C := Try.checked) false ⟨#[], #[.agg #[.int .i64 0, .int .u8 0, .int .u8 0, .int .u8 0, .int .u8 0, .int .u8 0, .int .u8 0, .int .u8 0, .int .u8 0, .int .u8 0, .int .u8 0, .int .u8 0, .int .u8 0, .int .u8 0, .int .u8 0, .int .u8 0, .int .u8 0, .int .u8 0, .int .u8 0, .int .u8 0, .int .u8 0, .int .u8 0, .int .u8 0, .int .u8 0, .int .u8 0, .int .u8 0, .int .u8 0, .int .u8 0, .int .u8 0, .int .u8 0, .int .u8 0, .int .u8 0, .int .u8 0, .slice none 0 0, .slice none 0 0, .slice none 0 0, .bool false, .slice none 0 0]], []⟩ 8 (by kernel_rfl) (by kernel_rfl) (by kernel_rfl) (by kernel_rfl)) ?_
  intro W base args ds gs before hval0 hW hcnd hwt _
  have hval : ∀ (j : Nat) t v, Try.f17.params[j]? = some t → args[j]? = some v → Value.okWide Try.prog W .any base t v := hval0
  have hW' := hW
  obtain ⟨p, q, hA0, hV, rfl, hfz, hnd⟩ := hW
  have hA : DataW.TrodAll enc Try.prog W 0 (fun _ => true) true Try.f17.params.toList args.toList ds p := hA0
  rw [Try.params17] at hA hval hwt
  obtain ⟨v0, vs0, d0, ds0, p0, q0, hargs, rfl, rfl, h0, r0⟩ := trodAll_cons hA
  obtain ⟨rfl, rfl, rfl⟩ := trodAll_nil r0
  obtain rfl : args = #[v0] := by cases args; simp_all
  obtain ⟨rfl, rfl⟩ := trodVars_none hV
  have wt := L.weights_all hwt
  obtain ⟨wt0, wt⟩ := L.weights_at wt
  have k0 := h0
  have lt0 : ∀ x ∈ p0, x.block < W.heap.size := by obtain ⟨m, hm⟩ := k0; exact DataW.trod_lt m _ _ _ hm
  obtain ⟨cs0, hl0, rfl, ih0, hf0⟩ := L.arg_hello (hval 0 62 v0 rfl rfl) h0 wt0
  clear hA0 hval0
  refine (L.helloBare_any cs0 hl0 W ih0 hf0).mono fun e W' ⟨he, hs⟩ => ?_
  have bel := hs.below
  subst he
  exact ⟨_, rfl, _, _, _, [], _, [], hW', trodAll_mk1 (shut_bool Try.underlying4 _), (trodAll_cons_mk (Below.trod laidOut (by kernel_rfl) (of_decide_eq_true (by kernel_rfl)) k0 bel lt0) trodAll_mk0), rfl, bel.frame _, fun h => by cases h⟩

set_option maxRecDepth 100000 in
theorem closed : joinedFacts Try.pinned.checked.prog 17 Try.f17 Rows.helloBareSpec Rows.helloBareRow = true := by
  unfold joinedFacts
  with_reducible refine L.and_mk (L.and_mk (L.and_mk (L.and_mk (L.and_mk (L.and_mk (L.and_mk (L.and_mk (L.and_mk (L.and_mk (L.and_mk (L.and_mk (L.and_mk (L.and_mk (L.and_mk (L.and_mk (L.and_mk (L.and_mk (L.and_mk (L.and_mk (L.and_mk (L.and_mk (L.and_mk (L.and_mk (L.and_mk (L.and_mk (L.and_mk (L.and_mk (L.and_mk (L.and_mk (L.and_mk ?_ L.f_laid) L.f_rowed) ?_) ?_) ?_) ?_) ?_) ?_) ?_) ?_) ?_) ?_) ?_) ?_) ?_) ?_) ?_) ?_) ?_) ?_) ?_) ?_) ?_) L.f_heard) L.f_enter) (L.lift_leaf L.f_lifts ?l26)) (L.make_leaf L.f_make ?l27)) ?_) ?_) ?_) ?_
  case l26 => rfl
  case l27 => rfl
  all_goals (as_aux_lemma => kernel_rfl)

theorem over : Rows.helloBareRow.holds Try.pinned (OpenSpec.ofChange Rows.helloBareSpec) :=
  OpenClaim.holds_of_wide 17 Try.f17 rfl rfl rfl rfl rfl rfl rfl ⟨rfl, rfl, rfl, rfl, rfl⟩ rfl rfl rfl rfl rfl (by kernel_rfl) Try.func17 closed
    (of_decide_eq_true (by kernel_rfl)) (by unfold Func.isWrapper; first | (rw [if_pos (by decide +kernel)]; kernel_rfl) | (rw [if_neg (by decide +kernel)]; exact ⟨rfl, rfl⟩))
    (fun os started H enc _ => lifted os started H enc)

/-- The statement. -/
theorem proved : Rows.HelloBareSaid := over
#print axioms proved
end Go.Proofs.Ytdmcmfjhlpnaeaa.helloBare
