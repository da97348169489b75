/-
  HelloCut: IT RETURNS TRUE, AND LEAVES ITS ARGUMENTS AS THEY WERE. No condition.
-/
import Derived.Test.YtdmcmfjhlpnaeaaLc
import Derived.Test.YtdmcmfjhlpnaeaaCl
import Derived.Test.YtdmcmfjhlpnaeaaRows
import Derived.WalkKit
import Derived.SizedLaws
import Derived.ProofKit
import Derived.OpenShut
import Derived.ShutString
import Derived.ChangeOld
import Derived.Below
namespace Go.Proofs.Ytdmcmfjhlpnaeaa.helloCut
open Go.ChangeShapes Go.WideShapes Go.ChangeAt Go.RowKit
open Go.ChangeMaps (open_string shut_string)
set_option linter.unusedVariables false

theorem own : ownKnob Try.prog.godebug = none := by kernel_rfl
theorem laidOut : laidOutB Try.prog = true := by kernel_rfl

set_option maxRecDepth 100000 in
theorem lifted (os : Os) (started : os.Started) (H : Type) (enc : TypeId × Value → H) :
    ReturnsInHanded {} Try.checked os 15 .any (Rows.helloCutSpec.pre6 enc Try.prog Try.f15 Rows.helloCutRow.domain false) (Rows.helloCutSpec.post enc Try.prog Try.f15 false true false false) := by
  refine returnsInHanded_of_change_sized (C := Try.checked) own started (by kernel_rfl) Try.func15
    (ChangeSpec.witness6 (enc := enc) (C := Try.checked) false ⟨#[], #[.slice none 0 0, .int .i64 0, .slice none 0 0], []⟩ 8 (by kernel_rfl) (by kernel_rfl) (by kernel_rfl) (by kernel_rfl)) ?_
  intro W base args ds gs before hval0 hW hcnd hwt _
  have hval : ∀ (j : Nat) t v, Try.f15.params[j]? = some t → args[j]? = some v → Value.okWide Try.prog W .any base t v := hval0
  have hW' := hW
  obtain ⟨p, q, hA0, hV, rfl, hfz, hnd⟩ := hW
  have hA : DataW.TrodAll enc Try.prog W 0 (fun _ => true) true Try.f15.params.toList args.toList ds p := hA0
  rw [Try.params15] at hA hval hwt
  obtain ⟨v0, vs0, d0, ds0, p0, q0, hargs, rfl, rfl, h0, r0⟩ := trodAll_cons hA
  obtain ⟨v1, vs1, d1, ds1, p1, q1, rfl, rfl, rfl, h1, r1⟩ := trodAll_cons r0
  obtain ⟨v2, vs2, d2, ds2, p2, q2, rfl, rfl, rfl, h2, r2⟩ := trodAll_cons r1
  obtain ⟨rfl, rfl, rfl⟩ := trodAll_nil r2
  obtain rfl : args = #[v0, v1, v2] := by cases args; simp_all
  obtain ⟨rfl, rfl⟩ := trodVars_none hV
  have wt := L.weights_all hwt
  obtain ⟨wt0, wt⟩ := L.weights_at wt
  obtain ⟨wt1, wt⟩ := L.weights_at wt
  obtain ⟨wt2, wt⟩ := L.weights_at wt
  have k0 := h0
  have lt0 : ∀ x ∈ p0, x.block < W.heap.size := by obtain ⟨m, hm⟩ := k0; exact DataW.trod_lt m _ _ _ hm
  obtain ⟨l0, w0, ok0, -⟩ := L.argW_slice (P := Try.prog) (d := L.u8) Try.underlying22 (by kernel_rfl) (by decide) (L.Fit.w (L.fit_u8 Try.underlying5)) (hval 0 22 v0 rfl rfl) h0 wt0
  have b0 : Try.prog.bytesOf 5 = 1 := by kernel_rfl
  rw [b0] at ok0
  have o0 : l0.length ≤ 140737488355328 := by unfold reachBytes at ok0; omega
  obtain ⟨n1, rfl, rfl, rfl, w1⟩ := open_int Try.underlying3 (hval 1 3 v1 rfl rfl) h1
  have k2 := h2
  have lt2 : ∀ x ∈ p2, x.block < W.heap.size := by obtain ⟨m, hm⟩ := k2; exact DataW.trod_lt m _ _ _ hm
  obtain ⟨l2, w2, ok2⟩ := L.arg_slice (d := L.u8) Try.underlying22 (by kernel_rfl) (by decide) (L.fit_u8 Try.underlying5) (hval 2 22 v2 rfl rfl) h2
  clear hA0 hval0
  refine (L.helloCut_any v0 v2 l0 l2 n1 W w0 w2 o0).mono fun e W' ⟨he, hs⟩ => ?_
  have bel := hs.below
  subst he
  exact ⟨_, rfl, _, _, _, [], _, [], hW', trodAll_mk1 (shut_bool Try.underlying4 _), (trodAll_cons_mk (Below.trod laidOut (by kernel_rfl) (of_decide_eq_true (by kernel_rfl)) k0 bel lt0) (trodAll_cons_mk (shut_int Try.underlying3 w1) (trodAll_cons_mk (Below.trod laidOut (by kernel_rfl) (of_decide_eq_true (by kernel_rfl)) k2 bel lt2) trodAll_mk0))), rfl, bel.frame _, fun h => by cases h⟩

set_option maxRecDepth 100000 in
theorem closed : joinedFacts Try.pinned.checked.prog 15 Try.f15 Rows.helloCutSpec Rows.helloCutRow = true := by
  unfold joinedFacts
  with_reducible refine L.and_mk (L.and_mk (L.and_mk (L.and_mk (L.and_mk (L.and_mk (L.and_mk (L.and_mk (L.and_mk (L.and_mk (L.and_mk (L.and_mk (L.and_mk (L.and_mk (L.and_mk (L.and_mk (L.and_mk (L.and_mk (L.and_mk (L.and_mk (L.and_mk (L.and_mk (L.and_mk (L.and_mk (L.and_mk (L.and_mk (L.and_mk (L.and_mk (L.and_mk (L.and_mk (L.and_mk ?_ L.f_laid) L.f_rowed) ?_) ?_) ?_) ?_) ?_) ?_) ?_) ?_) ?_) ?_) ?_) ?_) ?_) ?_) ?_) ?_) ?_) ?_) ?_) ?_) ?_) L.f_heard) L.f_enter) (L.lift_leaf L.f_lifts ?l26)) (L.make_leaf L.f_make ?l27)) ?_) ?_) ?_) ?_
  case l26 => rfl
  case l27 => rfl
  all_goals (as_aux_lemma => kernel_rfl)

theorem over : Rows.helloCutRow.holds Try.pinned (OpenSpec.ofChange Rows.helloCutSpec) :=
  OpenClaim.holds_of_wide 15 Try.f15 rfl rfl rfl rfl rfl rfl rfl ⟨rfl, rfl, rfl, rfl, rfl⟩ rfl rfl rfl rfl rfl (by kernel_rfl) Try.func15 closed
    (of_decide_eq_true (by kernel_rfl)) (by unfold Func.isWrapper; first | (rw [if_pos (by decide +kernel)]; kernel_rfl) | (rw [if_neg (by decide +kernel)]; exact ⟨rfl, rfl⟩))
    (fun os started H enc _ => lifted os started H enc)

/-- The statement. -/
theorem proved : Rows.HelloCutSaid := over
#print axioms proved
end Go.Proofs.Ytdmcmfjhlpnaeaa.helloCut
