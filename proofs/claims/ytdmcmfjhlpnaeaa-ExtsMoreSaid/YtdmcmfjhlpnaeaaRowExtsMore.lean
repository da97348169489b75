/-
  ExtsMore: IT RETURNS TRUE, AND LEAVES ITS ARGUMENTS AS THEY WERE. No condition.
-/
import Derived.Test.YtdmcmfjhlpnaeaaEm
import Derived.Test.YtdmcmfjhlpnaeaaCl
import Derived.Test.YtdmcmfjhlpnaeaaRows
import Derived.WalkKit
import Derived.SizedLaws
import Derived.ProofKit
import Derived.OpenShut
import Derived.ShutString
import Derived.ChangeOld
import Derived.Below
namespace Go.Proofs.Ytdmcmfjhlpnaeaa.extsMore
open Go.ChangeShapes Go.WideShapes Go.ChangeAt Go.RowKit
open Go.ChangeMaps (open_string shut_string)
set_option linter.unusedVariables false

theorem own : ownKnob Try.prog.godebug = none := by kernel_rfl
theorem laidOut : laidOutB Try.prog = true := by kernel_rfl

set_option maxRecDepth 100000 in
theorem lifted (os : Os) (started : os.Started) (H : Type) (enc : TypeId × Value → H) :
    ReturnsInHanded {} Try.checked os 18 .any (Rows.extsMoreSpec.pre6 enc Try.prog Try.f18 Rows.extsMoreRow.domain false) (Rows.extsMoreSpec.post enc Try.prog Try.f18 false true false false) := by
  refine returnsInHanded_of_change_sized (C := Try.checked) own started (by kernel_rfl) Try.func18
    (ChangeSpec.witness6 (enc := enc) (C := Try.checked) false ⟨#[], #[.slice none 0 0, .slice none 0 0, .int .i64 0, .slice none 0 0], []⟩ 8 (by kernel_rfl) (by kernel_rfl) (by kernel_rfl) (by kernel_rfl)) ?_
  intro W base args ds gs before hval0 hW hcnd hwt _
  have hval : ∀ (j : Nat) t v, Try.f18.params[j]? = some t → args[j]? = some v → Value.okWide Try.prog W .any base t v := hval0
  have hW' := hW
  obtain ⟨p, q, hA0, hV, rfl, hfz, hnd⟩ := hW
  have hA : DataW.TrodAll enc Try.prog W 0 (fun _ => true) true Try.f18.params.toList args.toList ds p := hA0
  rw [Try.params18] at hA hval hwt
  obtain ⟨v0, vs0, d0, ds0, p0, q0, hargs, rfl, rfl, h0, r0⟩ := trodAll_cons hA
  obtain ⟨v1, vs1, d1, ds1, p1, q1, rfl, rfl, rfl, h1, r1⟩ := trodAll_cons r0
  obtain ⟨v2, vs2, d2, ds2, p2, q2, rfl, rfl, rfl, h2, r2⟩ := trodAll_cons r1
  obtain ⟨v3, vs3, d3, ds3, p3, q3, rfl, rfl, rfl, h3, r3⟩ := trodAll_cons r2
  obtain ⟨rfl, rfl, rfl⟩ := trodAll_nil r3
  obtain rfl : args = #[v0, v1, v2, v3] := by cases args; simp_all
  obtain ⟨rfl, rfl⟩ := trodVars_none hV
  have wt := L.weights_all hwt
  obtain ⟨wt0, wt⟩ := L.weights_at wt
  obtain ⟨wt1, wt⟩ := L.weights_at wt
  obtain ⟨wt2, wt⟩ := L.weights_at wt
  obtain ⟨wt3, wt⟩ := L.weights_at wt
  have k0 := h0
  have lt0 : ∀ x ∈ p0, x.block < W.heap.size := by obtain ⟨m, hm⟩ := k0; exact DataW.trod_lt m _ _ _ hm
  obtain ⟨l0, w0, ok0⟩ := L.argW_strs (hval 0 41 v0 rfl rfl) h0 wt0
  have k1 := h1
  have lt1 : ∀ x ∈ p1, x.block < W.heap.size := by obtain ⟨m, hm⟩ := k1; exact DataW.trod_lt m _ _ _ hm
  obtain ⟨l1, w1, ok1⟩ := L.arg_slice (d := L.int .i64) Try.underlying53 (by kernel_rfl) (by decide) (L.fit_int Try.underlying3) (hval 1 53 v1 rfl rfl) h1
  obtain ⟨n2, rfl, rfl, rfl, w2⟩ := open_int Try.underlying3 (hval 2 3 v2 rfl rfl) h2
  have k3 := h3
  have lt3 : ∀ x ∈ p3, x.block < W.heap.size := by obtain ⟨m, hm⟩ := k3; exact DataW.trod_lt m _ _ _ hm
  obtain ⟨l3, w3, ok3⟩ := L.arg_slice (d := L.u8) Try.underlying22 (by kernel_rfl) (by decide) (L.fit_u8 Try.underlying5) (hval 3 22 v3 rfl rfl) h3
  clear hA0 hval0
  refine (L.extsMore_any v0 v1 v3 l0 l1 n2 l3 W w0 w1 w3 ok0).mono fun e W' ⟨he, hs⟩ => ?_
  have bel := hs.below
  subst he
  exact ⟨_, rfl, _, _, _, [], _, [], hW', trodAll_mk1 (shut_bool Try.underlying4 _), (trodAll_cons_mk (Below.trod laidOut (by kernel_rfl) (of_decide_eq_true (by kernel_rfl)) k0 bel lt0) (trodAll_cons_mk (Below.trod laidOut (by kernel_rfl) (of_decide_eq_true (by kernel_rfl)) k1 bel lt1) (trodAll_cons_mk (shut_int Try.underlying3 w2) (trodAll_cons_mk (Below.trod laidOut (by kernel_rfl) (of_decide_eq_true (by kernel_rfl)) k3 bel lt3) trodAll_mk0)))), rfl, bel.frame _, fun h => by cases h⟩

set_option maxRecDepth 100000 in
theorem closed : joinedFacts Try.pinned.checked.prog 18 Try.f18 Rows.extsMoreSpec Rows.extsMoreRow = true := by
  unfold joinedFacts
  with_reducible refine L.and_mk (L.and_mk (L.and_mk (L.and_mk (L.and_mk (L.and_mk (L.and_mk (L.and_mk (L.and_mk (L.and_mk (L.and_mk (L.and_mk (L.and_mk (L.and_mk (L.and_mk (L.and_mk (L.and_mk (L.and_mk (L.and_mk (L.and_mk (L.and_mk (L.and_mk (L.and_mk (L.and_mk (L.and_mk (L.and_mk (L.and_mk (L.and_mk (L.and_mk (L.and_mk (L.and_mk ?_ L.f_laid) L.f_rowed) ?_) ?_) ?_) ?_) ?_) ?_) ?_) ?_) ?_) ?_) ?_) ?_) ?_) ?_) ?_) ?_) ?_) ?_) ?_) ?_) ?_) L.f_heard) L.f_enter) (L.lift_leaf L.f_lifts ?l26)) (L.make_leaf L.f_make ?l27)) ?_) ?_) ?_) ?_
  case l26 => rfl
  case l27 => rfl
  all_goals (as_aux_lemma => kernel_rfl)

theorem over : Rows.extsMoreRow.holds Try.pinned (OpenSpec.ofChange Rows.extsMoreSpec) :=
  OpenClaim.holds_of_wide 18 Try.f18 rfl rfl rfl rfl rfl rfl rfl ⟨rfl, rfl, rfl, rfl, rfl⟩ rfl rfl rfl rfl rfl (by kernel_rfl) Try.func18 closed
    (of_decide_eq_true (by kernel_rfl)) (by unfold Func.isWrapper; first | (rw [if_pos (by decide +kernel)]; kernel_rfl) | (rw [if_neg (by decide +kernel)]; exact ⟨rfl, rfl⟩))
    (fun os started H enc _ => lifted os started H enc)

/-- The statement. -/
theorem proved : Rows.ExtsMoreSaid := over
#print axioms proved
end Go.Proofs.Ytdmcmfjhlpnaeaa.extsMore
