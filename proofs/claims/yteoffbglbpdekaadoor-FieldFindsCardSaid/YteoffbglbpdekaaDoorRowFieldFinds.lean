/-
  FieldFinds: IT RETURNS TRUE, AND LEAVES ITS ARGUMENTS AS THEY WERE. The listed variables hold what the program's text lays (the card ties them). No other condition.
-/
import Derived.Test.YteoffbglbpdekaaDoorFr
import Derived.Test.YteoffbglbpdekaaDoorSh
import Derived.Test.YteoffbglbpdekaaDoorCl
import Derived.Test.YteoffbglbpdekaaDoorRows
import Derived.Test.YteoffbglbpdekaaDoorTie
import Derived.Test.YteoffbglbpdekaaDoorCards
import Derived.SevenTiedAt
import Derived.WalkKit
import Derived.ProofKit
import Derived.OpenShut
import Derived.ShutString
import Derived.ChangeOld
import Derived.Below
import Derived.LaidMore
import Derived.Stop.Joined
import Derived.Lay
namespace Go.Proofs.YteoffbglbpdekaaDoor.fieldFinds
open Go.ChangeShapes Go.WideShapes Go.ChangeAt Go.RowKit
open Go.ChangeMaps (open_string shut_string)
set_option linter.unusedVariables false

theorem own : ownKnob Tryd.prog.godebug = none := by kernel_rfl
theorem laidOut : laidOutB Tryd.prog = true := by kernel_rfl

abbrev laidL : List (String × DataW Unit) := [("unicode/utf8.first", Rows.laid_unicode_utf8_first), ("unicode/utf8.acceptRanges", Rows.laid_unicode_utf8_acceptRanges)]

set_option maxRecDepth 100000 in
theorem lifted (os : Os) (started : os.Started) (H : Type) (enc : TypeId × Value → H) :
    ReturnsInHanded {} Tryd.checked os 7 .any (fun w args => (Rows.fieldFindsSpec.pre enc Tryd.prog Tryd.f7 [] false w args ∧ laidMetH Tryd.prog laidL w) ∧ sizedMet enc Tryd.prog Tryd.f7 (OpenSpec.ofChange Rows.fieldFindsSpec) false w args)
      (Rows.fieldFindsSpec.post enc Tryd.prog Tryd.f7 false true false false) := by
  refine L.returnsInHanded_of_change_and_shaped (C := Tryd.checked) (X := fun w _ => laidMetH Tryd.prog laidL w) (fun _ _ _ hh h => h.of_heap hh) own started (by kernel_rfl) Tryd.func7
    (ChangeSpec.witness_shaped (enc := enc) (C := Tryd.checked) (os := os) (X := fun w _ => laidMetH Tryd.prog laidL w) false (World.laidAll Tryd.prog os laidL) #[.slice none 0 0, .agg #[.string ⟨#[]⟩, .string ⟨#[]⟩]] 8 (World.laidAll_os _ _ _)
      (World.shaped_of_ZipB (by kernel_rfl) (by kernel_rfl)) (by kernel_rfl) (by kernel_rfl) (by kernel_rfl)
      (by rw [MakeChecks.laidMetH_plain _ _ _ (by kernel_rfl)]; exact laidMet_laidAll _ (by kernel_rfl) (by kernel_rfl))) ?_
  intro W base args ds gs before hval0 hW _ hwt hL hsh _
  have hval : ∀ (j : Nat) t v, Tryd.f7.params[j]? = some t → args[j]? = some v → Value.okWide Tryd.prog W .any base t v := hval0
  have hW' := hW
  obtain ⟨p, q, hA0, hV, rfl, hfz, hnd⟩ := hW
  have hA : DataW.TrodAll enc Tryd.prog W 0 (fun _ => true) true Tryd.f7.params.toList args.toList ds p := hA0
  rw [Tryd.params7] at hA hval
  obtain ⟨v0, vs0, d0, ds0, p0, q0, hargs, rfl, rfl, h0, r0⟩ := trodAll_cons hA
  obtain ⟨v1, vs1, d1, ds1, p1, q1, rfl, rfl, rfl, h1, r1⟩ := trodAll_cons r0
  obtain ⟨rfl, rfl, rfl⟩ := trodAll_nil r1
  obtain rfl : args = #[v0, v1] := by cases args; simp_all
  obtain ⟨rfl, rfl⟩ := trodVars_none hV
  have k0 := h0
  have lt0 : ∀ x ∈ p0, x.block < W.heap.size := by obtain ⟨m, hm⟩ := k0; exact DataW.trod_lt m _ _ _ hm
  obtain ⟨l0, w0, ok0⟩ := L.arg_slice (d := L.fldK) Tryd.underlying29 (by kernel_rfl) (by decide) L.fit_fld (hval 0 29 v0 rfl rfl) h0
  have k1 := h1
  have lt1 : ∀ x ∈ p1, x.block < W.heap.size := by obtain ⟨m, hm⟩ := k1; exact DataW.trod_lt m _ _ _ hm
  obtain ⟨fn1, ft1, rfl, wn1, wt1⟩ := L.arg_field (hval 1 24 v1 rfl rfl) h1
  clear hA0 hval0
  refine (L.finds12_law (L.newB W) v0 l0 fn1 ft1 W w0 (L.str_le wn1) (L.str_le wt1) (L.MaxL.of_shape hsh)).mono fun e W' ⟨he, hs⟩ => ?_
  have bel := hs.below
  subst he
  exact ⟨_, rfl, _, _, _, [], _, [], hW', trodAll_mk1 (shut_bool Tryd.underlying4 _), (trodAll_cons_mk (Below.trod laidOut (by kernel_rfl) (of_decide_eq_true (by kernel_rfl)) k0 bel lt0) (trodAll_cons_mk (Below.trod laidOut (by kernel_rfl) (of_decide_eq_true (by kernel_rfl)) k1 bel lt1) trodAll_mk0)), rfl, bel.frame _, fun h => by cases h⟩

set_option maxRecDepth 100000 in
theorem closed : joinedFacts Tryd.pinned.checked.prog 7 Tryd.f7 Rows.fieldFindsSpec Rows.fieldFindsRow = true := by
  unfold joinedFacts
  with_reducible refine L.and_mk (L.and_mk (L.and_mk (L.and_mk (L.and_mk (L.and_mk (L.and_mk (L.and_mk (L.and_mk (L.and_mk (L.and_mk (L.and_mk (L.and_mk (L.and_mk (L.and_mk (L.and_mk (L.and_mk (L.and_mk (L.and_mk (L.and_mk (L.and_mk (L.and_mk (L.and_mk (L.and_mk (L.and_mk (L.and_mk (L.and_mk (L.and_mk (L.and_mk (L.and_mk (L.and_mk ?_ L.f_laid) L.f_rowed) ?_) ?_) ?_) ?_) ?_) ?_) ?_) ?_) ?_) ?_) ?_) ?_) ?_) ?_) ?_) ?_) ?_) ?_) ?_) ?_) ?_) L.f_heard) L.f_enter) (L.lift_leaf L.f_lifts ?l26)) (L.make_leaf L.f_make ?l27)) ?_) ?_) ?_) ?_
  case l26 => rfl
  case l27 => rfl
  all_goals (as_aux_lemma => kernel_rfl)

theorem over : Rows.fieldFindsRow.holds Tryd.pinned (OpenSpec.ofChange Rows.fieldFindsSpec) :=
  OpenClaim.holds_of_wide 7 Tryd.f7 rfl rfl rfl rfl rfl rfl rfl ⟨rfl, rfl, rfl, rfl, rfl⟩ rfl rfl rfl rfl rfl (by kernel_rfl) Tryd.func7 closed
    (of_decide_eq_true (by kernel_rfl)) (by unfold Func.isWrapper; first | (rw [if_pos (by decide +kernel)]; kernel_rfl) | (rw [if_neg (by decide +kernel)]; exact ⟨rfl, rfl⟩))
    (fun os started H enc _ => lifted os started H enc)

/-- The statement: the tied card. -/
theorem proved : Rows.FieldFindsCardSaid :=
  Claim7.holds_tied_plain_at .later [] [.pinned, .data] true (true, "87abb2d9fd4f3367af4c97d5686bf7a699d19abf2b4db1559ee3b128bc0a6c91") true
    over (fun _ h => by cases h) (by kernel_rfl) (fun _ h => by cases h) fieldFinds_row_tie rfl ⟨rfl, rfl⟩ L.f_main rfl
    (fun f fn hf hfn => by
      obtain rfl : f = 7 := Option.some.inj ((show Tryd.prog.funcNamed "hagioscope/hagioscopelaw12.FieldFinds" = some 7 by kernel_rfl).symm.trans hf) |>.symm
      obtain rfl : fn = Tryd.f7 := (Option.some.inj (Tryd.func7.symm.trans hfn)).symm
      exact ⟨by kernel_rfl, fun j t ht => by
        rw [Tryd.params7] at ht
        have hm : t ∈ [29, 24] := by simpa using Array.mem_of_getElem? ht
        have hall : ([29, 24].all fun u => !Tryd.prog.wantsStandIn u) = true := by kernel_rfl
        exact (show Tryd.prog.wantsStandIn t = false by simpa using List.all_eq_true.1 hall t hm)⟩)
    (by kernel_rfl)
#print axioms proved
end Go.Proofs.YteoffbglbpdekaaDoor.fieldFinds
