/- A region of open order in a round; a function's end behind a range over a function. -/
import Derived.Test.YtdmcmfjhlpnaeaaCh
import Derived.Deep.RegionHeld
set_option linter.unusedVariables false
set_option linter.unusedSimpArgs false
namespace Go.Proofs.Ytdmcmfjhlpnaeaa.L
open Go.RowKit Go.Proofs

theorem wp_in {P : Program} {n l : Nat} {o : Oper} {a : Act} {w : World} {K : Act → World → Prop} {Q : Exit → Act → World → Prop} (hd : ∀ c, o.op ≠ .defer c) (h : o.wp P a w K Q) : o.wpIn (Fence.wide.inRound l) n P a w K Q := by
  refine ⟨fun _ _ => trivial, ?_⟩
  rw [Oper.semAt_eq _ _ _ hd]
  unfold Oper.wp at h
  generalize (execOp a.eval o).run P w = r at *
  cases r with
  | ok x w' =>
    cases x with
    | value v => exact h
    | skip => exact h
    | defer d => exact h
    | enter f args =>
      rw [Oper.uponIn_enter]
      exact ⟨fun e => Bool.noConfusion e, callsIn_wide.2 h⟩
    | row r args =>
      rw [Oper.uponIn_row]
      refine ⟨fun e => Bool.noConfusion e, fun c cs _ => ?_⟩
      obtain ⟨v, w', h1, h2⟩ := h c cs
      exact ⟨v, w', h1, stepsIn_wide.2 h2⟩
    | _ => exact h.elim
  | halt x w' => cases x <;> first | exact h | exact h.elim

theorem wpAnyH_in {P : Program} {md : Region.Mode} {n l : Nat} {ops : Array Oper} {Q : Exit → Act → World → Prop} {S : World → Prop} (hd : ∀ o ∈ ops.toList, ∀ c, o.op ≠ .defer c) (hL : ¬ LetsOut Q) :
    ∀ (fuel : Nat) (listed : Array Bool) (a : Act) (w : World), wpAnyH P md ops Q S fuel listed a w → wpAnyIn (Fence.wide.inRound l) n P md ops Q fuel listed a w := by
  intro fuel
  induction fuel with
  | zero => exact fun _ _ _ h => h
  | succ fuel ih =>
    intro listed a w h
    refine ⟨h.1, fun i hi => ?_⟩
    have h1 := h.2 i hi
    unfold wpOp at h1
    unfold wpOpIn
    cases ho : ops[i]? with
    | none =>
      rw [ho] at h1
      exact ih _ _ _ h1.2
    | some o =>
      rw [ho] at h1
      dsimp only at h1 ⊢
      have hm : o ∈ ops.toList := by
        have := Array.mem_of_getElem? ho
        simpa using this
      split
      · rename_i hw
        rw [if_pos hw] at h1
        rcases h1 with h1 | ⟨-, h1⟩
        · exact wp_in (hd o hm) (by
            unfold Oper.wp at h1 ⊢
            generalize (execOp a.eval o).run P w = r at *
            cases r with
            | ok x w' =>
              cases x with
              | value v => exact ih _ _ _ h1.2
              | skip => exact ih _ _ _ h1.2
              | defer d => exact ih _ _ _ h1.2
              | enter f args => exact Calls.mono h1 (fun e w'' he => by cases e <;> first | exact ih _ _ _ he.2 | exact he)
              | row r args => exact Rows.mono h1 (fun _ _ he => ih _ _ _ he.2)
              | _ => exact h1.elim
            | halt x w' => cases x <;> first | exact h1 | exact h1.elim)
        · exact absurd h1 hL
      · rename_i hw
        rw [if_neg hw] at h1
        exact ⟨fun _ _ => trivial, ih _ _ _ h1.2⟩

theorem wpIn_region_held_drew {P : Program} {n l : Nat} {ops : Array Oper} {Q : Exit → Act → World → Prop} {S : World → Prop} {id : Nat} {a : Act} {w : World} (hm : P.follows .mixedOrders = true)
    (hd : (ops.toList.all fun o => match o.op with | .defer _ => false | _ => true) = true) (hL : ¬ LetsOut Q) (hS : S w.drew)
    (h : S w.drew → wpAnyH P .any ops Q S ops.size (Array.replicate ops.size false) a w.drew) : (Code.region id ops true).wpIn (Fence.wide.inRound l) n P Q a w :=
  wpIn_region_any hm (wpAnyH_in (fun o ho c e => by
    have := List.all_eq_true.1 hd o ho
    rw [e] at this
    cases this) hL _ _ _ _ (h hS))

/-- An end that is no panic. -/
def noPanic (Q : Exit → Act → World → Prop) : Exit → Act → World → Prop
  | .normal, a, w => Q .normal a w
  | .ret, a, w => Q .ret a w
  | .exit i, a, w => Q (.exit i) a w
  | .goto t, a, w => Q (.goto t) a w
  | .panic _, _, _ => False
  | .outgrown, _, _ => False
theorem noPanic_of {Q : Exit → Act → World → Prop} : ∀ (e : Exit) (a : Act) (w : World), noPanic Q e a w → Q e a w
  | .normal, _, _, h => h
  | .ret, _, _, h => h
  | .exit _, _, _, h => h
  | .goto _, _, _, h => h
  | .panic _, _, _, h => h.elim
  | .outgrown, _, _, h => h.elim
theorem leave0 {F : Fence} {n : Nat} {P : Program} {fn : Func} {R : Ending → World → Prop} {tmps : Array Value} {w : World} {v : Value} (hr : (results fn tmps).run P w = .ok v w) (hR : R (.returned v) w) : bodyPostM F n P fn R .ret { tmps := tmps, defers := [] } w :=
  ⟨v, hr, hR⟩
theorem leave1 {F : Fence} {n : Nat} {P : Program} {fn : Func} {R : Ending → World → Prop} {tmps : Array Value} {w : World} {v : Value} {D : Nat} (hK : w.heap[D]? = some (.deferred (some [])))
    (hr : (results fn tmps).run P (w.putObj D (.deferred none)) = .ok v (w.putObj D (.deferred none))) (hR : R (.returned v) (w.putObj D (.deferred none))) : bodyPostM F n P fn R .ret { tmps := tmps, defers := [{ target := .collected D, args := #[] }] } w :=
  ⟨by simp, .inl ⟨_, _, rfl, run_takeDeferred hK, v, hr, hR⟩⟩
end Go.Proofs.Ytdmcmfjhlpnaeaa.L
