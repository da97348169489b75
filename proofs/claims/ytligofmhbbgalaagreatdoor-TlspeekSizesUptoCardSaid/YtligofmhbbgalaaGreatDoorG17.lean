/- Texts of the proof, joined: Ch Ir. -/
import Derived.RangeFuncWrites
import Derived.RangeFuncBound
import Derived.RangeFuncCalls
import Derived.RangeFuncLeaves
import Derived.Shelf.Abstract
import Derived.WalkKit
import Derived.OwnWalkIn
import Derived.TacticsInMore
import Derived.LoopNIn
import Derived.LoopIn
import Derived.Test.YtligofmhbbgalaaGreatDoorG16
import Derived.Deep.RegionHeld
set_option linter.unusedVariables false
set_option linter.unusedSimpArgs false
/- slices.Chunk: pieces of two bytes. -/
namespace Go.Proofs.YtligofmhbbgalaaGreatDoor.L
open Go.RowKit Go.Proofs

attribute [local go_sem] Oper.semAt_some

/-- What Chunk's own function reads is kept. -/
def Kc (Bs Bn : Nat) (W W' : World) : Prop := (∀ v, W.cell? ⟨Bs, 0, none⟩ = some v → W'.cell? ⟨Bs, 0, none⟩ = some v) ∧ (∀ v, W.cell? ⟨Bn, 0, none⟩ = some v → W'.cell? ⟨Bn, 0, none⟩ = some v)
theorem Kc.refl (Bs Bn : Nat) (W : World) : Kc Bs Bn W W := ⟨fun _ h => h, fun _ h => h⟩
theorem Kc.trans {Bs Bn : Nat} {A B C : World} (h : Kc Bs Bn A B) (k : Kc Bs Bn B C) : Kc Bs Bn A C := ⟨fun v hv => k.1 v (h.1 v hv), fun v hv => k.2 v (h.2 v hv)⟩

set_option maxHeartbeats 1000000 in
theorem chunk_any (A : Option Addr) (n c : Nat) (w : World) :
    Calls Tryz.prog 137 #[.slice A n c, .int .i64 2] w fun e w' => e = .returned (.func (.func 161) #[] #[.pointer (some ⟨w.heap.size, 0, none⟩), .pointer (some ⟨w.heap.size + 1, 0, none⟩)]) ∧ w' = (w.alloc (.cells #[.slice A n c] 22)).alloc (.cells #[.int .i64 2] 3) := by
  go_enter Tryz.func137, Tryz.ntmps137
  go_wp2
  go_ret
  exact ⟨rfl, rfl⟩

set_option maxRecDepth 100000 in
set_option maxHeartbeats 4000000 in
theorem chunk1_in (F : Fence) (n : Nat) (h7 : F.fn 161) (hro : F.round = none) (hn : 1 ≤ n) (l Bs Bn : Nat) (ad : Addr) (m c : Nat) (hm : m ≤ 1000000000) (hc : 2 * m ≤ c) (hcc : c ≤ 9223372036854775807) (J Jx : List (Fin m) → World → Prop) (hJa : ∀ s A, J s A → J s A.drew)
    (hY : ∀ pre x W, J pre W → pre.length < m → YieldAt F (n - 1) Tryz.prog l #[.slice (some (ad.add (2 * x.1))) 2 2] W fun e W' =>
      (e = .returned (.bool true) ∧ J (pre ++ [x]) W' ∧ Kc Bs Bn W W') ∨ (e = .returned (.bool false) ∧ Jx (pre ++ [x]) W'))
    (W : World) (hBs : W.cell? ⟨Bs, 0, none⟩ = some (.slice (some ad) (2 * m) c)) (hBn : W.cell? ⟨Bn, 0, none⟩ = some (.int .i64 2)) (h0 : J [] W) :
    CallsIn F n Tryz.prog 161 #[.func (.yield l) #[] #[], .pointer (some ⟨Bs, 0, none⟩), .pointer (some ⟨Bn, 0, none⟩)] W fun e W' => (∃ v, e = .returned v) ∧
      ((∃ ys, ys = List.finRange m ∧ J ys W') ∨ (∃ pre, (∃ k, k ≤ m ∧ pre = (List.finRange m).take k) ∧ Jx pre W')) := by
  refine callsIn_of_wp Tryz.func161 rfl h7 ?_ hro
  simp only [Tryz.ntmps161, List.size_toArray, List.length_cons, List.length_nil, Nat.reduceAdd, Nat.reduceSub, Array.replicate_succ, Array.replicate_zero, List.push_toArray, List.append_toArray, List.nil_append, List.cons_append]
  gi_wp2
  gi_loopw [4] (fun i wr => ∃ k : Nat, k ≤ m ∧ i = .int .i64 ((2 * k : Nat) : Int) ∧ J ((List.finRange m).take k) wr ∧ Kc Bs Bn W wr)
    (fun i _ => 2 * m - (intOf i).toNat)
  case atStart => exact ⟨0, Nat.zero_le _, rfl, h0, Kc.refl _ _ _⟩
  case round =>
    obtain ⟨k, hk, rfl, hJs, hnx⟩ := hrel
    have hb1 := hnx.1 _ hBs
    have hb2 := hnx.2 _ hBn
    by_cases hlt : k < m
    · have hx : ((List.finRange m).take (k + 1)) = (List.finRange m).take k ++ [⟨k, hlt⟩] := by
        rw [List.take_add_one, List.getElem?_eq_getElem (by simpa using hlt)]
        simp
      obtain ⟨fn, tmps, assign, body, hy, hR⟩ := hY _ ⟨k, hlt⟩ wr.drew (hJa _ _ hJs) (by simp; omega)
      dsimp only at hy
      have hm2 : 2 * (k : Int) + 2 ≤ 2 * (m : Int) := by omega
      gi_wp2_with fail
      gi_region
      all_goals (rw [if_neg (show ¬ ((2 * m - 2 * k : Nat) : Int) < 2 by omega)]; gi_wp2_with fail)
      all_goals
        refine hR.mono ?_
        rintro e W3 (⟨rfl, hJ3, hk3⟩ | ⟨rfl, hJx3⟩)
        · have hk4 : Kc Bs Bn wr W3 := ⟨fun v hv => hk3.1 v hv, fun v hv => hk3.2 v hv⟩
          have hb3 := hk4.2 _ hb2
          gi_wp2
          go_roundw
          case rel => exact ⟨k + 1, by omega, by simp; omega, by rw [hx]; exact hJ3, hnx.trans hk4⟩
          case measure => simp [intOf]; omega
        · gi_wp2
          refine bodyPost_ret (results_none rfl _ _ _) rfl ?_
          exact ⟨⟨_, rfl⟩, .inr ⟨_, ⟨k + 1, by omega, rfl⟩, by rw [hx]; exact hJx3⟩⟩
    · obtain rfl : k = m := by omega
      gi_wp2
      go_end0
      exact ⟨⟨_, rfl⟩, .inl ⟨_, by rw [List.take_of_length_le (by simp)], hJs⟩⟩

theorem chunk_stops (F : Fence) (n : Nat) (h7 : F.fn 161) (hro : F.round = none) (hn : 1 ≤ n) (Bs Bn : Nat) (ad : Addr) (m c : Nat) (hm : m ≤ 1000000000) (hc : 2 * m ≤ c) (hcc : c ≤ 9223372036854775807) (w : World)
    (hs : Bs < w.heap.size) (hb : Bn < w.heap.size) (hBs : w.cell? ⟨Bs, 0, none⟩ = some (.slice (some ad) (2 * m) c)) (hBn : w.cell? ⟨Bn, 0, none⟩ = some (.int .i64 2)) :
    SeqStopsK F n Tryz.prog 161 #[.pointer (some ⟨Bs, 0, none⟩), .pointer (some ⟨Bn, 0, none⟩)] (fun x : Fin m => #[.slice (some (ad.add (2 * x.1))) 2 2]) (Kc Bs Bn) (fun ys => ys = List.finRange m) (fun pre => ∃ k, k ≤ m ∧ pre = (List.finRange m).take k) m w :=
  fun l J Jx W hW hJ hJx hY h0 =>
    chunk1_in F n h7 hro hn l Bs Bn ad m c hm hc hcc J Jx (fun s A hs => hJ s A A.drew none hs ⟨rfl, rfl, rfl, Nat.le_refl _, fun _ _ _ => rfl⟩ (fun r e => by cases e)) hY W
      ((hW.cell (p := ⟨Bs, 0, none⟩) hs).trans hBs) ((hW.cell (p := ⟨Bn, 0, none⟩) hb).trans hBn) h0

/-- A loop of one variable over an iterator; its variable's slot is written from the parameter's. -/
theorem wpIn_range1 {F : Fence} {n : Nat} {P : Program} {α : Type} {g : Operand} {p q : Nat} {assign body : Code} {Q : Exit → Act → World → Prop} {a : Act} {w : World}
    (hro : F.round = none) (h1 : 1 ≤ n) {gf : Nat} {lb : Array Value} (hg : a.eval g = .func (.func gf) #[] lb) (hFg : F.fn gf) (eg : ∀ args w, (callFunc gf args).run P w = .ok (.enter gf args) w)
    (val : α → Value) {Kp : World → World → Prop} {S Sp : List α → Prop} {N : Nat} {w0 : World} (hseq : SeqStopsK F (n - 1) P gf lb (fun x => #[val x]) Kp S Sp N w0)
    (hKt : ∀ {A B C : World}, Kp A B → Kp B C → Kp A C) (hKb : ∀ (W : World) (l : Nat) (o o' : Obj), w.heap.size ≤ l → W.heap[l]? = some o → o.isCells = false → o.isWalk = false → Kp W (W.putObj l o')) (hb0 : Below w0.heap.size w0 w)
    (I : List α → World → Prop) (hI : OwnFrom w.heap.size I) (h0 : I [] w)
    (hassign : ∀ (l : Nat) (x : α) (W : World) (K : Act → World → Prop), K { tmps := (a.tmps.setIfInBounds p (val x)).setIfInBounds q (val x), defers := [] } W →
      assign.wpIn (F.inRound l) (n - 1 - 1) P (Exit.then K (fun _ _ _ => False)) { tmps := a.tmps.setIfInBounds p (val x), defers := [] } W)
    (hbody : ∀ (l : Nat) (pre : List α) (x : α) (W : World), I pre W → pre.length < N → body.wpIn (F.inRound l) (n - 1 - 1) P (ownPostG w.heap.size Kp I (fun _ _ _ => False) (pre ++ [x]) W) { tmps := (a.tmps.setIfInBounds p (val x)).setIfInBounds q (val x), defers := [] } W)
    (hdone : ∀ (D : Nat) (xs : List α) (W : World), w.heap.size ≤ D → S xs → I xs W → W.heap[D]? = some (.deferred (some [])) → Q .normal { a with defers := { target := .collected D, args := #[] } :: a.defers } W) :
    (Code.rangeFunc g #[p] assign body).wpIn F n P Q a w :=
  wpIn_rangeFunc_ownG hro h1 hg hFg eg (encs := fun x => #[val x]) hseq (fun h k => hKt h k) hKb hb0 (fun _ => rfl) I (fun _ _ _ => False) hI (fun c s W W' row h _ _ => h.elim) h0
    (fun x => { tmps := (a.tmps.setIfInBounds p (val x)).setIfInBounds q (val x), defers := [] }) (fun l x W K hK => by have h := hassign l x W K hK; simpa only [List.zip_toArray, List.zip_cons_cons, List.zip_nil_right, List.size_toArray, List.length_cons, List.length_nil, List.foldl_toArray', List.foldl_toArray, List.foldl_cons, List.foldl_nil] using h) hbody hdone (fun _ _ _ _ _ _ h _ => h.elim)
end Go.Proofs.YtligofmhbbgalaaGreatDoor.L

/- A region of open order in a round; a function's end behind a range over a function. -/
namespace Go.Proofs.YtligofmhbbgalaaGreatDoor.L
open Go.RowKit Go.Proofs

theorem wp_in {P : Program} {n l : Nat} {o : Oper} {a : Act} {w : World} {K : Act → World → Prop} {Q : Exit → Act → World → Prop} (hd : ∀ c, o.op ≠ .defer c) (h : o.wp P a w K Q) : o.wpIn (Fence.wide.inRound l) n P a w K Q := by
  refine ⟨fun _ _ => trivial, ?_⟩
  rw [Oper.semAt_eq _ _ _ hd]
  unfold Oper.wp at h
  generalize (execOp a.eval o).run P w = r at *
  cases r with
  | ok x w' =>
    cases x with
    | value v => exact h
    | skip => exact h
    | defer d => exact h
    | enter f args =>
      rw [Oper.uponIn_enter]
      exact ⟨fun e => Bool.noConfusion e, callsIn_wide.2 h⟩
    | row r args =>
      rw [Oper.uponIn_row]
      refine ⟨fun e => Bool.noConfusion e, fun c cs _ => ?_⟩
      obtain ⟨v, w', h1, h2⟩ := h c cs
      exact ⟨v, w', h1, stepsIn_wide.2 h2⟩
    | _ => exact h.elim
  | halt x w' => cases x <;> first | exact h | exact h.elim

theorem wpAnyH_in {P : Program} {md : Region.Mode} {n l : Nat} {ops : Array Oper} {Q : Exit → Act → World → Prop} {S : World → Prop} (hd : ∀ o ∈ ops.toList, ∀ c, o.op ≠ .defer c) (hL : ¬ LetsOut Q) :
    ∀ (fuel : Nat) (listed : Array Bool) (a : Act) (w : World), wpAnyH P md ops Q S fuel listed a w → wpAnyIn (Fence.wide.inRound l) n P md ops Q fuel listed a w := by
  intro fuel
  induction fuel with
  | zero => exact fun _ _ _ h => h
  | succ fuel ih =>
    intro listed a w h
    refine ⟨h.1, fun i hi => ?_⟩
    have h1 := h.2 i hi
    unfold wpOp at h1
    unfold wpOpIn
    cases ho : ops[i]? with
    | none =>
      rw [ho] at h1
      exact ih _ _ _ h1.2
    | some o =>
      rw [ho] at h1
      dsimp only at h1 ⊢
      have hm : o ∈ ops.toList := by
        have := Array.mem_of_getElem? ho
        simpa using this
      split
      · rename_i hw
        rw [if_pos hw] at h1
        rcases h1 with h1 | ⟨-, h1⟩
        · exact wp_in (hd o hm) (by
            unfold Oper.wp at h1 ⊢
            generalize (execOp a.eval o).run P w = r at *
            cases r with
            | ok x w' =>
              cases x with
              | value v => exact ih _ _ _ h1.2
              | skip => exact ih _ _ _ h1.2
              | defer d => exact ih _ _ _ h1.2
              | enter f args => exact Calls.mono h1 (fun e w'' he => by cases e <;> first | exact ih _ _ _ he.2 | exact he)
              | row r args => exact Rows.mono h1 (fun _ _ he => ih _ _ _ he.2)
              | _ => exact h1.elim
            | halt x w' => cases x <;> first | exact h1 | exact h1.elim)
        · exact absurd h1 hL
      · rename_i hw
        rw [if_neg hw] at h1
        exact ⟨fun _ _ => trivial, ih _ _ _ h1.2⟩

theorem wpIn_region_held_drew {P : Program} {n l : Nat} {ops : Array Oper} {Q : Exit → Act → World → Prop} {S : World → Prop} {id : Nat} {a : Act} {w : World} (hm : P.follows .mixedOrders = true)
    (hd : (ops.toList.all fun o => match o.op with | .defer _ => false | _ => true) = true) (hL : ¬ LetsOut Q) (hS : S w.drew)
    (h : S w.drew → wpAnyH P .any ops Q S ops.size (Array.replicate ops.size false) a w.drew) : (Code.region id ops true).wpIn (Fence.wide.inRound l) n P Q a w :=
  wpIn_region_any hm (wpAnyH_in (fun o ho c e => by
    have := List.all_eq_true.1 hd o ho
    rw [e] at this
    cases this) hL _ _ _ _ (h hS))

/-- An end that is no panic. -/
def noPanic (Q : Exit → Act → World → Prop) : Exit → Act → World → Prop
  | .normal, a, w => Q .normal a w
  | .ret, a, w => Q .ret a w
  | .exit i, a, w => Q (.exit i) a w
  | .goto t, a, w => Q (.goto t) a w
  | .panic _, _, _ => False
  | .outgrown, _, _ => False
theorem noPanic_of {Q : Exit → Act → World → Prop} : ∀ (e : Exit) (a : Act) (w : World), noPanic Q e a w → Q e a w
  | .normal, _, _, h => h
  | .ret, _, _, h => h
  | .exit _, _, _, h => h
  | .goto _, _, _, h => h
  | .panic _, _, _, h => h.elim
  | .outgrown, _, _, h => h.elim
theorem leave0 {F : Fence} {n : Nat} {P : Program} {fn : Func} {R : Ending → World → Prop} {tmps : Array Value} {w : World} {v : Value} (hr : (results fn tmps).run P w = .ok v w) (hR : R (.returned v) w) : bodyPostM F n P fn R .ret { tmps := tmps, defers := [] } w :=
  ⟨v, hr, hR⟩
theorem leave1 {F : Fence} {n : Nat} {P : Program} {fn : Func} {R : Ending → World → Prop} {tmps : Array Value} {w : World} {v : Value} {D : Nat} (hK : w.heap[D]? = some (.deferred (some [])))
    (hr : (results fn tmps).run P (w.putObj D (.deferred none)) = .ok v (w.putObj D (.deferred none))) (hR : R (.returned v) (w.putObj D (.deferred none))) : bodyPostM F n P fn R .ret { tmps := tmps, defers := [{ target := .collected D, args := #[] }] } w :=
  ⟨by simp, .inl ⟨_, _, rfl, run_takeDeferred hK, v, hr, hR⟩⟩
end Go.Proofs.YtligofmhbbgalaaGreatDoor.L
