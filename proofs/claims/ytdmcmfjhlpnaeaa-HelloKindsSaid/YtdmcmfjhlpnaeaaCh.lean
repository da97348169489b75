/- slices.Chunk: pieces of two bytes. -/
import Derived.RangeFuncWrites
import Derived.RangeFuncBound
import Derived.RangeFuncCalls
import Derived.RangeFuncLeaves
import Derived.Shelf.Abstract
import Derived.WalkKit
import Derived.OwnWalkIn
import Derived.TacticsInMore
import Derived.LoopNIn
import Derived.LoopIn
import Derived.Test.YtdmcmfjhlpnaeaaHv
set_option linter.unusedVariables false
set_option linter.unusedSimpArgs false
namespace Go.Proofs.Ytdmcmfjhlpnaeaa.L
open Go.RowKit Go.Proofs

attribute [local go_sem] Oper.semAt_some

/-- What Chunk's own function reads is kept. -/
def Kc (Bs Bn : Nat) (W W' : World) : Prop := (∀ v, W.cell? ⟨Bs, 0, none⟩ = some v → W'.cell? ⟨Bs, 0, none⟩ = some v) ∧ (∀ v, W.cell? ⟨Bn, 0, none⟩ = some v → W'.cell? ⟨Bn, 0, none⟩ = some v)
theorem Kc.refl (Bs Bn : Nat) (W : World) : Kc Bs Bn W W := ⟨fun _ h => h, fun _ h => h⟩
theorem Kc.trans {Bs Bn : Nat} {A B C : World} (h : Kc Bs Bn A B) (k : Kc Bs Bn B C) : Kc Bs Bn A C := ⟨fun v hv => k.1 v (h.1 v hv), fun v hv => k.2 v (h.2 v hv)⟩

set_option maxHeartbeats 1000000 in
theorem chunk_any (A : Option Addr) (n c : Nat) (w : World) :
    Calls Try.prog 73 #[.slice A n c, .int .i64 2] w fun e w' => e = .returned (.func (.func 83) #[] #[.pointer (some ⟨w.heap.size, 0, none⟩), .pointer (some ⟨w.heap.size + 1, 0, none⟩)]) ∧ w' = (w.alloc (.cells #[.slice A n c] 22)).alloc (.cells #[.int .i64 2] 3) := by
  go_enter Try.func73, Try.ntmps73
  go_wp2
  go_ret
  exact ⟨rfl, rfl⟩

set_option maxRecDepth 100000 in
set_option maxHeartbeats 4000000 in
theorem chunk1_in (F : Fence) (n : Nat) (h7 : F.fn 83) (hro : F.round = none) (hn : 1 ≤ n) (l Bs Bn : Nat) (ad : Addr) (m c : Nat) (hm : m ≤ 1000000000) (hc : 2 * m ≤ c) (hcc : c ≤ 9223372036854775807) (J Jx : List (Fin m) → World → Prop) (hJa : ∀ s A, J s A → J s A.drew)
    (hY : ∀ pre x W, J pre W → pre.length < m → YieldAt F (n - 1) Try.prog l #[.slice (some (ad.add (2 * x.1))) 2 2] W fun e W' =>
      (e = .returned (.bool true) ∧ J (pre ++ [x]) W' ∧ Kc Bs Bn W W') ∨ (e = .returned (.bool false) ∧ Jx (pre ++ [x]) W'))
    (W : World) (hBs : W.cell? ⟨Bs, 0, none⟩ = some (.slice (some ad) (2 * m) c)) (hBn : W.cell? ⟨Bn, 0, none⟩ = some (.int .i64 2)) (h0 : J [] W) :
    CallsIn F n Try.prog 83 #[.func (.yield l) #[] #[], .pointer (some ⟨Bs, 0, none⟩), .pointer (some ⟨Bn, 0, none⟩)] W fun e W' => (∃ v, e = .returned v) ∧
      ((∃ ys, ys = List.finRange m ∧ J ys W') ∨ (∃ pre, (∃ k, k ≤ m ∧ pre = (List.finRange m).take k) ∧ Jx pre W')) := by
  refine callsIn_of_wp Try.func83 rfl h7 ?_ hro
  simp only [Try.ntmps83, List.size_toArray, List.length_cons, List.length_nil, Nat.reduceAdd, Nat.reduceSub, Array.replicate_succ, Array.replicate_zero, List.push_toArray, List.append_toArray, List.nil_append, List.cons_append]
  gi_wp2
  gi_loopw [4] (fun i wr => ∃ k : Nat, k ≤ m ∧ i = .int .i64 ((2 * k : Nat) : Int) ∧ J ((List.finRange m).take k) wr ∧ Kc Bs Bn W wr)
    (fun i _ => 2 * m - (intOf i).toNat)
  case atStart => exact ⟨0, Nat.zero_le _, rfl, h0, Kc.refl _ _ _⟩
  case round =>
    obtain ⟨k, hk, rfl, hJs, hnx⟩ := hrel
    have hb1 := hnx.1 _ hBs
    have hb2 := hnx.2 _ hBn
    by_cases hlt : k < m
    · have hx : ((List.finRange m).take (k + 1)) = (List.finRange m).take k ++ [⟨k, hlt⟩] := by
        rw [List.take_add_one, List.getElem?_eq_getElem (by simpa using hlt)]
        simp
      obtain ⟨fn, tmps, assign, body, hy, hR⟩ := hY _ ⟨k, hlt⟩ wr.drew (hJa _ _ hJs) (by simp; omega)
      dsimp only at hy
      have hm2 : 2 * (k : Int) + 2 ≤ 2 * (m : Int) := by omega
      gi_wp2_with fail
      gi_region
      all_goals (rw [if_neg (show ¬ ((2 * m - 2 * k : Nat) : Int) < 2 by omega)]; gi_wp2_with fail)
      all_goals
        refine hR.mono ?_
        rintro e W3 (⟨rfl, hJ3, hk3⟩ | ⟨rfl, hJx3⟩)
        · have hk4 : Kc Bs Bn wr W3 := ⟨fun v hv => hk3.1 v hv, fun v hv => hk3.2 v hv⟩
          have hb3 := hk4.2 _ hb2
          gi_wp2
          go_roundw
          case rel => exact ⟨k + 1, by omega, by simp; omega, by rw [hx]; exact hJ3, hnx.trans hk4⟩
          case measure => simp [intOf]; omega
        · gi_wp2
          refine bodyPost_ret (results_none rfl _ _ _) rfl ?_
          exact ⟨⟨_, rfl⟩, .inr ⟨_, ⟨k + 1, by omega, rfl⟩, by rw [hx]; exact hJx3⟩⟩
    · obtain rfl : k = m := by omega
      gi_wp2
      go_end0
      exact ⟨⟨_, rfl⟩, .inl ⟨_, by rw [List.take_of_length_le (by simp)], hJs⟩⟩

theorem chunk_stops (F : Fence) (n : Nat) (h7 : F.fn 83) (hro : F.round = none) (hn : 1 ≤ n) (Bs Bn : Nat) (ad : Addr) (m c : Nat) (hm : m ≤ 1000000000) (hc : 2 * m ≤ c) (hcc : c ≤ 9223372036854775807) (w : World)
    (hs : Bs < w.heap.size) (hb : Bn < w.heap.size) (hBs : w.cell? ⟨Bs, 0, none⟩ = some (.slice (some ad) (2 * m) c)) (hBn : w.cell? ⟨Bn, 0, none⟩ = some (.int .i64 2)) :
    SeqStopsK F n Try.prog 83 #[.pointer (some ⟨Bs, 0, none⟩), .pointer (some ⟨Bn, 0, none⟩)] (fun x : Fin m => #[.slice (some (ad.add (2 * x.1))) 2 2]) (Kc Bs Bn) (fun ys => ys = List.finRange m) (fun pre => ∃ k, k ≤ m ∧ pre = (List.finRange m).take k) m w :=
  fun l J Jx W hW hJ hJx hY h0 =>
    chunk1_in F n h7 hro hn l Bs Bn ad m c hm hc hcc J Jx (fun s A hs => hJ s A A.drew none hs ⟨rfl, rfl, rfl, Nat.le_refl _, fun _ _ _ => rfl⟩ (fun r e => by cases e)) hY W
      ((hW.cell (p := ⟨Bs, 0, none⟩) hs).trans hBs) ((hW.cell (p := ⟨Bn, 0, none⟩) hb).trans hBn) h0

/-- A loop of one variable over an iterator; its variable's slot is written from the parameter's. -/
theorem wpIn_range1 {F : Fence} {n : Nat} {P : Program} {α : Type} {g : Operand} {p q : Nat} {assign body : Code} {Q : Exit → Act → World → Prop} {a : Act} {w : World}
    (hro : F.round = none) (h1 : 1 ≤ n) {gf : Nat} {lb : Array Value} (hg : a.eval g = .func (.func gf) #[] lb) (hFg : F.fn gf) (eg : ∀ args w, (callFunc gf args).run P w = .ok (.enter gf args) w)
    (val : α → Value) {Kp : World → World → Prop} {S Sp : List α → Prop} {N : Nat} {w0 : World} (hseq : SeqStopsK F (n - 1) P gf lb (fun x => #[val x]) Kp S Sp N w0)
    (hKt : ∀ {A B C : World}, Kp A B → Kp B C → Kp A C) (hKb : ∀ (W : World) (l : Nat) (o o' : Obj), w.heap.size ≤ l → W.heap[l]? = some o → o.isCells = false → o.isWalk = false → Kp W (W.putObj l o')) (hb0 : Below w0.heap.size w0 w)
    (I : List α → World → Prop) (hI : OwnFrom w.heap.size I) (h0 : I [] w)
    (hassign : ∀ (l : Nat) (x : α) (W : World) (K : Act → World → Prop), K { tmps := (a.tmps.setIfInBounds p (val x)).setIfInBounds q (val x), defers := [] } W →
      assign.wpIn (F.inRound l) (n - 1 - 1) P (Exit.then K (fun _ _ _ => False)) { tmps := a.tmps.setIfInBounds p (val x), defers := [] } W)
    (hbody : ∀ (l : Nat) (pre : List α) (x : α) (W : World), I pre W → pre.length < N → body.wpIn (F.inRound l) (n - 1 - 1) P (ownPostG w.heap.size Kp I (fun _ _ _ => False) (pre ++ [x]) W) { tmps := (a.tmps.setIfInBounds p (val x)).setIfInBounds q (val x), defers := [] } W)
    (hdone : ∀ (D : Nat) (xs : List α) (W : World), w.heap.size ≤ D → S xs → I xs W → W.heap[D]? = some (.deferred (some [])) → Q .normal { a with defers := { target := .collected D, args := #[] } :: a.defers } W) :
    (Code.rangeFunc g #[p] assign body).wpIn F n P Q a w :=
  wpIn_rangeFunc_ownG hro h1 hg hFg eg (encs := fun x => #[val x]) hseq (fun h k => hKt h k) hKb hb0 (fun _ => rfl) I (fun _ _ _ => False) hI (fun c s W W' row h _ _ => h.elim) h0
    (fun x => { tmps := (a.tmps.setIfInBounds p (val x)).setIfInBounds q (val x), defers := [] }) (fun l x W K hK => by have h := hassign l x W K hK; simpa only [List.zip_toArray, List.zip_cons_cons, List.zip_nil_right, List.size_toArray, List.length_cons, List.length_nil, List.foldl_toArray', List.foldl_toArray, List.foldl_cons, List.foldl_nil] using h) hbody hdone (fun _ _ _ _ _ _ h _ => h.elim)
end Go.Proofs.Ytdmcmfjhlpnaeaa.L
