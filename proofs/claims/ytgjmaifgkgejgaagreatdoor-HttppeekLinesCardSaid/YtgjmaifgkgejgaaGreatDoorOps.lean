/- Laws of single operations, in the words of XLib: make, copy, append. No function of the program. -/
import Derived.Test.YtgjmaifgkgejgaaGreatDoorLib
import Derived.Deep.RegionHeld3
import Derived.Deep.DeepCutAuto
set_option linter.unusedVariables false
set_option linter.unusedSimpArgs false
namespace Go.Proofs.YtgjmaifgkgejgaaGreatDoor.L
open Go.RowKit
variable {P : Program} {ops : Array Oper} {rest : List Oper} {o : Oper} {a : Act} {Q : Exit → Act → World → Prop} {W : World}

/-- The walk stands here. -/
def Stop (p : Prop) : Prop := p
theorem Stop.go {p : Prop} (h : p) : Stop p := h
theorem stop {N : Tmp} (_h : o.dst = some N) (h : Stop (wpList P ops Q (o :: rest) a W)) : wpList P ops Q (o :: rest) a W := h
theorem stopc {f : FuncId} {args : Array Value} {R : Ending → World → Prop} (h : Stop (Calls P f args W R)) : Calls P f args W R := h
attribute [irreducible] Stop

theorem cells_one {v : Value} (h : v.oneCell' = true) : v.cells = #[v] := by
  cases v <;> simp_all [Value.oneCell', Value.cells]

theorem run_loadCells_zero (x : Addr) (w : World) : (loadCells x 0).run P w = .ok #[] w := by simpa using run_loadCells_list (P := P) w x [] (by simp)

/-- append(s, x): s of the call's own; x just made, of one element. -/
theorem wp_append1 {α : Type} (enc : α → Value) (x : α) (h1e : (enc x).oneCell' = true) (hg : o.guard = none) (s y : Operand) (t : TypeId)
    (ho : o.op = .call { callee := .builtin .append, args := #[s, y], argTypes := #[t, t] })
    {B e bytes : Nat} {z : Value} (ht : P.underlying t = some (.slice e)) (h2 : (P.info? e).map (fun i => (i.zero, i.size, i.bytes)) = some (some z, 1, bytes)) (hz1 : z.oneCell' = true)
    {v : Value} {xs : List α} (hown : Own enc e B W v xs) (hs : a.eval s = v) (ad : Addr) (c : Nat) (hx : a.eval y = .slice (some ad) 1 c) (hc : W.cell? ad = some (enc x))
    (hlen : (xs.length + 1) * bytes ≤ 140737488355328) (hlen' : xs.length < 140737488355328) (hB : B ≤ W.heap.size)
    (h : ∀ v' W', Own enc e B W' v' (xs ++ [x]) → W.grownBy W' v.ownBlock → wpList P ops Q rest (a.put o.dst v') W') :
    wpList P ops Q (o :: rest) a W := by
  obtain ⟨i, hi, hz, hsz, hb⟩ := info_parts h2
  refine wpList_append_own (W) hg s y t ho B e i z 1 bytes ht hi hz hsz hb (by rw [cells_one hz1]; rfl) (by decide) v xs.length (xs.map enc) hs hown ad 1 c [enc x] hx rfl ?_ ?_ ?_ hlen hB ?_
  · intro j u hj
    match j, hj with
    | 0, hj =>
      simp at hj
      subst hj
      simpa [Addr.add] using hc
  · simpa using h1e
  · simp only [maxLen]
    omega
  · intro v' W' hown' hgrow _
    refine h v' W' ?_ hgrow
    unfold Own
    simpa using hown'

/-- append(s, t...): s of the call's own; t is read. -/
theorem op_appendRd {α : Type} (enc : α → Value) {h1e : ∀ x, (enc x).oneCell' = true} (s y : Operand) (t : TypeId)
    (ho : o.op = .call { callee := .builtin .append, args := #[s, y], argTypes := #[t, t] })
    {B e bytes : Nat} {z : Value} (ht : P.underlying t = some (.slice e)) (h2 : (P.info? e).map (fun i => (i.zero, i.size, i.bytes)) = some (some z, 1, bytes)) (hz1 : z.oneCell' = true)
    {M : Nat → Prop} {v sv : Value} {xs ys : List α} (hown : Own enc e B W v xs) (hrd : Rd (.plain enc h1e) M W sv ys) (hs : a.eval s = v) (hy : a.eval y = sv)
    (hlen : (xs.length + ys.length) * bytes ≤ 140737488355328) (hlen' : xs.length + ys.length ≤ 140737488355328) (hB : B ≤ W.heap.size) {K : Act → World → Prop}
    (h : ∀ v' W', Own enc e B W' v' (xs ++ ys) → W.grownBy W' v.ownBlock → K (a.put o.dst v') W') :
    Oper.wp P o a W K Q := by
  obtain ⟨i, hi, hz, hsz, hb⟩ := info_parts h2
  obtain ⟨A, c, rfl, hl, hm, hc⟩ := hrd
  have hrun : ∃ v' w', (Builtin.append_ #[t, t] o.type #[v, .slice A ys.length c]).run P W = .ok v' w' ∧ Own enc e B w' v' (xs ++ ys) ∧ W.grownBy w' v.ownBlock := by
    by_cases h0 : 0 < ys.length
    · obtain ⟨ad, rfl, hcs⟩ := hc h0
      obtain ⟨v', w', hr, hown', hg', _⟩ := run_append_own (P := P) W B t o.type e i z 1 bytes ht hi hz hsz hb (by rw [cells_one hz1]; rfl) (by decide) v xs.length (xs.map enc) hown ad ys.length c (ys.map enc) (by simp) (by
        intro j u hj
        simp only [List.getElem?_map, Option.map_eq_some_iff] at hj
        obtain ⟨p, hp, rfl⟩ := hj
        obtain ⟨cs, hK, hcc⟩ := hcs.2 j p hp
        obtain rfl : cs = [enc p] := hK
        simpa [Kind.plain] using hcc 0 _ rfl) (by
        intro u hu
        obtain ⟨p, _, rfl⟩ := List.mem_map.1 hu
        exact h1e p) (by simp only [maxLen]; omega) hlen hB
      refine ⟨v', w', hr, ?_, hg'⟩
      unfold Own
      simpa using hown'
    · have hy0 : ys = [] := List.eq_nil_of_length_eq_zero (by omega)
      subst hy0
      refine ⟨v, W, ?_, by simpa using hown, World.grownBy.refl _ _⟩
      rcases hown.2 with ⟨rfl, hn⟩ | ⟨g, cap, cur, rfl, _, _, hnc, _⟩
      · cases A <;> simp [Builtin.append_, run_underlying ht, sizeOf, typeInfo, hi, Builtin.lenOf, Builtin.firstCells, run_loadCells_zero]
      · cases A <;> simp [Builtin.append_, run_underlying ht, sizeOf, typeInfo, hi, Builtin.lenOf, Builtin.firstCells, hnc, storeCells, run_loadCells_zero]
  obtain ⟨v', w', hr, hown', hg'⟩ := hrun
  unfold Oper.wp
  simp [execOp, ho, resolve, invoke, builtin, hs, hy, hr, Result.andThen]
  exact h v' w' hown' hg'
theorem wp_appendRd {α : Type} (enc : α → Value) {h1e : ∀ x, (enc x).oneCell' = true} (hg : o.guard = none) (s y : Operand) (t : TypeId)
    (ho : o.op = .call { callee := .builtin .append, args := #[s, y], argTypes := #[t, t] })
    {B e bytes : Nat} {z : Value} (ht : P.underlying t = some (.slice e)) (h2 : (P.info? e).map (fun i => (i.zero, i.size, i.bytes)) = some (some z, 1, bytes)) (hz1 : z.oneCell' = true)
    {M : Nat → Prop} {v sv : Value} {xs ys : List α} (hown : Own enc e B W v xs) (hrd : Rd (.plain enc h1e) M W sv ys) (hs : a.eval s = v) (hy : a.eval y = sv)
    (hlen : (xs.length + ys.length) * bytes ≤ 140737488355328) (hlen' : xs.length + ys.length ≤ 140737488355328) (hB : B ≤ W.heap.size)
    (h : ∀ v' W', Own enc e B W' v' (xs ++ ys) → W.grownBy W' v.ownBlock → wpList P ops Q rest (a.put o.dst v') W') :
    wpList P ops Q (o :: rest) a W :=
  wpList_plain hg fun _ hK => op_appendRd enc s y t ho ht h2 hz1 hown hrd hs hy hlen hlen' hB fun v' W' h1 h2 => hK _ _ (h v' W' h1 h2)
theorem Stp.nil {S : Nat → Prop} {w w1 w2 : World} (h : Stp S w w1) (hg : w1.grownBy w2 (Value.slice none 0 0).ownBlock) : Stp S w w2 :=
  h.grown hg (fun k hk _ => by simp [Value.ownBlock] at hk)
theorem Stp.new {S : Nat → Prop} {w w1 w2 : World} {g : Nat} (h : Stp S w w1) (k : Stp (fun k => k = g) w1 w2) (hg : w.heap.size ≤ g) : Stp S w w2 := h.then_ k (fun k hk h => absurd h (by omega))
theorem Stp.setg {w w1 : World} {g : Nat} (h : Stp (fun k => k = g) w w1) (j : Nat) (u : Value) : Stp (fun k => k = g) w (w1.setCell ⟨g, j, none⟩ u) := h.setCell (fun _ => rfl) u
theorem Stp.to {S : Nat → Prop} {w w1 : World} (h : Stp (fun _ => False) w w1) : Stp S w w1 := h.mono (fun _ _ h => h.elim)
theorem blk_cell {w : World} {g j : Nat} {cs : Array Value} {t : TypeId} (h : w.heap[g]? = some (.cells cs t (0, 0))) : w.cell? ⟨g, j, none⟩ = cs[j]? := cell_of_row w g j cs t (0, 0) h
theorem blk_free {w : World} {g : Nat} {cs : Array Value} {t : TypeId} (h : w.heap[g]? = some (.cells cs t (0, 0))) (j : Nat) : w.frozen? ⟨g, j, none⟩ = false := frozen_of_row w g j cs t h
theorem blk_lt {w : World} {g : Nat} {o : Obj} (h : w.heap[g]? = some o) : g < w.heap.size := (Array.getElem?_eq_some_iff.1 h).1
theorem Stp.blk {S : Nat → Prop} {w w1 : World} (h : Stp S w w1) {g : Nat} {o : Obj} (hb : w.heap[g]? = some o) (hS : ¬ S g) : w1.heap[g]? = some o := (h.block g (blk_lt hb) hS).trans hb
theorem blk_set {w : World} {g : Nat} {cs : Array Value} {t : TypeId} {fr : Nat × Nat} (h : w.heap[g]? = some (.cells cs t fr)) (j : Nat) (u : Value) : (w.setCell ⟨g, j, none⟩ u).heap[g]? = some (.cells (cs.setIfInBounds j u) t fr) := by
  have hlt := blk_lt h
  simp only [World.setCell, Array.getElem?_modify, if_pos, h]
  rfl

theorem add_add (a : Addr) (i j : Nat) : (a.add i).add j = a.add (i + j) := by
  unfold Addr.add
  by_cases h1 : i = 0 <;> by_cases h2 : j = 0 <;> simp [h1, h2, Nat.add_assoc]

/-- xs[l:h] -/
theorem cut_lh {α : Type} (d : Kind α) (t e : TypeId) (ht : P.underlying t = some (.slice e)) (hsz : (P.info? e).map (·.size) = some d.sz) (A : Option Addr) (n c l h : Nat) (hlh : l ≤ h) (hn : h ≤ n) (hnc : n ≤ c) :
    ∃ A', (∀ (W : World) (kl kh : IntKind), (Instr.slice t (.slice A n c) (some (.int kl (l : Int))) (some (.int kh (h : Int))) none).run P W = .ok (.slice A' (h - l) (c - l)) W) ∧
      ∀ (M : Nat → Prop) (W : World) (xs : List α), Rd d M W (.slice A n c) xs → Rd d M W (.slice A' (h - l) (c - l)) ((xs.take h).drop l) := by
  obtain ⟨i, hi, hs⟩ := Option.map_eq_some_iff.1 hsz
  refine ⟨if c = l then A else A.map (·.add (l * d.sz)), fun W kl kh => ?_, fun M W xs hr => ?_⟩
  · have hel : P.elem t = e := by simp [Program.elem, ht]
    have hu : P.underlying t = some (.slice (P.elem t)) := by rw [hel]; exact ht
    rw [run_slice_lh W t A n c hu kl kh (l : Int) (h : Int) (Int.natCast_nonneg _) (by omega) (by omega), hel]
    simp [sizeOf, typeInfo, hi, hs, sliced, Result.andThen]
  · obtain ⟨rfl, hl, hmx, hc⟩ := hr.at_
    have hlen : ((xs.take h).drop l).length = h - l := by
      rw [List.length_drop, List.length_take]
      omega
    refine ⟨_, c - l, by rw [hlen], by rw [hlen]; omega, by omega, fun hp => ?_⟩
    rw [hlen] at hp
    obtain ⟨ad, rfl, hcs⟩ := hc (by omega)
    rw [if_neg (by omega)]
    refine ⟨_, rfl, by rw [add_block]; exact hcs.1, fun j p hj => ?_⟩
    rw [List.getElem?_drop, List.getElem?_take] at hj
    split at hj
    · obtain ⟨cs, hK, hcc⟩ := hcs.2 _ p hj
      refine ⟨cs, hK, fun i u hu => ?_⟩
      rw [add_add, ← Nat.add_assoc, ← Nat.add_mul]
      exact hcc i u hu
    · cases hj

/-- xs[:h] -/
theorem cut_hi {α : Type} (d : Kind α) (t e : TypeId) (ht : P.underlying t = some (.slice e)) (hsz : (P.info? e).map (·.size) = some d.sz) (A : Option Addr) (n c h : Nat) (hn : h ≤ n) (hnc : n ≤ c) :
    (∀ (W : World) (kh : IntKind), (Instr.slice t (.slice A n c) none (some (.int kh (h : Int))) none).run P W = .ok (.slice A h c) W) ∧
      ∀ (M : Nat → Prop) (W : World) (xs : List α), Rd d M W (.slice A n c) xs → Rd d M W (.slice A h c) (xs.take h) := by
  obtain ⟨i, hi, hs⟩ := Option.map_eq_some_iff.1 hsz
  refine ⟨fun W kh => ?_, fun M W xs hr => ?_⟩
  · have hel : P.elem t = e := by simp [Program.elem, ht]
    have hu : P.underlying t = some (.slice (P.elem t)) := by rw [hel]; exact ht
    rw [run_slice_h W t A n c hu kh (h : Int) (Int.natCast_nonneg _) (by omega), hel]
    cases A <;> simp [sizeOf, typeInfo, hi, hs, sliced, Result.andThen, Addr.add]
  · obtain ⟨rfl, hl, hmx, hc⟩ := hr.at_
    have hlen : (xs.take h).length = h := by rw [List.length_take]; omega
    refine ⟨_, c, by rw [hlen], by omega, by omega, fun hp => ?_⟩
    rw [hlen] at hp
    obtain ⟨ad, rfl, hcs⟩ := hc (by omega)
    refine ⟨_, rfl, hcs.1, fun j p hj => ?_⟩
    rw [List.getElem?_take] at hj
    split at hj
    · exact hcs.2 _ p hj
    · cases hj

/-- What a slice reads as is a string's bytes. -/
def strB (l : List UInt8) : ByteArray := ⟨l.toArray⟩
/-- A literal of plain elements, just made. -/
theorem Own.lit {α : Type} {enc : α → Value} {e B : Nat} {W : World} (xs : List α) (cs : Array Value) (hcs : cs.toList = xs.map enc) (hB : B ≤ W.heap.size) (hl : xs.length ≤ 9223372036854775807) :
    Own enc e B (W.alloc (.cells cs e)) (.slice (some ⟨W.heap.size, 0, none⟩) xs.length xs.length) xs := by
  have hs : cs.size = xs.length := by rw [← Array.length_toList, hcs, List.length_map]
  have := World.ownsRow_lit (w := W) (base := B) (e := e) (size := 1) cs xs.length hB (by simpa [maxLen] using hl) (by omega)
  unfold Own
  rw [← hcs]
  exact this
/-- An append (or a copy) to what the call itself made. -/
theorem Stp.own {α : Type} {enc : α → Value} {e : Nat} {S : Nat → Prop} {w w1 w2 : World} {v : Value} {xs : List α} (h : Stp S w w1) (ho : Own enc e w.heap.size w1 v xs) (hg : w1.grownBy w2 v.ownBlock) : Stp S w w2 :=
  h.grown hg (fun k hk hlt => absurd (ho.lt k hk).1 (by omega))

section
variable {α : Type} {enc : α → Value} {e B : Nat} {w : World} {A : Option Addr} {n c : Nat} {xs : List α}
/-- An own slice that is not empty: its block. -/
theorem Own.at_ (h : Own enc e B w (.slice A n c) xs) (hp : 0 < xs.length) : ∃ g, A = some ⟨g, 0, none⟩ ∧ n = xs.length ∧ B ≤ g ∧ g < w.heap.size := by
  rcases h.2 with ⟨h1, h2⟩ | ⟨g, cap, cur, hv, hb, hgg, _⟩
  · omega
  · injection hv with h1 h2 h3
    exact ⟨g, h1, h2, hb, blk_lt hgg⟩
theorem Own.cellAt {g : Nat} (h : Own enc e B w (.slice (some ⟨g, 0, none⟩) n c) xs) (j : Nat) (hj : j < xs.length) : w.cell? ⟨g, j, none⟩ = some (enc xs[j]) := by
  rcases h.2 with ⟨h1, _⟩ | ⟨g', cap, cur, hv, _⟩
  · simp at h1
  · have hn : n = xs.length := by injection hv
    subst hn
    rw [World.ownsRow.cellAt h j (by omega)]
    simp [hj]
theorem Own.free {g : Nat} (h : Own enc e B w (.slice (some ⟨g, 0, none⟩) n c) xs) (j : Nat) : w.frozen? ⟨g, j, none⟩ = false := by
  rcases h.2 with ⟨h1, _⟩ | ⟨g', cap, cur, hv, _⟩
  · simp at h1
  · have hn : n = xs.length := by injection hv
    subst hn
    exact World.ownsRow.frozenAt h j
theorem Own.set_ {g : Nat} (h : Own enc e B w (.slice (some ⟨g, 0, none⟩) n c) xs) (j : Nat) (x : α) : Own enc e B (w.setCell ⟨g, j, none⟩ (enc x)) (.slice (some ⟨g, 0, none⟩) n c) (xs.set j x) := by
  rcases h.2 with ⟨h1, _⟩ | ⟨g', cap, cur, hv, _⟩
  · simp at h1
  · have hn : n = xs.length := by injection hv
    subst hn
    have := (World.ownsRow.stored h j (enc x)).1
    unfold Own
    rw [List.length_set, List.map_set]
    exact this
end

/-! ### a region of open order, step by step -/
section
variable {md : Region.Mode} {S T : World → Prop} {fuel : Nat} {listed : Array Bool} {i : Nat}
theorem rg_take {v : Value} (hi : ops[i]? = some o)
    (hs : Region.noSelect ops = true) (hf : Region.free md ops listed i = true) (hr : (Region.ready md ops listed).contains i = true)
    (hQ : ∀ c a w, Q (.panic c) (a.put o.dst v) w → Q (.panic c) a w) (hw : Region.wanted o (yielded ops a.tmps) = true) (hy : ∀ w, S w → (execOp a.eval o).run P w = .ok (.value v) w) (hS : S W)
    (h : wpAnyH P md ops Q S fuel (listed.setIfInBounds i true) (a.put o.dst v) W) : wpAnyH P md ops Q S (fuel + 1) listed a W :=
  wpAnyH_take hi hs hf hr hQ (.inl ⟨hw, hy⟩) hS h
theorem rg_off (hi : ops[i]? = some o)
    (hs : Region.noSelect ops = true) (hf : Region.free md ops listed i = true) (hr : (Region.ready md ops listed).contains i = true)
    (hQ : ∀ c a w, Q (.panic c) (a.put o.dst undef) w → Q (.panic c) a w) (hw : Region.wanted o (yielded ops a.tmps) = false) (hS : S W)
    (h : wpAnyH P md ops Q S fuel (listed.setIfInBounds i true) (a.put o.dst undef) W) : wpAnyH P md ops Q S (fuel + 1) listed a W :=
  wpAnyH_take hi hs hf hr hQ (.inr ⟨hw, rfl⟩) hS h
end
end Go.Proofs.YtgjmaifgkgejgaaGreatDoor.L
