/- Own slices of elements that lead to blocks outside M. No function of the program. -/
import Derived.Test.YtdamgdmipfoalaaGreatDoorKe
set_option linter.unusedVariables false
set_option linter.unusedSimpArgs false
namespace Go.Proofs.YtdamgdmipfoalaaGreatDoor.L
open Go.RowKit
variable {P : Program} {α : Type} {d : Kind α} {M M' : Nat → Prop} {W W1 : World} {v : Value} {xs ys : List α} {e B : Nat}

/-- An own slice, from B on, of elements that read as xs whatever becomes of M. -/
structure OwnM (d : Kind α) (e B : Nat) (M : Nat → Prop) (W : World) (v : Value) (xs : List α) : Prop where
  row : ∃ cs, Laid d M W xs cs ∧ W.ownsRow B e d.sz v xs.length cs

theorem OwnM.nil (d : Kind α) (e B : Nat) (M : Nat → Prop) (W : World) : OwnM d e B M W (.slice none 0 0) [] := ⟨[], rfl, by simpa using World.ownsRow_nil _ _ _ _⟩
theorem OwnM.lt (h : OwnM d e B M W v xs) : ∀ k, v.ownBlock = some k → B ≤ k ∧ k < W.heap.size := by
  obtain ⟨cs, _, hr⟩ := h.row
  exact hr.lt
theorem OwnM.step {S : Nat → Prop} (h : OwnM d e B M W v xs) (hs : Stp S W W1) (hS : ∀ k, k < W.heap.size → S k → M k ∧ v.ownBlock ≠ some k) : OwnM d e B M W1 v xs := by
  obtain ⟨cs, hl, hr⟩ := h.row
  exact ⟨cs, hl.step fun k hk hM => hs.block k hk fun h => hM (hS k hk h).1, ownsRow_step hr hs fun k hk h' => (hS k (h.lt k hk).2 h').2 hk⟩
theorem OwnM.stp0 (h : OwnM d e B M W v xs) (hs : Stp (fun _ => False) W W1) : OwnM d e B M W1 v xs := h.step hs (fun _ _ h => h.elim)
theorem OwnM.weak (h : OwnM d e B M W v xs) (hM : ∀ k, k < W.heap.size → M' k → M k) : OwnM d e B M' W v xs := by
  obtain ⟨cs, hl, hr⟩ := h.row
  exact ⟨cs, hl.weak hM, hr⟩
theorem OwnM.rd (h : OwnM d e B M W v xs) (hM : ∀ k, k < W.heap.size → M' k → M k) (hv : ∀ k, v.ownBlock = some k → ¬ M' k) : Rd d M' W v xs := by
  obtain ⟨cs, hl, hr⟩ := h.row
  rcases hr.2 with ⟨rfl, hn⟩ | ⟨g, cap, cur, rfl, hb, hgg, hle, hcm, hcs, ht⟩
  · obtain rfl : xs = [] := List.eq_nil_of_length_eq_zero hn
    exact Rd.nil _ _ _
  · refine ⟨_, cap, rfl, hle, hcm, fun hp => ⟨⟨g, 0, none⟩, rfl, hv g rfl, fun j p hj => ?_⟩⟩
    obtain ⟨c, hK, hc⟩ := hl.at_ j p hj
    exact ⟨c, d.weak hM hK, fun i u hu => World.ownsRow.cells hr (g := g) rfl _ u (hc i u hu)⟩
theorem OwnM.form (h : OwnM d e B M W v xs) : ∃ A c, v = .slice A xs.length c ∧ xs.length ≤ c := by
  obtain ⟨cs, _, hr⟩ := h.row
  rcases hr.2 with ⟨rfl, hn⟩ | ⟨g, cap, cur, rfl, hb, hgg, hle, hcm, hcs, ht⟩
  · exact ⟨none, 0, by rw [hn], by omega⟩
  · exact ⟨_, cap, rfl, hle⟩
/-- []T{}: just made. -/
theorem OwnM.empty (d : Kind α) (e B : Nat) (M : Nat → Prop) (W : World) (hB : B ≤ W.heap.size) : OwnM d e B M (W.alloc (.cells #[] e)) (.slice (some ⟨W.heap.size, 0, none⟩) 0 0) [] :=
  ⟨[], rfl, by simpa using World.ownsRow_lit (w := W) (base := B) (e := e) (size := d.sz) #[] 0 hB (by decide) (by simp)⟩

theorem Laid.append {cs c : List Value} (h : Laid d M W xs cs) (hK : Laid d M W ys c) : Laid d M W (xs ++ ys) (cs ++ c) := by
  induction xs generalizing cs with
  | nil =>
    obtain rfl : cs = [] := h
    exact hK
  | cons y xs ih =>
    obtain ⟨c', r, rfl, hK', hr⟩ := h
    exact ⟨c', r ++ c, by simp, hK', ih hr⟩

/-- The cells of what is read, one behind the other. -/
theorem cells_flat (ys : List α) (ad : Addr) (h : ∀ j p, ys[j]? = some p → ∃ cs, d.K M W p cs ∧ ∀ i u, cs[i]? = some u → W.cell? (ad.add (j * d.sz + i)) = some u) :
    ∃ cs, Laid d M W ys cs ∧ ∀ j u, cs[j]? = some u → W.cell? (ad.add j) = some u := by
  induction ys generalizing ad with
  | nil => exact ⟨[], rfl, fun j u hj => by simp at hj⟩
  | cons y ys ih =>
    obtain ⟨c, hK, hc⟩ := h 0 y rfl
    obtain ⟨r, hl, hr⟩ := ih (ad.add d.sz) (fun j p hj => by
      obtain ⟨cs, h1, h2⟩ := h (j + 1) p (by simpa using hj)
      refine ⟨cs, h1, fun i u hu => ?_⟩
      rw [addr_add_add, ← Nat.add_assoc, show d.sz + j * d.sz + i = (j + 1) * d.sz + i by rw [Nat.add_mul]; omega]
      exact h2 i u hu)
    refine ⟨c ++ r, ⟨c, r, rfl, hK, hl⟩, fun j u hj => ?_⟩
    have hlen := d.len hK
    rw [List.getElem?_append] at hj
    split at hj
    · have := hc j u hj
      simpa using this
    · have := hr _ u hj
      rw [addr_add_add, hlen, show d.sz + (j - d.sz) = j by omega] at this
      exact this

/-- What a slice reads as just now: its elements whatever becomes of M, itself at once. -/
def Now (d : Kind α) (M : Nat → Prop) (W : World) (v : Value) (xs : List α) : Prop :=
  ∃ A c, v = .slice A xs.length c ∧ (0 < xs.length → ∃ ad, A = some ad ∧ ∀ j p, xs[j]? = some p → ∃ cs, d.K M W p cs ∧ ∀ i u, cs[i]? = some u → W.cell? (ad.add (j * d.sz + i)) = some u)
theorem Rd.now (h : Rd d M W v xs) : Now d M W v xs := by
  obtain ⟨A, c, rfl, hl, hm, hc⟩ := h
  exact ⟨A, c, rfl, fun hp => by obtain ⟨ad, h1, h2⟩ := hc hp; exact ⟨ad, h1, h2.2⟩⟩
theorem Now.litK {fr : Nat × Nat} (xs : List α) (cs : Array Value) (hk : Laid d M (W.alloc (.cells cs e fr)) xs cs.toList) : Now d M (W.alloc (.cells cs e fr)) (.slice (some ⟨W.heap.size, 0, none⟩) xs.length xs.length) xs :=
  ⟨_, xs.length, rfl, fun _ => ⟨_, rfl, fun j p hj => by
    obtain ⟨c, hK, hc⟩ := hk.at_ j p hj
    exact ⟨c, hK, fun i u hu => alloc_at _ _ _ _ _ _ (hc i u hu)⟩⟩⟩

/-- append(s, t...): s of the call's own; t is read. -/
theorem op_appendRdM {o : Oper} {a : Act} {Q : Exit → Act → World → Prop} (s y : Operand) (t : TypeId)
    (ho : o.op = .call { callee := .builtin .append, args := #[s, y], argTypes := #[t, t] })
    {bytes : Nat} {z : Value} (ht : P.underlying t = some (.slice e)) (h2 : (P.info? e).map (fun i => (i.zero, i.size, i.bytes)) = some (some z, d.sz, bytes)) (hz1 : z.cells.size = d.sz) (hsz : 0 < d.sz)
    {sv : Value} (hown : OwnM d e B M W v xs) (hrd : Now d M W sv ys) (hBM : ∀ k, v.ownBlock = some k → M k) (hs : a.eval s = v) (hy : a.eval y = sv)
    (hlen : (xs.length + ys.length) * bytes ≤ 140737488355328) (hlen' : xs.length + ys.length ≤ 140737488355328) (hB : B ≤ W.heap.size) {K : Act → World → Prop}
    (h : ∀ v' W', OwnM d e B M W' v' (xs ++ ys) → W.grownBy W' v.ownBlock → K (a.put o.dst v') W') :
    Oper.wp P o a W K Q := by
  obtain ⟨i, hi, hz, hsz', hb⟩ := info_parts h2
  obtain ⟨A, c, rfl, hc⟩ := hrd
  obtain ⟨cs, hla, hr⟩ := hown.row
  have hrun : ∃ v' w', (Builtin.append_ #[t, t] o.type #[v, .slice A ys.length c]).run P W = .ok v' w' ∧ OwnM d e B M w' v' (xs ++ ys) ∧ W.grownBy w' v.ownBlock := by
    by_cases h0 : 0 < ys.length
    · obtain ⟨ad, rfl, hcs⟩ := hc h0
      obtain ⟨cx, hlx, hcx⟩ := cells_flat ys ad hcs
      obtain ⟨v', w', hrr, hown', hg', _⟩ := run_append_own_at (P := P) W B t o.type e i z d.sz bytes ht hi hz hsz' hb hz1 hsz v xs.length cs hr ad ys.length c cx hlx.len hcx hlx.one (by simp only [maxLen]; omega) hlen hB
      refine ⟨v', w', hrr, ⟨cs ++ cx, (hla.append hlx).step fun k hk hM => hg'.block k hk fun he => hM (hBM k he.symm), by simpa using hown'⟩, hg'⟩
    · have hy0 : ys = [] := List.eq_nil_of_length_eq_zero (by omega)
      subst hy0
      refine ⟨v, W, ?_, by simpa using hown, World.grownBy.refl _ _⟩
      rcases hr.2 with ⟨rfl, hn⟩ | ⟨g, cap, cur, rfl, _, _, hnc, _⟩
      · cases A <;> simp [Builtin.append_, run_underlying ht, sizeOf, typeInfo, hi, Builtin.lenOf, Builtin.firstCells, run_loadCells_zero]
      · cases A <;> simp [Builtin.append_, run_underlying ht, sizeOf, typeInfo, hi, Builtin.lenOf, Builtin.firstCells, hnc, storeCells, run_loadCells_zero]
  obtain ⟨v', w', hr, hown', hg'⟩ := hrun
  unfold Oper.wp
  simp [execOp, ho, resolve, invoke, builtin, hs, hy, hr, Result.andThen]
  exact h v' w' hown' hg'
theorem wp_appendRdM {ops : Array Oper} {rest : List Oper} {o : Oper} {a : Act} {Q : Exit → Act → World → Prop} (hg : o.guard = none) (s y : Operand) (t : TypeId)
    (ho : o.op = .call { callee := .builtin .append, args := #[s, y], argTypes := #[t, t] })
    {bytes : Nat} {z : Value} (ht : P.underlying t = some (.slice e)) (h2 : (P.info? e).map (fun i => (i.zero, i.size, i.bytes)) = some (some z, d.sz, bytes)) (hz1 : z.cells.size = d.sz) (hsz : 0 < d.sz)
    {sv : Value} (hown : OwnM d e B M W v xs) (hrd : Now d M W sv ys) (hBM : ∀ k, v.ownBlock = some k → M k) (hs : a.eval s = v) (hy : a.eval y = sv)
    (hlen : (xs.length + ys.length) * bytes ≤ 140737488355328) (hlen' : xs.length + ys.length ≤ 140737488355328) (hB : B ≤ W.heap.size)
    (h : ∀ v' W', OwnM d e B M W' v' (xs ++ ys) → W.grownBy W' v.ownBlock → wpList P ops Q rest (a.put o.dst v') W') :
    wpList P ops Q (o :: rest) a W :=
  wpList_plain hg fun _ hK => op_appendRdM s y t ho ht h2 hz1 hsz hown hrd hBM hs hy hlen hlen' hB fun v' W' h1 h2 => hK _ _ (h v' W' h1 h2)
theorem Stp.ownM {S : Nat → Prop} {w w1 w2 : World} (h : Stp S w w1) (ho : OwnM d e B M w1 v xs) (hB : w.heap.size ≤ B) (hg : w1.grownBy w2 v.ownBlock) : Stp S w w2 :=
  h.grown hg (fun k hk hlt => absurd (ho.lt k hk).1 (by omega))
end Go.Proofs.YtdamgdmipfoalaaGreatDoor.L
