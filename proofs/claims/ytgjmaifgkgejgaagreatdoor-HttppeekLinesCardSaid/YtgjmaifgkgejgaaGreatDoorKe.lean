/- Own slices of elements of any kind. No function of the program. -/
import Derived.Test.YtgjmaifgkgejgaaGreatDoorCw
import Derived.Test.YtgjmaifgkgejgaaGreatDoorOpen
import Derived.Maps.AppendAt
set_option linter.unusedVariables false
set_option linter.unusedSimpArgs false
namespace Go.Proofs.YtgjmaifgkgejgaaGreatDoor.L
open Go.RowKit
variable {P : Program} {α : Type} {d : Kind α} {M M' : Nat → Prop} {W W1 : World} {v : Value} {xs : List α} {e B : Nat} {D D' : Nat → Prop}

/-- The elements' cells, one behind the other. -/
def Laid (d : Kind α) (M : Nat → Prop) (W : World) : List α → List Value → Prop
  | [], cs => cs = []
  | x :: xs, cs => ∃ c r, cs = c ++ r ∧ d.K M W x c ∧ Laid d M W xs r
theorem Laid.len {cs : List Value} (h : Laid d M W xs cs) : cs.length = xs.length * d.sz := by
  induction xs generalizing cs with
  | nil => obtain rfl : cs = [] := h; simp
  | cons x xs ih =>
    obtain ⟨c, r, rfl, hK, hr⟩ := h
    rw [List.length_append, d.len hK, ih hr, List.length_cons, Nat.add_mul]
    omega
theorem Laid.one {cs : List Value} (h : Laid d M W xs cs) : ∀ u ∈ cs, u.oneCell' = true := by
  induction xs generalizing cs with
  | nil => obtain rfl : cs = [] := h; simp
  | cons x xs ih =>
    obtain ⟨c, r, rfl, hK, hr⟩ := h
    intro u hu
    rcases List.mem_append.1 hu with h | h
    · exact d.one hK u h
    · exact ih hr u h
theorem Laid.step {cs : List Value} (h : Laid d M W xs cs) (hs : ∀ k, k < W.heap.size → ¬ M k → W1.heap[k]? = W.heap[k]?) : Laid d M W1 xs cs := by
  induction xs generalizing cs with
  | nil => exact h
  | cons x xs ih =>
    obtain ⟨c, r, rfl, hK, hr⟩ := h
    exact ⟨c, r, rfl, d.step hs hK, ih hr⟩
theorem Laid.weak {cs : List Value} (h : Laid d M W xs cs) (hM : ∀ k, k < W.heap.size → M' k → M k) : Laid d M' W xs cs := by
  induction xs generalizing cs with
  | nil => exact h
  | cons x xs ih =>
    obtain ⟨c, r, rfl, hK, hr⟩ := h
    exact ⟨c, r, rfl, d.weak hM hK, ih hr⟩
theorem Laid.snoc {cs c : List Value} {x : α} (h : Laid d M W xs cs) (hK : d.K M W x c) : Laid d M W (xs ++ [x]) (cs ++ c) := by
  induction xs generalizing cs with
  | nil =>
    obtain rfl : cs = [] := h
    exact ⟨c, [], by simp, hK, rfl⟩
  | cons y xs ih =>
    obtain ⟨c', r, rfl, hK', hr⟩ := h
    exact ⟨c', r ++ c, by simp, hK', ih hr⟩
theorem Laid.at_ {cs : List Value} (h : Laid d M W xs cs) (j : Nat) (p : α) (hj : xs[j]? = some p) : ∃ c, d.K M W p c ∧ ∀ i u, c[i]? = some u → cs[j * d.sz + i]? = some u := by
  induction xs generalizing cs j with
  | nil => simp at hj
  | cons x xs ih =>
    obtain ⟨c, r, rfl, hK, hr⟩ := h
    have hl := d.len hK
    cases j with
    | zero =>
      simp at hj
      subst hj
      refine ⟨c, hK, fun i u hu => ?_⟩
      have hi := (List.getElem?_eq_some_iff.1 hu).1
      rw [Nat.zero_mul, Nat.zero_add, List.getElem?_append_left hi]
      exact hu
    | succ j =>
      obtain ⟨c', hK', hc'⟩ := ih hr j (by simpa using hj)
      refine ⟨c', hK', fun i u hu => ?_⟩
      rw [List.getElem?_append_right (by rw [hl, Nat.add_mul]; omega), show (j + 1) * d.sz + i - c.length = j * d.sz + i by rw [hl, Nat.add_mul]; omega]
      exact hc' i u hu

/-- An own slice, from B on; what its elements lead to lies in D: blocks from B on, not its own. -/
structure OwnK (d : Kind α) (e B : Nat) (D : Nat → Prop) (W : World) (v : Value) (xs : List α) : Prop where
  row : ∃ cs, Laid d (fun k => ¬ D k) W xs cs ∧ W.ownsRow B e d.sz v xs.length cs
  lo : ∀ k, D k → B ≤ k ∧ k < W.heap.size
  apart : ∀ k, v.ownBlock = some k → ¬ D k

theorem OwnK.nil (d : Kind α) (e B : Nat) (W : World) : OwnK d e B (fun _ => False) W (.slice none 0 0) [] :=
  ⟨⟨[], rfl, by simpa using World.ownsRow_nil _ _ _ _⟩, fun _ h => h.elim, fun _ _ h => h⟩
theorem OwnK.lt (h : OwnK d e B D W v xs) : ∀ k, v.ownBlock = some k → B ≤ k ∧ k < W.heap.size := by
  obtain ⟨cs, _, hr⟩ := h.row
  exact hr.lt
theorem ownsRow_step {S : Nat → Prop} {sz n : Nat} {cs : List Value} (h : W.ownsRow B e sz v n cs) (hs : Stp S W W1) (hS : ∀ k, v.ownBlock = some k → ¬ S k) : W1.ownsRow B e sz v n cs := by
  refine ⟨h.1, ?_⟩
  rcases h.2 with hn | ⟨g, cap, cur, rfl, hb, hgg, rest⟩
  · exact .inl hn
  · refine .inr ⟨g, cap, cur, rfl, hb, ?_, rest⟩
    rw [hs.block g (Array.getElem?_eq_some_iff.1 hgg).1 (hS g rfl)]
    exact hgg
theorem OwnK.step {S : Nat → Prop} (h : OwnK d e B D W v xs) (hs : Stp S W W1) (hS : ∀ k, k < W.heap.size → S k → ¬ D k ∧ v.ownBlock ≠ some k) : OwnK d e B D W1 v xs := by
  obtain ⟨cs, hl, hr⟩ := h.row
  refine ⟨⟨cs, hl.step fun k hk hM => hs.block k hk fun h => hM (hS k hk h).1, ownsRow_step hr hs fun k hk h => (hS k (h' k hk) h).2 hk⟩, fun k hk => ⟨(h.lo k hk).1, Nat.lt_of_lt_of_le (h.lo k hk).2 hs.size⟩, h.apart⟩
where h' (k : Nat) (hk : v.ownBlock = some k) : k < W.heap.size := (h.lt k hk).2
theorem OwnK.stp0 (h : OwnK d e B D W v xs) (hs : Stp (fun _ => False) W W1) : OwnK d e B D W1 v xs := h.step hs (fun _ _ h => h.elim)
theorem OwnK.rd (h : OwnK d e B D W v xs) (hM : ∀ k, k < W.heap.size → M k → ¬ D k) (hv : ∀ k, v.ownBlock = some k → ¬ M k) : Rd d M W v xs := by
  obtain ⟨cs, hl, hr⟩ := h.row
  rcases hr.2 with ⟨rfl, hn⟩ | ⟨g, cap, cur, rfl, hb, hgg, hle, hcm, hcs, ht⟩
  · obtain rfl : xs = [] := List.eq_nil_of_length_eq_zero hn
    exact Rd.nil _ _ _
  · refine ⟨_, cap, rfl, hle, hcm, fun hp => ⟨⟨g, 0, none⟩, rfl, hv g rfl, fun j p hj => ?_⟩⟩
    obtain ⟨c, hK, hc⟩ := hl.at_ j p hj
    exact ⟨c, d.weak hM hK, fun i u hu => World.ownsRow.cells hr (g := g) rfl _ u (hc i u hu)⟩
theorem OwnK.form (h : OwnK d e B D W v xs) : ∃ A c, v = .slice A xs.length c ∧ xs.length ≤ c := by
  obtain ⟨cs, _, hr⟩ := h.row
  rcases hr.2 with ⟨rfl, hn⟩ | ⟨g, cap, cur, rfl, hb, hgg, hle, hcm, hcs, ht⟩
  · exact ⟨none, 0, by rw [hn], by omega⟩
  · exact ⟨_, cap, rfl, hle⟩

end Go.Proofs.YtgjmaifgkgejgaaGreatDoor.L

/-! Own slices of elements that lead to blocks outside M. No function of the program. -/
namespace Go.Proofs.YtgjmaifgkgejgaaGreatDoor.L
open Go.RowKit
variable {P : Program} {α : Type} {d : Kind α} {M M' : Nat → Prop} {W W1 : World} {v : Value} {xs ys : List α} {e B : Nat}

/-- An own slice, from B on, of elements that read as xs whatever becomes of M. -/
structure OwnM (d : Kind α) (e B : Nat) (M : Nat → Prop) (W : World) (v : Value) (xs : List α) : Prop where
  row : ∃ cs, Laid d M W xs cs ∧ W.ownsRow B e d.sz v xs.length cs

theorem OwnM.nil (d : Kind α) (e B : Nat) (M : Nat → Prop) (W : World) : OwnM d e B M W (.slice none 0 0) [] := ⟨[], rfl, by simpa using World.ownsRow_nil _ _ _ _⟩
theorem OwnM.lt (h : OwnM d e B M W v xs) : ∀ k, v.ownBlock = some k → B ≤ k ∧ k < W.heap.size := by
  obtain ⟨cs, _, hr⟩ := h.row
  exact hr.lt
theorem OwnM.step {S : Nat → Prop} (h : OwnM d e B M W v xs) (hs : Stp S W W1) (hS : ∀ k, k < W.heap.size → S k → M k ∧ v.ownBlock ≠ some k) : OwnM d e B M W1 v xs := by
  obtain ⟨cs, hl, hr⟩ := h.row
  exact ⟨cs, hl.step fun k hk hM => hs.block k hk fun h => hM (hS k hk h).1, ownsRow_step hr hs fun k hk h' => (hS k (h.lt k hk).2 h').2 hk⟩
theorem OwnM.stp0 (h : OwnM d e B M W v xs) (hs : Stp (fun _ => False) W W1) : OwnM d e B M W1 v xs := h.step hs (fun _ _ h => h.elim)
theorem OwnM.weak (h : OwnM d e B M W v xs) (hM : ∀ k, k < W.heap.size → M' k → M k) : OwnM d e B M' W v xs := by
  obtain ⟨cs, hl, hr⟩ := h.row
  exact ⟨cs, hl.weak hM, hr⟩
theorem OwnM.rd (h : OwnM d e B M W v xs) (hM : ∀ k, k < W.heap.size → M' k → M k) (hv : ∀ k, v.ownBlock = some k → ¬ M' k) : Rd d M' W v xs := by
  obtain ⟨cs, hl, hr⟩ := h.row
  rcases hr.2 with ⟨rfl, hn⟩ | ⟨g, cap, cur, rfl, hb, hgg, hle, hcm, hcs, ht⟩
  · obtain rfl : xs = [] := List.eq_nil_of_length_eq_zero hn
    exact Rd.nil _ _ _
  · refine ⟨_, cap, rfl, hle, hcm, fun hp => ⟨⟨g, 0, none⟩, rfl, hv g rfl, fun j p hj => ?_⟩⟩
    obtain ⟨c, hK, hc⟩ := hl.at_ j p hj
    exact ⟨c, d.weak hM hK, fun i u hu => World.ownsRow.cells hr (g := g) rfl _ u (hc i u hu)⟩
theorem OwnM.form (h : OwnM d e B M W v xs) : ∃ A c, v = .slice A xs.length c ∧ xs.length ≤ c := by
  obtain ⟨cs, _, hr⟩ := h.row
  rcases hr.2 with ⟨rfl, hn⟩ | ⟨g, cap, cur, rfl, hb, hgg, hle, hcm, hcs, ht⟩
  · exact ⟨none, 0, by rw [hn], by omega⟩
  · exact ⟨_, cap, rfl, hle⟩
/-- []T{}: just made. -/
theorem OwnM.empty (d : Kind α) (e B : Nat) (M : Nat → Prop) (W : World) (hB : B ≤ W.heap.size) : OwnM d e B M (W.alloc (.cells #[] e)) (.slice (some ⟨W.heap.size, 0, none⟩) 0 0) [] :=
  ⟨[], rfl, by simpa using World.ownsRow_lit (w := W) (base := B) (e := e) (size := d.sz) #[] 0 hB (by decide) (by simp)⟩

theorem Laid.append {cs c : List Value} (h : Laid d M W xs cs) (hK : Laid d M W ys c) : Laid d M W (xs ++ ys) (cs ++ c) := by
  induction xs generalizing cs with
  | nil =>
    obtain rfl : cs = [] := h
    exact hK
  | cons y xs ih =>
    obtain ⟨c', r, rfl, hK', hr⟩ := h
    exact ⟨c', r ++ c, by simp, hK', ih hr⟩

/-- The cells of what is read, one behind the other. -/
theorem cells_flat (ys : List α) (ad : Addr) (h : ∀ j p, ys[j]? = some p → ∃ cs, d.K M W p cs ∧ ∀ i u, cs[i]? = some u → W.cell? (ad.add (j * d.sz + i)) = some u) :
    ∃ cs, Laid d M W ys cs ∧ ∀ j u, cs[j]? = some u → W.cell? (ad.add j) = some u := by
  induction ys generalizing ad with
  | nil => exact ⟨[], rfl, fun j u hj => by simp at hj⟩
  | cons y ys ih =>
    obtain ⟨c, hK, hc⟩ := h 0 y rfl
    obtain ⟨r, hl, hr⟩ := ih (ad.add d.sz) (fun j p hj => by
      obtain ⟨cs, h1, h2⟩ := h (j + 1) p (by simpa using hj)
      refine ⟨cs, h1, fun i u hu => ?_⟩
      rw [addr_add_add, ← Nat.add_assoc, show d.sz + j * d.sz + i = (j + 1) * d.sz + i by rw [Nat.add_mul]; omega]
      exact h2 i u hu)
    refine ⟨c ++ r, ⟨c, r, rfl, hK, hl⟩, fun j u hj => ?_⟩
    have hlen := d.len hK
    rw [List.getElem?_append] at hj
    split at hj
    · have := hc j u hj
      simpa using this
    · have := hr _ u hj
      rw [addr_add_add, hlen, show d.sz + (j - d.sz) = j by omega] at this
      exact this

/-- What a slice reads as just now: its elements whatever becomes of M, itself at once. -/
def Now (d : Kind α) (M : Nat → Prop) (W : World) (v : Value) (xs : List α) : Prop :=
  ∃ A c, v = .slice A xs.length c ∧ (0 < xs.length → ∃ ad, A = some ad ∧ ∀ j p, xs[j]? = some p → ∃ cs, d.K M W p cs ∧ ∀ i u, cs[i]? = some u → W.cell? (ad.add (j * d.sz + i)) = some u)
theorem Rd.now (h : Rd d M W v xs) : Now d M W v xs := by
  obtain ⟨A, c, rfl, hl, hm, hc⟩ := h
  exact ⟨A, c, rfl, fun hp => by obtain ⟨ad, h1, h2⟩ := hc hp; exact ⟨ad, h1, h2.2⟩⟩
/-- append(s, t...): s of the call's own; t is read. -/
theorem op_appendRdM {o : Oper} {a : Act} {Q : Exit → Act → World → Prop} (s y : Operand) (t : TypeId)
    (ho : o.op = .call { callee := .builtin .append, args := #[s, y], argTypes := #[t, t] })
    {bytes : Nat} {z : Value} (ht : P.underlying t = some (.slice e)) (h2 : (P.info? e).map (fun i => (i.zero, i.size, i.bytes)) = some (some z, d.sz, bytes)) (hz1 : z.cells.size = d.sz) (hsz : 0 < d.sz)
    {sv : Value} (hown : OwnM d e B M W v xs) (hrd : Now d M W sv ys) (hBM : ∀ k, v.ownBlock = some k → M k) (hs : a.eval s = v) (hy : a.eval y = sv)
    (hlen : (xs.length + ys.length) * bytes ≤ 140737488355328) (hlen' : xs.length + ys.length ≤ 140737488355328) (hB : B ≤ W.heap.size) {K : Act → World → Prop}
    (h : ∀ v' W', OwnM d e B M W' v' (xs ++ ys) → W.grownBy W' v.ownBlock → K (a.put o.dst v') W') :
    Oper.wp P o a W K Q := by
  obtain ⟨i, hi, hz, hsz', hb⟩ := info_parts h2
  obtain ⟨A, c, rfl, hc⟩ := hrd
  obtain ⟨cs, hla, hr⟩ := hown.row
  have hrun : ∃ v' w', (Builtin.append_ #[t, t] o.type #[v, .slice A ys.length c]).run P W = .ok v' w' ∧ OwnM d e B M w' v' (xs ++ ys) ∧ W.grownBy w' v.ownBlock := by
    by_cases h0 : 0 < ys.length
    · obtain ⟨ad, rfl, hcs⟩ := hc h0
      obtain ⟨cx, hlx, hcx⟩ := cells_flat ys ad hcs
      obtain ⟨v', w', hrr, hown', hg', _⟩ := run_append_own_at (P := P) W B t o.type e i z d.sz bytes ht hi hz hsz' hb hz1 hsz v xs.length cs hr ad ys.length c cx hlx.len hcx hlx.one (by simp only [maxLen]; omega) hlen hB
      refine ⟨v', w', hrr, ⟨cs ++ cx, (hla.append hlx).step fun k hk hM => hg'.block k hk fun he => hM (hBM k he.symm), by simpa using hown'⟩, hg'⟩
    · have hy0 : ys = [] := List.eq_nil_of_length_eq_zero (by omega)
      subst hy0
      refine ⟨v, W, ?_, by simpa using hown, World.grownBy.refl _ _⟩
      rcases hr.2 with ⟨rfl, hn⟩ | ⟨g, cap, cur, rfl, _, _, hnc, _⟩
      · cases A <;> simp [Builtin.append_, run_underlying ht, sizeOf, typeInfo, hi, Builtin.lenOf, Builtin.firstCells, run_loadCells_zero]
      · cases A <;> simp [Builtin.append_, run_underlying ht, sizeOf, typeInfo, hi, Builtin.lenOf, Builtin.firstCells, hnc, storeCells, run_loadCells_zero]
  obtain ⟨v', w', hr, hown', hg'⟩ := hrun
  unfold Oper.wp
  simp [execOp, ho, resolve, invoke, builtin, hs, hy, hr, Result.andThen]
  exact h v' w' hown' hg'
theorem wp_appendRdM {ops : Array Oper} {rest : List Oper} {o : Oper} {a : Act} {Q : Exit → Act → World → Prop} (hg : o.guard = none) (s y : Operand) (t : TypeId)
    (ho : o.op = .call { callee := .builtin .append, args := #[s, y], argTypes := #[t, t] })
    {bytes : Nat} {z : Value} (ht : P.underlying t = some (.slice e)) (h2 : (P.info? e).map (fun i => (i.zero, i.size, i.bytes)) = some (some z, d.sz, bytes)) (hz1 : z.cells.size = d.sz) (hsz : 0 < d.sz)
    {sv : Value} (hown : OwnM d e B M W v xs) (hrd : Now d M W sv ys) (hBM : ∀ k, v.ownBlock = some k → M k) (hs : a.eval s = v) (hy : a.eval y = sv)
    (hlen : (xs.length + ys.length) * bytes ≤ 140737488355328) (hlen' : xs.length + ys.length ≤ 140737488355328) (hB : B ≤ W.heap.size)
    (h : ∀ v' W', OwnM d e B M W' v' (xs ++ ys) → W.grownBy W' v.ownBlock → wpList P ops Q rest (a.put o.dst v') W') :
    wpList P ops Q (o :: rest) a W :=
  wpList_plain hg fun _ hK => op_appendRdM s y t ho ht h2 hz1 hsz hown hrd hBM hs hy hlen hlen' hB fun v' W' h1 h2 => hK _ _ (h v' W' h1 h2)
end Go.Proofs.YtgjmaifgkgejgaaGreatDoor.L
