/- Own slices of elements of any kind. No function of the program. -/
import Derived.Test.YtdamgdmipfoalaaGreatDoorCw
import Derived.Test.YtdamgdmipfoalaaGreatDoorOpen
import Derived.Maps.AppendAt
set_option linter.unusedVariables false
set_option linter.unusedSimpArgs false
namespace Go.Proofs.YtdamgdmipfoalaaGreatDoor.L
open Go.RowKit
variable {P : Program} {α : Type} {d : Kind α} {M M' : Nat → Prop} {W W1 : World} {v : Value} {xs : List α} {e B : Nat} {D D' : Nat → Prop}

/-- The elements' cells, one behind the other. -/
def Laid (d : Kind α) (M : Nat → Prop) (W : World) : List α → List Value → Prop
  | [], cs => cs = []
  | x :: xs, cs => ∃ c r, cs = c ++ r ∧ d.K M W x c ∧ Laid d M W xs r
theorem Laid.len {cs : List Value} (h : Laid d M W xs cs) : cs.length = xs.length * d.sz := by
  induction xs generalizing cs with
  | nil => obtain rfl : cs = [] := h; simp
  | cons x xs ih =>
    obtain ⟨c, r, rfl, hK, hr⟩ := h
    rw [List.length_append, d.len hK, ih hr, List.length_cons, Nat.add_mul]
    omega
theorem Laid.one {cs : List Value} (h : Laid d M W xs cs) : ∀ u ∈ cs, u.oneCell' = true := by
  induction xs generalizing cs with
  | nil => obtain rfl : cs = [] := h; simp
  | cons x xs ih =>
    obtain ⟨c, r, rfl, hK, hr⟩ := h
    intro u hu
    rcases List.mem_append.1 hu with h | h
    · exact d.one hK u h
    · exact ih hr u h
theorem Laid.step {cs : List Value} (h : Laid d M W xs cs) (hs : ∀ k, k < W.heap.size → ¬ M k → W1.heap[k]? = W.heap[k]?) : Laid d M W1 xs cs := by
  induction xs generalizing cs with
  | nil => exact h
  | cons x xs ih =>
    obtain ⟨c, r, rfl, hK, hr⟩ := h
    exact ⟨c, r, rfl, d.step hs hK, ih hr⟩
theorem Laid.weak {cs : List Value} (h : Laid d M W xs cs) (hM : ∀ k, k < W.heap.size → M' k → M k) : Laid d M' W xs cs := by
  induction xs generalizing cs with
  | nil => exact h
  | cons x xs ih =>
    obtain ⟨c, r, rfl, hK, hr⟩ := h
    exact ⟨c, r, rfl, d.weak hM hK, ih hr⟩
theorem Laid.snoc {cs c : List Value} {x : α} (h : Laid d M W xs cs) (hK : d.K M W x c) : Laid d M W (xs ++ [x]) (cs ++ c) := by
  induction xs generalizing cs with
  | nil =>
    obtain rfl : cs = [] := h
    exact ⟨c, [], by simp, hK, rfl⟩
  | cons y xs ih =>
    obtain ⟨c', r, rfl, hK', hr⟩ := h
    exact ⟨c', r ++ c, by simp, hK', ih hr⟩
theorem Laid.at_ {cs : List Value} (h : Laid d M W xs cs) (j : Nat) (p : α) (hj : xs[j]? = some p) : ∃ c, d.K M W p c ∧ ∀ i u, c[i]? = some u → cs[j * d.sz + i]? = some u := by
  induction xs generalizing cs j with
  | nil => simp at hj
  | cons x xs ih =>
    obtain ⟨c, r, rfl, hK, hr⟩ := h
    have hl := d.len hK
    cases j with
    | zero =>
      simp at hj
      subst hj
      refine ⟨c, hK, fun i u hu => ?_⟩
      have hi := (List.getElem?_eq_some_iff.1 hu).1
      rw [Nat.zero_mul, Nat.zero_add, List.getElem?_append_left hi]
      exact hu
    | succ j =>
      obtain ⟨c', hK', hc'⟩ := ih hr j (by simpa using hj)
      refine ⟨c', hK', fun i u hu => ?_⟩
      rw [List.getElem?_append_right (by rw [hl, Nat.add_mul]; omega), show (j + 1) * d.sz + i - c.length = j * d.sz + i by rw [hl, Nat.add_mul]; omega]
      exact hc' i u hu

/-- An own slice, from B on; what its elements lead to lies in D: blocks from B on, not its own. -/
structure OwnK (d : Kind α) (e B : Nat) (D : Nat → Prop) (W : World) (v : Value) (xs : List α) : Prop where
  row : ∃ cs, Laid d (fun k => ¬ D k) W xs cs ∧ W.ownsRow B e d.sz v xs.length cs
  lo : ∀ k, D k → B ≤ k ∧ k < W.heap.size
  apart : ∀ k, v.ownBlock = some k → ¬ D k

theorem OwnK.nil (d : Kind α) (e B : Nat) (W : World) : OwnK d e B (fun _ => False) W (.slice none 0 0) [] :=
  ⟨⟨[], rfl, by simpa using World.ownsRow_nil _ _ _ _⟩, fun _ h => h.elim, fun _ _ h => h⟩
theorem OwnK.lt (h : OwnK d e B D W v xs) : ∀ k, v.ownBlock = some k → B ≤ k ∧ k < W.heap.size := by
  obtain ⟨cs, _, hr⟩ := h.row
  exact hr.lt
theorem ownsRow_step {S : Nat → Prop} {sz n : Nat} {cs : List Value} (h : W.ownsRow B e sz v n cs) (hs : Stp S W W1) (hS : ∀ k, v.ownBlock = some k → ¬ S k) : W1.ownsRow B e sz v n cs := by
  refine ⟨h.1, ?_⟩
  rcases h.2 with hn | ⟨g, cap, cur, rfl, hb, hgg, rest⟩
  · exact .inl hn
  · refine .inr ⟨g, cap, cur, rfl, hb, ?_, rest⟩
    rw [hs.block g (Array.getElem?_eq_some_iff.1 hgg).1 (hS g rfl)]
    exact hgg
theorem OwnK.step {S : Nat → Prop} (h : OwnK d e B D W v xs) (hs : Stp S W W1) (hS : ∀ k, k < W.heap.size → S k → ¬ D k ∧ v.ownBlock ≠ some k) : OwnK d e B D W1 v xs := by
  obtain ⟨cs, hl, hr⟩ := h.row
  refine ⟨⟨cs, hl.step fun k hk hM => hs.block k hk fun h => hM (hS k hk h).1, ownsRow_step hr hs fun k hk h => (hS k (h' k hk) h).2 hk⟩, fun k hk => ⟨(h.lo k hk).1, Nat.lt_of_lt_of_le (h.lo k hk).2 hs.size⟩, h.apart⟩
where h' (k : Nat) (hk : v.ownBlock = some k) : k < W.heap.size := (h.lt k hk).2
theorem OwnK.stp0 (h : OwnK d e B D W v xs) (hs : Stp (fun _ => False) W W1) : OwnK d e B D W1 v xs := h.step hs (fun _ _ h => h.elim)
theorem OwnK.rd (h : OwnK d e B D W v xs) (hM : ∀ k, k < W.heap.size → M k → ¬ D k) (hv : ∀ k, v.ownBlock = some k → ¬ M k) : Rd d M W v xs := by
  obtain ⟨cs, hl, hr⟩ := h.row
  rcases hr.2 with ⟨rfl, hn⟩ | ⟨g, cap, cur, rfl, hb, hgg, hle, hcm, hcs, ht⟩
  · obtain rfl : xs = [] := List.eq_nil_of_length_eq_zero hn
    exact Rd.nil _ _ _
  · refine ⟨_, cap, rfl, hle, hcm, fun hp => ⟨⟨g, 0, none⟩, rfl, hv g rfl, fun j p hj => ?_⟩⟩
    obtain ⟨c, hK, hc⟩ := hl.at_ j p hj
    exact ⟨c, d.weak hM hK, fun i u hu => World.ownsRow.cells hr (g := g) rfl _ u (hc i u hu)⟩
theorem OwnK.form (h : OwnK d e B D W v xs) : ∃ A c, v = .slice A xs.length c ∧ xs.length ≤ c := by
  obtain ⟨cs, _, hr⟩ := h.row
  rcases hr.2 with ⟨rfl, hn⟩ | ⟨g, cap, cur, rfl, hb, hgg, hle, hcm, hcs, ht⟩
  · exact ⟨none, 0, by rw [hn], by omega⟩
  · exact ⟨_, cap, rfl, hle⟩

/-- append(s, x): s of the call's own; x just made, of one element. -/
theorem wp_append1K {ops : Array Oper} {rest : List Oper} {o : Oper} {a : Act} {Q : Exit → Act → World → Prop} (x : α) (hg : o.guard = none) (s y : Operand) (t : TypeId)
    (ho : o.op = .call { callee := .builtin .append, args := #[s, y], argTypes := #[t, t] })
    {bytes : Nat} {z : Value} (ht : P.underlying t = some (.slice e)) (h2 : (P.info? e).map (fun i => (i.zero, i.size, i.bytes)) = some (some z, d.sz, bytes)) (hz1 : z.cells.size = d.sz) (hsz : 0 < d.sz)
    (hown : OwnK d e B D W v xs) (hs : a.eval s = v) (ad : Addr) (c : Nat) (cx : List Value) (hx : a.eval y = .slice (some ad) 1 c) (hc : ∀ j u, cx[j]? = some u → W.cell? (ad.add j) = some u)
    (hK : d.K (fun k => ¬ D' k) W x cx) (hD : ∀ k, D k → D' k) (hlo : ∀ k, D' k → B ≤ k ∧ k < W.heap.size ∧ v.ownBlock ≠ some k)
    (hlen : (xs.length + 1) * bytes ≤ 140737488355328) (hlen' : xs.length < 140737488355328) (hB : B ≤ W.heap.size)
    (h : ∀ v' W', OwnK d e B D' W' v' (xs ++ [x]) → W.grownBy W' v.ownBlock → wpList P ops Q rest (a.put o.dst v') W') :
    wpList P ops Q (o :: rest) a W := by
  obtain ⟨i, hi, hz, hsz', hb⟩ := info_parts h2
  obtain ⟨cs, hl, hr⟩ := hown.row
  refine wpList_append_own_at (W) hg s y t ho B e i z d.sz bytes ht hi hz hsz' hb hz1 hsz v xs.length cs hs hr ad 1 c cx hx (by rw [d.len hK, Nat.one_mul]) hc (d.one hK) (by simp only [maxLen]; omega) hlen hB ?_
  intro v' W' hown' hgrow _ hat
  refine h v' W' ⟨⟨cs ++ cx, ?_, by simpa using hown'⟩, fun k hk => ⟨(hlo k hk).1, Nat.lt_of_lt_of_le (hlo k hk).2.1 hgrow.size⟩, ?_⟩ hgrow
  · refine Laid.step (Laid.snoc (hl.weak fun k _ h h' => h (hD k h')) hK) fun k hk hM => hgrow.block k hk fun he => hM fun hd => (hlo k hd).2.2 he.symm
  · intro k hk hd
    rcases hat with h | h
    · exact (hlo k hd).2.2 (by rw [← h]; exact hk)
    · rw [h] at hk
      injection hk with hk
      have := (hlo k hd).2.1
      omega
theorem alloc_at (W : World) (cs : Array Value) (t : TypeId) (fr : Nat × Nat) (j : Nat) (u : Value) (h : cs.toList[j]? = some u) : (W.alloc (.cells cs t fr)).cell? ((⟨W.heap.size, 0, none⟩ : Addr).add j) = some u := by
  have hadd : (⟨W.heap.size, 0, none⟩ : Addr).add j = ⟨W.heap.size, j, none⟩ := by unfold Addr.add; split <;> simp_all
  rw [hadd, World.cell?_alloc_mark, ← Array.getElem?_toList]
  exact h
theorem Stp.ownK {S : Nat → Prop} {w w1 w2 : World} (h : Stp S w w1) (ho : OwnK d e B D w1 v xs) (hB : w.heap.size ≤ B) (hg : w1.grownBy w2 v.ownBlock) : Stp S w w2 :=
  h.grown hg (fun k hk hlt => absurd (ho.lt k hk).1 (by omega))
end Go.Proofs.YtdamgdmipfoalaaGreatDoor.L
