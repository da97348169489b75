/- Texts of the proof, joined: Ke Be Br Rf Sa Cv As. -/
import Derived.Test.YtligofmhbbgalaaGreatDoorG01
import Derived.Maps.AppendAt
import Derived.Test.YtligofmhbbgalaaGreatDoorProg
import Derived.Deep.RegionHeld3
import Derived.Laws.BytesString
import Derived.Lib.SlBytesConst
import Derived.Lib.ConvBytes
import Derived.Laws.RangeAny
import Derived.Laws.RangeString
import Derived.LoopTactic
set_option linter.unusedVariables false
set_option linter.unusedSimpArgs false
/- Own slices of elements of any kind. No function of the program. -/
namespace Go.Proofs.YtligofmhbbgalaaGreatDoor.L
open Go.RowKit
variable {P : Program} {α : Type} {d : Kind α} {M M' : Nat → Prop} {W W1 : World} {v : Value} {xs : List α} {e B : Nat} {D D' : Nat → Prop}

/-- The elements' cells, one behind the other. -/
def Laid (d : Kind α) (M : Nat → Prop) (W : World) : List α → List Value → Prop
  | [], cs => cs = []
  | x :: xs, cs => ∃ c r, cs = c ++ r ∧ d.K M W x c ∧ Laid d M W xs r
theorem Laid.len {cs : List Value} (h : Laid d M W xs cs) : cs.length = xs.length * d.sz := by
  induction xs generalizing cs with
  | nil => obtain rfl : cs = [] := h; simp
  | cons x xs ih =>
    obtain ⟨c, r, rfl, hK, hr⟩ := h
    rw [List.length_append, d.len hK, ih hr, List.length_cons, Nat.add_mul]
    omega
theorem Laid.one {cs : List Value} (h : Laid d M W xs cs) : ∀ u ∈ cs, u.oneCell' = true := by
  induction xs generalizing cs with
  | nil => obtain rfl : cs = [] := h; simp
  | cons x xs ih =>
    obtain ⟨c, r, rfl, hK, hr⟩ := h
    intro u hu
    rcases List.mem_append.1 hu with h | h
    · exact d.one hK u h
    · exact ih hr u h
theorem Laid.step {cs : List Value} (h : Laid d M W xs cs) (hs : ∀ k, k < W.heap.size → ¬ M k → W1.heap[k]? = W.heap[k]?) : Laid d M W1 xs cs := by
  induction xs generalizing cs with
  | nil => exact h
  | cons x xs ih =>
    obtain ⟨c, r, rfl, hK, hr⟩ := h
    exact ⟨c, r, rfl, d.step hs hK, ih hr⟩
theorem Laid.weak {cs : List Value} (h : Laid d M W xs cs) (hM : ∀ k, k < W.heap.size → M' k → M k) : Laid d M' W xs cs := by
  induction xs generalizing cs with
  | nil => exact h
  | cons x xs ih =>
    obtain ⟨c, r, rfl, hK, hr⟩ := h
    exact ⟨c, r, rfl, d.weak hM hK, ih hr⟩
theorem Laid.snoc {cs c : List Value} {x : α} (h : Laid d M W xs cs) (hK : d.K M W x c) : Laid d M W (xs ++ [x]) (cs ++ c) := by
  induction xs generalizing cs with
  | nil =>
    obtain rfl : cs = [] := h
    exact ⟨c, [], by simp, hK, rfl⟩
  | cons y xs ih =>
    obtain ⟨c', r, rfl, hK', hr⟩ := h
    exact ⟨c', r ++ c, by simp, hK', ih hr⟩
theorem Laid.at_ {cs : List Value} (h : Laid d M W xs cs) (j : Nat) (p : α) (hj : xs[j]? = some p) : ∃ c, d.K M W p c ∧ ∀ i u, c[i]? = some u → cs[j * d.sz + i]? = some u := by
  induction xs generalizing cs j with
  | nil => simp at hj
  | cons x xs ih =>
    obtain ⟨c, r, rfl, hK, hr⟩ := h
    have hl := d.len hK
    cases j with
    | zero =>
      simp at hj
      subst hj
      refine ⟨c, hK, fun i u hu => ?_⟩
      have hi := (List.getElem?_eq_some_iff.1 hu).1
      rw [Nat.zero_mul, Nat.zero_add, List.getElem?_append_left hi]
      exact hu
    | succ j =>
      obtain ⟨c', hK', hc'⟩ := ih hr j (by simpa using hj)
      refine ⟨c', hK', fun i u hu => ?_⟩
      rw [List.getElem?_append_right (by rw [hl, Nat.add_mul]; omega), show (j + 1) * d.sz + i - c.length = j * d.sz + i by rw [hl, Nat.add_mul]; omega]
      exact hc' i u hu

/-- An own slice, from B on; what its elements lead to lies in D: blocks from B on, not its own. -/
structure OwnK (d : Kind α) (e B : Nat) (D : Nat → Prop) (W : World) (v : Value) (xs : List α) : Prop where
  row : ∃ cs, Laid d (fun k => ¬ D k) W xs cs ∧ W.ownsRow B e d.sz v xs.length cs
  lo : ∀ k, D k → B ≤ k ∧ k < W.heap.size
  apart : ∀ k, v.ownBlock = some k → ¬ D k

theorem OwnK.nil (d : Kind α) (e B : Nat) (W : World) : OwnK d e B (fun _ => False) W (.slice none 0 0) [] :=
  ⟨⟨[], rfl, by simpa using World.ownsRow_nil _ _ _ _⟩, fun _ h => h.elim, fun _ _ h => h⟩
theorem OwnK.lt (h : OwnK d e B D W v xs) : ∀ k, v.ownBlock = some k → B ≤ k ∧ k < W.heap.size := by
  obtain ⟨cs, _, hr⟩ := h.row
  exact hr.lt
theorem ownsRow_step {S : Nat → Prop} {sz n : Nat} {cs : List Value} (h : W.ownsRow B e sz v n cs) (hs : Stp S W W1) (hS : ∀ k, v.ownBlock = some k → ¬ S k) : W1.ownsRow B e sz v n cs := by
  refine ⟨h.1, ?_⟩
  rcases h.2 with hn | ⟨g, cap, cur, rfl, hb, hgg, rest⟩
  · exact .inl hn
  · refine .inr ⟨g, cap, cur, rfl, hb, ?_, rest⟩
    rw [hs.block g (Array.getElem?_eq_some_iff.1 hgg).1 (hS g rfl)]
    exact hgg
theorem OwnK.step {S : Nat → Prop} (h : OwnK d e B D W v xs) (hs : Stp S W W1) (hS : ∀ k, k < W.heap.size → S k → ¬ D k ∧ v.ownBlock ≠ some k) : OwnK d e B D W1 v xs := by
  obtain ⟨cs, hl, hr⟩ := h.row
  refine ⟨⟨cs, hl.step fun k hk hM => hs.block k hk fun h => hM (hS k hk h).1, ownsRow_step hr hs fun k hk h => (hS k (h' k hk) h).2 hk⟩, fun k hk => ⟨(h.lo k hk).1, Nat.lt_of_lt_of_le (h.lo k hk).2 hs.size⟩, h.apart⟩
where h' (k : Nat) (hk : v.ownBlock = some k) : k < W.heap.size := (h.lt k hk).2
theorem OwnK.stp0 (h : OwnK d e B D W v xs) (hs : Stp (fun _ => False) W W1) : OwnK d e B D W1 v xs := h.step hs (fun _ _ h => h.elim)
theorem OwnK.rd (h : OwnK d e B D W v xs) (hM : ∀ k, k < W.heap.size → M k → ¬ D k) (hv : ∀ k, v.ownBlock = some k → ¬ M k) : Rd d M W v xs := by
  obtain ⟨cs, hl, hr⟩ := h.row
  rcases hr.2 with ⟨rfl, hn⟩ | ⟨g, cap, cur, rfl, hb, hgg, hle, hcm, hcs, ht⟩
  · obtain rfl : xs = [] := List.eq_nil_of_length_eq_zero hn
    exact Rd.nil _ _ _
  · refine ⟨_, cap, rfl, hle, hcm, fun hp => ⟨⟨g, 0, none⟩, rfl, hv g rfl, fun j p hj => ?_⟩⟩
    obtain ⟨c, hK, hc⟩ := hl.at_ j p hj
    exact ⟨c, d.weak hM hK, fun i u hu => World.ownsRow.cells hr (g := g) rfl _ u (hc i u hu)⟩
theorem OwnK.form (h : OwnK d e B D W v xs) : ∃ A c, v = .slice A xs.length c ∧ xs.length ≤ c := by
  obtain ⟨cs, _, hr⟩ := h.row
  rcases hr.2 with ⟨rfl, hn⟩ | ⟨g, cap, cur, rfl, hb, hgg, hle, hcm, hcs, ht⟩
  · exact ⟨none, 0, by rw [hn], by omega⟩
  · exact ⟨_, cap, rfl, hle⟩

/-- append(s, x): s of the call's own; x just made, of one element. -/
theorem wp_append1K {ops : Array Oper} {rest : List Oper} {o : Oper} {a : Act} {Q : Exit → Act → World → Prop} (x : α) (hg : o.guard = none) (s y : Operand) (t : TypeId)
    (ho : o.op = .call { callee := .builtin .append, args := #[s, y], argTypes := #[t, t] })
    {bytes : Nat} {z : Value} (ht : P.underlying t = some (.slice e)) (h2 : (P.info? e).map (fun i => (i.zero, i.size, i.bytes)) = some (some z, d.sz, bytes)) (hz1 : z.cells.size = d.sz) (hsz : 0 < d.sz)
    (hown : OwnK d e B D W v xs) (hs : a.eval s = v) (ad : Addr) (c : Nat) (cx : List Value) (hx : a.eval y = .slice (some ad) 1 c) (hc : ∀ j u, cx[j]? = some u → W.cell? (ad.add j) = some u)
    (hK : d.K (fun k => ¬ D' k) W x cx) (hD : ∀ k, D k → D' k) (hlo : ∀ k, D' k → B ≤ k ∧ k < W.heap.size ∧ v.ownBlock ≠ some k)
    (hlen : (xs.length + 1) * bytes ≤ 140737488355328) (hlen' : xs.length < 140737488355328) (hB : B ≤ W.heap.size)
    (h : ∀ v' W', OwnK d e B D' W' v' (xs ++ [x]) → W.grownBy W' v.ownBlock → wpList P ops Q rest (a.put o.dst v') W') :
    wpList P ops Q (o :: rest) a W := by
  obtain ⟨i, hi, hz, hsz', hb⟩ := info_parts h2
  obtain ⟨cs, hl, hr⟩ := hown.row
  refine wpList_append_own_at (W) hg s y t ho B e i z d.sz bytes ht hi hz hsz' hb hz1 hsz v xs.length cs hs hr ad 1 c cx hx (by rw [d.len hK, Nat.one_mul]) hc (d.one hK) (by simp only [maxLen]; omega) hlen hB ?_
  intro v' W' hown' hgrow _ hat
  refine h v' W' ⟨⟨cs ++ cx, ?_, by simpa using hown'⟩, fun k hk => ⟨(hlo k hk).1, Nat.lt_of_lt_of_le (hlo k hk).2.1 hgrow.size⟩, ?_⟩ hgrow
  · refine Laid.step (Laid.snoc (hl.weak fun k _ h h' => h (hD k h')) hK) fun k hk hM => hgrow.block k hk fun he => hM fun hd => (hlo k hd).2.2 he.symm
  · intro k hk hd
    rcases hat with h | h
    · exact (hlo k hd).2.2 (by rw [← h]; exact hk)
    · rw [h] at hk
      injection hk with hk
      have := (hlo k hd).2.1
      omega
theorem alloc_at (W : World) (cs : Array Value) (t : TypeId) (fr : Nat × Nat) (j : Nat) (u : Value) (h : cs.toList[j]? = some u) : (W.alloc (.cells cs t fr)).cell? ((⟨W.heap.size, 0, none⟩ : Addr).add j) = some u := by
  have hadd : (⟨W.heap.size, 0, none⟩ : Addr).add j = ⟨W.heap.size, j, none⟩ := by unfold Addr.add; split <;> simp_all
  rw [hadd, World.cell?_alloc_mark, ← Array.getElem?_toList]
  exact h
theorem Stp.ownK {S : Nat → Prop} {w w1 w2 : World} (h : Stp S w w1) (ho : OwnK d e B D w1 v xs) (hB : w.heap.size ≤ B) (hg : w1.grownBy w2 v.ownBlock) : Stp S w w2 :=
  h.grown hg (fun k hk hlt => absurd (ho.lt k hk).1 (by omega))
end Go.Proofs.YtligofmhbbgalaaGreatDoor.L

/-! Own slices of elements that lead to blocks outside M. No function of the program. -/
namespace Go.Proofs.YtligofmhbbgalaaGreatDoor.L
open Go.RowKit
variable {P : Program} {α : Type} {d : Kind α} {M M' : Nat → Prop} {W W1 : World} {v : Value} {xs ys : List α} {e B : Nat}

/-- An own slice, from B on, of elements that read as xs whatever becomes of M. -/
structure OwnM (d : Kind α) (e B : Nat) (M : Nat → Prop) (W : World) (v : Value) (xs : List α) : Prop where
  row : ∃ cs, Laid d M W xs cs ∧ W.ownsRow B e d.sz v xs.length cs

theorem OwnM.nil (d : Kind α) (e B : Nat) (M : Nat → Prop) (W : World) : OwnM d e B M W (.slice none 0 0) [] := ⟨[], rfl, by simpa using World.ownsRow_nil _ _ _ _⟩
theorem OwnM.lt (h : OwnM d e B M W v xs) : ∀ k, v.ownBlock = some k → B ≤ k ∧ k < W.heap.size := by
  obtain ⟨cs, _, hr⟩ := h.row
  exact hr.lt
theorem OwnM.step {S : Nat → Prop} (h : OwnM d e B M W v xs) (hs : Stp S W W1) (hS : ∀ k, k < W.heap.size → S k → M k ∧ v.ownBlock ≠ some k) : OwnM d e B M W1 v xs := by
  obtain ⟨cs, hl, hr⟩ := h.row
  exact ⟨cs, hl.step fun k hk hM => hs.block k hk fun h => hM (hS k hk h).1, ownsRow_step hr hs fun k hk h' => (hS k (h.lt k hk).2 h').2 hk⟩
theorem OwnM.stp0 (h : OwnM d e B M W v xs) (hs : Stp (fun _ => False) W W1) : OwnM d e B M W1 v xs := h.step hs (fun _ _ h => h.elim)
theorem OwnM.weak (h : OwnM d e B M W v xs) (hM : ∀ k, k < W.heap.size → M' k → M k) : OwnM d e B M' W v xs := by
  obtain ⟨cs, hl, hr⟩ := h.row
  exact ⟨cs, hl.weak hM, hr⟩
theorem OwnM.rd (h : OwnM d e B M W v xs) (hM : ∀ k, k < W.heap.size → M' k → M k) (hv : ∀ k, v.ownBlock = some k → ¬ M' k) : Rd d M' W v xs := by
  obtain ⟨cs, hl, hr⟩ := h.row
  rcases hr.2 with ⟨rfl, hn⟩ | ⟨g, cap, cur, rfl, hb, hgg, hle, hcm, hcs, ht⟩
  · obtain rfl : xs = [] := List.eq_nil_of_length_eq_zero hn
    exact Rd.nil _ _ _
  · refine ⟨_, cap, rfl, hle, hcm, fun hp => ⟨⟨g, 0, none⟩, rfl, hv g rfl, fun j p hj => ?_⟩⟩
    obtain ⟨c, hK, hc⟩ := hl.at_ j p hj
    exact ⟨c, d.weak hM hK, fun i u hu => World.ownsRow.cells hr (g := g) rfl _ u (hc i u hu)⟩
theorem OwnM.form (h : OwnM d e B M W v xs) : ∃ A c, v = .slice A xs.length c ∧ xs.length ≤ c := by
  obtain ⟨cs, _, hr⟩ := h.row
  rcases hr.2 with ⟨rfl, hn⟩ | ⟨g, cap, cur, rfl, hb, hgg, hle, hcm, hcs, ht⟩
  · exact ⟨none, 0, by rw [hn], by omega⟩
  · exact ⟨_, cap, rfl, hle⟩
/-- []T{}: just made. -/
theorem OwnM.empty (d : Kind α) (e B : Nat) (M : Nat → Prop) (W : World) (hB : B ≤ W.heap.size) : OwnM d e B M (W.alloc (.cells #[] e)) (.slice (some ⟨W.heap.size, 0, none⟩) 0 0) [] :=
  ⟨[], rfl, by simpa using World.ownsRow_lit (w := W) (base := B) (e := e) (size := d.sz) #[] 0 hB (by decide) (by simp)⟩

theorem Laid.append {cs c : List Value} (h : Laid d M W xs cs) (hK : Laid d M W ys c) : Laid d M W (xs ++ ys) (cs ++ c) := by
  induction xs generalizing cs with
  | nil =>
    obtain rfl : cs = [] := h
    exact hK
  | cons y xs ih =>
    obtain ⟨c', r, rfl, hK', hr⟩ := h
    exact ⟨c', r ++ c, by simp, hK', ih hr⟩

/-- The cells of what is read, one behind the other. -/
theorem cells_flat (ys : List α) (ad : Addr) (h : ∀ j p, ys[j]? = some p → ∃ cs, d.K M W p cs ∧ ∀ i u, cs[i]? = some u → W.cell? (ad.add (j * d.sz + i)) = some u) :
    ∃ cs, Laid d M W ys cs ∧ ∀ j u, cs[j]? = some u → W.cell? (ad.add j) = some u := by
  induction ys generalizing ad with
  | nil => exact ⟨[], rfl, fun j u hj => by simp at hj⟩
  | cons y ys ih =>
    obtain ⟨c, hK, hc⟩ := h 0 y rfl
    obtain ⟨r, hl, hr⟩ := ih (ad.add d.sz) (fun j p hj => by
      obtain ⟨cs, h1, h2⟩ := h (j + 1) p (by simpa using hj)
      refine ⟨cs, h1, fun i u hu => ?_⟩
      rw [addr_add_add, ← Nat.add_assoc, show d.sz + j * d.sz + i = (j + 1) * d.sz + i by rw [Nat.add_mul]; omega]
      exact h2 i u hu)
    refine ⟨c ++ r, ⟨c, r, rfl, hK, hl⟩, fun j u hj => ?_⟩
    have hlen := d.len hK
    rw [List.getElem?_append] at hj
    split at hj
    · have := hc j u hj
      simpa using this
    · have := hr _ u hj
      rw [addr_add_add, hlen, show d.sz + (j - d.sz) = j by omega] at this
      exact this

end Go.Proofs.YtligofmhbbgalaaGreatDoor.L

/- be: numbers as bytes: each function's contract. -/
namespace Go.Proofs.YtligofmhbbgalaaGreatDoor.L
open Go.RowKit Go.Proofs

/-! ### readers -/
/-- What is left to read, and whether something was missing. -/
abbrev RSt := List UInt8 × Bool
def rtake (s : RSt) (n : Int) : List UInt8 × RSt := if s.2 = true ∨ n < 0 ∨ (s.1.length : Int) < n then ([], ([], true)) else (s.1.take n.toNat, (s.1.drop n.toNat, false))
def beNum (l : List UInt8) : Nat := l.foldl (fun n c => n * 256 + c.toNat) 0
def rnum (s : RSt) (size : Int) : Int × RSt := ((beNum (rtake s (clampN size : Nat)).1 : Nat), (rtake s (clampN size : Nat)).2)
def rvec (s : RSt) (size : Int) : List UInt8 × RSt := if (rnum s size).2.2 = true then ([], (rnum s size).2) else rtake (rnum s size).2 (rnum s size).1

/-- A reader at block g; apart from the blocks of M. -/
def IsRd (M : Nat → Prop) (W : World) (g : Nat) (s : RSt) : Prop :=
  ¬ M g ∧ ∃ A c, W.heap[g]? = some (.cells #[.slice A s.1.length c, .bool s.2] 183 (0, 0)) ∧ Rd u8 (fun k => k = g ∨ M k) W (.slice A s.1.length c) s.1

theorem IsRd.step {M S : Nat → Prop} {W W1 : World} {g : Nat} {s : RSt} (h : IsRd M W g s) (hs : Stp S W W1) (hS : ∀ k, k < W.heap.size → S k → M k) : IsRd M W1 g s := by
  obtain ⟨hM, A, c, hg, hr⟩ := h
  exact ⟨hM, A, c, hs.blk hg (fun h => hM (hS g (blk_lt hg) h)), hr.step hs (fun k hk h => .inr (hS k hk h))⟩
theorem IsRd.stp0 {M : Nat → Prop} {W W1 : World} {g : Nat} {s : RSt} (h : IsRd M W g s) (hs : Stp (fun _ => False) W W1) : IsRd M W1 g s := h.step hs (fun _ _ h => h.elim)
theorem IsRd.lt {M : Nat → Prop} {W : World} {g : Nat} {s : RSt} (h : IsRd M W g s) : g < W.heap.size := by
  obtain ⟨_, A, c, hg, _⟩ := h
  exact blk_lt hg
theorem IsRd.weak {M M' : Nat → Prop} {W : World} {g : Nat} {s : RSt} (h : IsRd M W g s) (hM : ∀ k, k < W.heap.size → M' k → M k) : IsRd M' W g s := by
  have hlt := h.lt
  obtain ⟨hMg, A, c, hg, hr⟩ := h
  exact ⟨fun h => hMg (hM g hlt h), A, c, hg, hr.weak (by decide) (fun k hk h => h.elim .inl (fun h => .inr (hM k hk h)))⟩

/-- A new reader is handed back. -/
def NewRd (w : World) (l : List UInt8) (e : Ending) (w' : World) : Prop := ∃ g, e = .returned (.pointer (some ⟨g, 0, none⟩)) ∧ IsRd (fun k => k < w.heap.size) w' g (l, false) ∧ Stp (fun _ => False) w w'

set_option maxHeartbeats 1000000 in
theorem read_any (M : Nat → Prop) (v : Value) (b : List UInt8) (w : World) (hb : Rd u8 M w v b) (hl : b.length ≤ 140737488355328) :
    Calls Tryz.prog 132 #[v] w (NewRd w b) := by
  obtain ⟨A, c, rfl, hle⟩ := hb.form
  have HB := Lib.hid hb
  clear hb
  go_enter Tryz.func132, Tryz.ntmps132
  go_wp2_with (with_reducible refine stop (N := 6) rfl ?_)
  refine Stop.go ?_
  refine wp_make enc8 0 rfl _ _ 22 rfl w.heap.size 5 1 Tryz.underlying22 info_u8 rfl _ _ _ _ b.length b.length rfl rfl rfl rfl (Nat.le_refl _) (by omega) (by omega) (by omega) ?_
  intro v1 w1 ho1 hs1 hb1 hz1 hv1
  subst hv1
  have HO1 := Lib.hid ho1
  have HS1 := Lib.hid hs1
  clear ho1 hs1 hz1 hb1
  go_wp2_with (with_reducible refine stop (N := 9) rfl ?_)
  refine Stop.go ?_
  refine wp_copy enc8 (h1e := fun _ => rfl) rfl _ _ _ _ rfl 5 Tryz.underlying22 size_u8 HO1.out (HB.out.stp0 HS1.out) rfl rfl ?_
  intro w2 ho2 hg2
  have HO2 := Lib.hid ho2
  have HS2 := Lib.hid (HS1.out.own HO1.out hg2)
  clear ho2 hg2
  have e0 : b.take (List.replicate b.length (0 : UInt8)).length ++ (List.replicate b.length (0 : UInt8)).drop b.length = b := by simp
  rw [e0] at HO2
  clear e0
  go_wp2
  go_ret
  have hsz := HS2.out.size
  refine ⟨w2.heap.size, rfl, ⟨by omega, _, _, heap_alloc_new w2 _, ?_⟩, HS2.out.alloc _⟩
  exact (Own.rd (h1 := fun _ => rfl) HO2.out (M := fun k => k = w2.heap.size ∨ k < w.heap.size) (fun k hk h => by
    have h1 := HO2.out.lt k hk
    simp [Value.ownBlock] at hk
    omega)).stp0 ((Stp.refl _ _).alloc _)

/-- What a reader's call hands back, and the reader behind it. -/
def RdRet (M : Nat → Prop) (w : World) (g : Nat) (l : List UInt8) (s : RSt) (e : Ending) (w' : World) : Prop :=
  ∃ v, e = .returned v ∧ Own enc8 5 w.heap.size w' v l ∧ IsRd M w' g s ∧ Stp (fun k => k = g) w w'

set_option maxHeartbeats 1000000 in
theorem take_any (M : Nat → Prop) (g : Nat) (s : RSt) (n : Int) (w : World) (hr : IsRd M w g s) (hl : s.1.length ≤ 140737488355328) :
    Calls Tryz.prog 134 #[.pointer (some ⟨g, 0, none⟩), .int .i64 n] w (RdRet M w g (rtake s n).1 (rtake s n).2) := by
  have HR := Lib.hid hr
  obtain ⟨hM, A, c, hg, hrd⟩ := hr
  have HG := Lib.hid hg
  have HRD := Lib.hid hrd
  have hc0 := blk_cell (j := 0) hg
  have hc1 := blk_cell (j := 1) hg
  have hf0 := blk_free hg 0
  have hf1 := blk_free hg 1
  have hle := (Rd.at_ hrd).2.1
  clear hg hrd
  obtain ⟨l, bad⟩ := s
  simp only at hc0 hc1 hle hl
  by_cases hbad : bad = true ∨ n < 0 ∨ (l.length : Int) < n
  · have hv : rtake (l, bad) n = ([], ([], true)) := by unfold rtake; rw [if_pos hbad]
    rw [hv]
    have hend : ∀ w', w' = (w.setCell ⟨g, 1, none⟩ (.bool true)).setCell ⟨g, 0, none⟩ (.slice none 0 0) → RdRet M w g [] ([], true) (.returned (.slice none 0 0)) w' := by
      rintro w' rfl
      refine ⟨_, rfl, Own.nil _ _ _ _, ⟨hM, none, 0, ?_, Rd.nil _ _ _⟩, ?_⟩
      · simpa using blk_set (blk_set HG.out 1 (.bool true)) 0 (.slice none 0 0)
      · exact ((Stp.refl _ _).setg 1 _).setg 0 _
    have HE := Lib.hid hend
    clear hend hv
    rcases hbad with rfl | h | h
    · go_enter Tryz.func134, Tryz.ntmps134
      go_wp2
      go_ret
      exact HE.out _ rfl
    · cases bad with
      | true => 
        go_enter Tryz.func134, Tryz.ntmps134
        go_wp2
        go_ret
        exact HE.out _ rfl
      | false =>
        go_enter Tryz.func134, Tryz.ntmps134
        go_wp2
        go_ret
        exact HE.out _ rfl
    · cases bad with
      | true => 
        go_enter Tryz.func134, Tryz.ntmps134
        go_wp2
        go_ret
        exact HE.out _ rfl
      | false =>
        by_cases h0 : n < 0
        · omega
        · obtain ⟨m, rfl⟩ := Int.eq_ofNat_of_zero_le (show 0 ≤ n by omega)
          have h' : l.length < m := by omega
          clear h
          go_enter Tryz.func134, Tryz.ntmps134
          go_wp2
          go_ret
          exact HE.out _ rfl
  · have hv : rtake (l, bad) n = (l.take n.toNat, (l.drop n.toNat, false)) := by unfold rtake; rw [if_neg hbad]
    rw [hv]
    clear hv
    simp only [not_or, Bool.not_eq_true] at hbad
    obtain ⟨rfl, h0, h1⟩ := hbad
    obtain ⟨m, rfl⟩ := Int.eq_ofNat_of_zero_le (show 0 ≤ n by omega)
    have hml : m ≤ l.length := by omega
    obtain ⟨A', hcut, hcr⟩ := cut_lo (P := Tryz.prog) u8 22 5 Tryz.underlying22 size_u8 A l.length c m hml
    have HCR := Lib.hid hcr
    have hcut1 := fun W => hcut W .i64
    clear hcr hcut
    simp only [Int.toNat_natCast]
    go_enter Tryz.func134, Tryz.ntmps134
    go_wp2_with (with_reducible refine stop (N := 30) rfl ?_)
    refine Stop.go ?_
    refine wp_make enc8 0 rfl _ _ 22 rfl w.heap.size 5 1 Tryz.underlying22 info_u8 rfl _ _ _ _ m m rfl rfl rfl rfl (Nat.le_refl _) (by omega) (by omega) (by omega) ?_
    intro v1 w1 ho1 hs1 hb1 hz1 hv1
    subst hv1
    have HO1 := Lib.hid ho1
    have HS1 := Lib.hid hs1
    have hd0 := hs1.cell hc0 id
    clear ho1 hs1 hz1 hb1
    go_wp2_with (with_reducible refine stop (N := 36) rfl ?_)
    refine Stop.go ?_
    refine wp_copy enc8 (h1e := fun _ => rfl) rfl _ _ _ _ rfl 5 Tryz.underlying22 size_u8 HO1.out (HRD.out.stp0 HS1.out) rfl rfl ?_
    intro w2 ho2 hg2
    have HO2 := Lib.hid ho2
    have hs2 := HS1.out.own HO1.out hg2
    have hi0 := hs2.cell hc0 id
    have HG2 := Lib.hid (hs2.blk HG.out id)
    have hi1 := blk_free HG2.out 0
    have HS2 := Lib.hid hs2
    clear ho2 hg2 hs2
    have e0 : l.take (List.replicate m (0 : UInt8)).length ++ (List.replicate m (0 : UInt8)).drop l.length = l.take m := by
      rw [List.length_replicate, List.drop_eq_nil_of_le (by simpa using hml), List.append_nil]
    rw [e0] at HO2
    clear e0
    go_wp2
    go_ret
    refine ⟨_, rfl, HO2.out.step (S := fun k => k = g) ?_ ?_, ⟨hM, A', c - m, ?_, ?_⟩, ?_⟩
    · exact (Stp.refl _ _).setg 0 _
    · intro k hk hkg
      have := (HO2.out.lt k hk).1
      have := HR.out.lt
      omega
    · simpa using blk_set HG2.out 0 (.slice A' (l.length - m) (c - m))
    · have := (HCR.out _ _ _ (HRD.out.stp0 HS2.out)).step (S := fun k => k = g) ((Stp.refl _ _).setg 0 (.slice A' (l.length - m) (c - m))) (fun _ _ h => .inl h)
      simpa using this
    · exact HS2.out.to.setg 0 _
end Go.Proofs.YtligofmhbbgalaaGreatDoor.L

/- be: a reader's calls. -/
namespace Go.Proofs.YtligofmhbbgalaaGreatDoor.L
open Go.RowKit Go.Proofs

theorem beNum_snoc (l : List UInt8) (c : UInt8) : beNum (l ++ [c]) = beNum l * 256 + c.toNat := by simp [beNum]
theorem beNum_lt (l : List UInt8) : beNum l < 256 ^ l.length := by
  suffices h : ∀ (l : List UInt8) (n : Nat), l.foldl (fun n c => n * 256 + c.toNat) n < (n + 1) * 256 ^ l.length by
    have := h l 0
    simpa [beNum] using this
  intro l
  induction l with
  | nil => intro n; simp
  | cons c l ih =>
    intro n
    have h1 := ih (n * 256 + c.toNat)
    have h2 := c.toNat_lt
    have h4 : (n + 1) * (256 ^ l.length * 256) = (n + 1) * 256 * 256 ^ l.length := by rw [Nat.mul_assoc, Nat.mul_comm 256]
    rw [List.foldl_cons, List.length_cons, Nat.pow_succ, h4]
    have h3 : (n * 256 + c.toNat + 1) * 256 ^ l.length ≤ (n + 1) * 256 * 256 ^ l.length := Nat.mul_le_mul_right _ (by omega)
    omega
theorem or_u32 (n : Nat) (c : UInt8) (h : n < 16777216) : bits .or .u32 ((n : Int) * 256) ((c.toNat : Int) % 4294967296) = ((n * 256 + c.toNat : Nat) : Int) := by
  have hc := c.toNat_lt
  have e : ((c.toNat : Int) % 4294967296) = c.toNat := by omega
  rw [e, bits_join .u32 32 (Nat.le_refl _) (fun n h0 h1 => by rw [IntKind.wrap_u32]; omega) 8 _ _ (by omega) (by omega) (by omega) (by omega) (by omega) (by omega)]
  simp
theorem take_snoc {α : Type} (l : List α) (k : Nat) (h : k < l.length) : l.take (k + 1) = l.take k ++ [l[k]] := by
  rw [List.take_succ_eq_append_getElem h]

set_option maxHeartbeats 1000000 in
theorem num_any (M : Nat → Prop) (g : Nat) (s : RSt) (size : Int) (w : World) (hr : IsRd M w g s) (hl : s.1.length ≤ 140737488355328) :
    Calls Tryz.prog 133 #[.pointer (some ⟨g, 0, none⟩), .int .i64 size] w fun e w' => e = .returned (.int .i64 (rnum s size).1) ∧ IsRd M w' g (rnum s size).2 ∧ Stp (fun k => k = g) w w' := by
  have HR := Lib.hid hr
  clear hr
  obtain ⟨hs1, hs4⟩ := clampN_le size
  obtain ⟨x, hx⟩ : ∃ x, x = (rtake s (clampN size : Nat)).1 := ⟨_, rfl⟩
  have hxl : x.length ≤ 4 := by
    rw [hx]
    unfold rtake
    split
    · simp
    · simp
      omega
  have HX := Lib.hid hx
  clear hx
  go_enter Tryz.func133, Tryz.ntmps133
  go_wp2_with (first
    | (go_at_call 59; refine (clamp_any _ _).mono ?_; rintro e w' ⟨rfl, rfl⟩)
    | (go_at_call 134; refine stopc ?_))
  refine Stop.go ?_
  refine (take_any M g s _ _ HR.out hl).mono ?_
  rintro e w1 ⟨v1, rfl, ho1, hi1, hs1⟩
  rw [← HX.out] at ho1
  obtain ⟨A, c, rfl, hle⟩ := ho1.form
  have hrd := ho1.rd (h1 := fun _ => rfl) (M := fun _ => False) (fun _ _ => id)
  have HRD := Lib.hid hrd
  have HO := Lib.hid ho1
  have HI := Lib.hid hi1
  have HS := Lib.hid hs1
  clear ho1 hi1 hs1 hrd
  go_wp2
  go_loop [5, 13] (fun n i => ∃ k : Nat, k ≤ x.length ∧ i = .int .i64 k ∧ n = .int .u32 (beNum (x.take k) : Nat)) (fun _ i => x.length - (intOf i).toNat)
  case atStart => exact ⟨0, Nat.zero_le _, rfl, rfl⟩
  case round =>
    obtain ⟨k, hk, rfl, rfl⟩ := hrel
    by_cases hlt : k < x.length
    · obtain ⟨ad, rfl, _, hcell⟩ := plain_cell HRD.out k hlt
      have hb := beNum_lt (x.take k)
      have hb2 : beNum (x.take k) < 16777216 := by
        have h1 : (x.take k).length ≤ 3 := by simp; omega
        have h2 : 256 ^ (x.take k).length ≤ 256 ^ 3 := Nat.pow_le_pow_right (by decide) h1
        omega
      clear hb
      simp only [enc8] at hcell
      go_wp2
      go_round
      case rel => exact ⟨k + 1, by omega, by go_num, by rw [or_u32 _ _ hb2, take_snoc _ _ hlt, beNum_snoc]⟩
      case measure => simp [intOf]; omega
    · obtain rfl : k = x.length := by omega
      have hb := beNum_lt x
      have hb2 : (beNum x : Int) ≤ 4294967295 := by
        have h2 : 256 ^ x.length ≤ 256 ^ 4 := Nat.pow_le_pow_right (by decide) hxl
        omega
      clear hb
      rw [List.take_length]
      go_wp2
      go_ret
      refine ⟨ret_i ?_, HI.out, HS.out⟩
      unfold rnum
      rw [← HX.out]

set_option maxHeartbeats 1000000 in
theorem rvec_any (M : Nat → Prop) (g : Nat) (s : RSt) (size : Int) (w : World) (hr : IsRd M w g s) (hl : s.1.length ≤ 140737488355328) :
    Calls Tryz.prog 135 #[.pointer (some ⟨g, 0, none⟩), .int .i64 size] w (RdRet M w g (rvec s size).1 (rvec s size).2) := by
  have HR := Lib.hid hr
  clear hr
  have hl2 : (rnum s size).2.1.length ≤ 140737488355328 := by
    unfold rnum rtake
    split
    · simp
    · simp
      omega
  have key : ∀ (b : Bool) (w1 : World), (rnum s size).2.2 = b → IsRd M w1 g (rnum s size).2 → w1.cell? ⟨g, 1, none⟩ = some (.bool b) := by
    rintro b w1 rfl ⟨_, A, c, hg, _⟩
    rw [blk_cell hg]
    rfl
  by_cases hb : (rnum s size).2.2 = true
  · have hv : rvec s size = ([], (rnum s size).2) := by unfold rvec; rw [if_pos hb]
    rw [hv]
    have KEY := Lib.hid (fun w1 => key true w1 hb)
    clear key hv hb
    go_enter Tryz.func135, Tryz.ntmps135
    go_wp2_with (go_at_call 133; refine (num_any M g s _ _ HR.out hl).mono ?_; rintro e w1 ⟨rfl, hi1, hs1⟩; have hc := KEY.out _ hi1; have HI := Lib.hid hi1; have HS := Lib.hid hs1; clear hi1 hs1)
    go_ret
    exact ⟨_, rfl, Own.nil _ _ _ _, HI.out, HS.out⟩
  · have hv : rvec s size = rtake (rnum s size).2 (rnum s size).1 := by unfold rvec; rw [if_neg hb]
    rw [hv]
    have KEY := Lib.hid (fun w1 => key false w1 (by simpa using hb))
    clear key hv hb
    go_enter Tryz.func135, Tryz.ntmps135
    go_wp2_with (first
      | (go_at_call 133; refine (num_any M g s _ _ HR.out hl).mono ?_; rintro e w1 ⟨rfl, hi1, hs1⟩; have hc := KEY.out _ hi1; have HI := Lib.hid hi1; have HS := Lib.hid hs1; clear hi1 hs1)
      | (go_at_call 134; refine (take_any M g (rnum s size).2 _ _ HI.out hl2).mono ?_; rintro e w2 ⟨v2, rfl, ho2, hi2, hs2⟩; have HO2 := Lib.hid ho2; have HI2 := Lib.hid hi2; have HS2 := Lib.hid hs2; clear ho2 hi2 hs2))
    go_ret
    exact ⟨_, rfl, HO2.out.lower HS.out.size, HI2.out, HS.out.trans HS2.out⟩

theorem left_any (M : Nat → Prop) (g : Nat) (s : RSt) (w : World) (hr : IsRd M w g s) (hl : s.1.length ≤ 140737488355328) :
    Calls Tryz.prog 162 #[.pointer (some ⟨g, 0, none⟩)] w fun e w' => e = .returned (.int .i64 (s.1.length : Nat)) ∧ w = w' := by
  obtain ⟨_, A, c, hg, _⟩ := hr
  have hc0 := blk_cell (j := 0) hg
  clear hg
  go_enter Tryz.func162, Tryz.ntmps162
  go_wp2
  go_ret
  exact ⟨rfl, rfl⟩

theorem bad_any (M : Nat → Prop) (g : Nat) (s : RSt) (w : World) (hr : IsRd M w g s) :
    Calls Tryz.prog 136 #[.pointer (some ⟨g, 0, none⟩)] w fun e w' => e = .returned (.bool s.2) ∧ w = w' := by
  obtain ⟨_, A, c, hg, _⟩ := hr
  have hc1 := blk_cell (j := 1) hg
  clear hg
  go_enter Tryz.func136, Tryz.ntmps136
  go_wp2
  go_ret
  exact ⟨rfl, rfl⟩

theorem done_any (M : Nat → Prop) (g : Nat) (s : RSt) (w : World) (hr : IsRd M w g s) (hl : s.1.length ≤ 140737488355328) :
    Calls Tryz.prog 138 #[.pointer (some ⟨g, 0, none⟩)] w fun e w' => e = .returned (.bool (!s.2 && (s.1.length : Int) == 0)) ∧ w = w' := by
  obtain ⟨_, A, c, hg, _⟩ := hr
  have hc0 := blk_cell (j := 0) hg
  have hc1 := blk_cell (j := 1) hg
  clear hg
  obtain ⟨l, bad⟩ := s
  cases bad
  · go_enter Tryz.func138, Tryz.ntmps138
    go_wp2
    go_ret
    exact ⟨rfl, rfl⟩
  · go_enter Tryz.func138, Tryz.ntmps138
    go_wp2
    go_ret
    exact ⟨rfl, rfl⟩
end Go.Proofs.YtligofmhbbgalaaGreatDoor.L

/- The document's own be: each function's contract. -/
namespace Go.Proofs.YtligofmhbbgalaaGreatDoor.L
open Go.RowKit Go.Proofs

set_option maxHeartbeats 400000 in
theorem clampR_any (n : Int) (w : World) : Calls Tryz.prog 103 #[.int .i64 n] w fun e w' => e = .returned (.int .i64 (clampN n : Nat)) ∧ w = w' := by
  by_cases h1 : n < 1
  · have e : ((clampN n : Nat) : Int) = 1 := by simp [clampN, h1]
    have h2 : ¬ 4 < n := by omega
    have H := Lib.hid e
    clear e
    go_enter Tryz.func103, Tryz.ntmps103
    go_wp2
    go_ret
    exact ⟨ret_i H.out.symm, rfl⟩
  · by_cases h2 : 4 < n
    · have e : ((clampN n : Nat) : Int) = 4 := by simp [clampN, h1, h2]
      have H := Lib.hid e
      clear e
      go_enter Tryz.func103, Tryz.ntmps103
      go_wp2
      go_ret
      exact ⟨ret_i H.out.symm, rfl⟩
    · have e : ((clampN n : Nat) : Int) = n := by simp [clampN, h1, h2]; omega
      have H := Lib.hid e
      clear e
      go_enter Tryz.func103, Tryz.ntmps103
      go_wp2
      all_goals go_ret
      · exact ⟨ret_i H.out.symm, rfl⟩
      · exact ⟨ret_i (by rw [H.out]; omega), rfl⟩

/-- The document's reader at block g: the bytes B, the place, whether it is bad. -/
def IsRf (M : Nat → Prop) (W : World) (g : Nat) (s : RSt) : Prop :=
  ¬ M g ∧ ∃ A c n, ∃ l : List UInt8, l.length ≤ 140737488355328 ∧ n ≤ l.length ∧ W.heap[g]? = some (.cells #[.slice A l.length c, .int .i64 (n : Nat), .bool s.2] 159 (0, 0)) ∧
    Rd u8 (fun k => k = g ∨ M k) W (.slice A l.length c) l ∧ s.1 = if s.2 = true then [] else l.drop n

/-- What its call hands back, and the reader behind it. -/
def RfRet (M : Nat → Prop) (w : World) (g : Nat) (l : List UInt8) (s : RSt) (e : Ending) (w' : World) : Prop :=
  ∃ v, e = .returned v ∧ Own enc8 5 w.heap.size w' v l ∧ IsRf M w' g s ∧ Stp (fun k => k = g) w w'

set_option maxHeartbeats 1000000 in
theorem takeR_any (M : Nat → Prop) (g : Nat) (s : RSt) (n : Int) (w : World) (hr : IsRf M w g s) :
    Calls Tryz.prog 120 #[.pointer (some ⟨g, 0, none⟩), .int .i64 n] w
      (RfRet M w g (rtake s n).1 (rtake s n).2) := by
  obtain ⟨hM, A, c, p, l, hll, hpl, hg, hrd, hs⟩ := hr
  obtain ⟨s1, bad⟩ := s
  have HG := Lib.hid hg
  have HRD := Lib.hid hrd
  have hc0 := blk_cell (j := 0) hg
  have hc1 := blk_cell (j := 1) hg
  have hc2 := blk_cell (j := 2) hg
  have hf1 := blk_free hg 1
  have hf2 := blk_free hg 2
  have hle := (Rd.at_ hrd).2.1
  have HL := Lib.hid (blk_lt hg)
  simp only at hc0 hc1 hc2
  clear hg hrd
  have hend : ∀ nq, RfRet M w g [] ([], true) (.returned (.slice none 0 0)) ((w.drewN nq).setCell ⟨g, 2, none⟩ (.bool true)) := by
    intro nq
    refine ⟨_, rfl, Own.nil _ _ _ _, ⟨hM, A, c, p, l, hll, hpl, ?_, ?_, rfl⟩, ?_⟩
    · simpa using blk_set (w := w.drewN nq) HG.out 2 (.bool true)
    · exact HRD.out.step (S := fun k => k = g) (((Stp.refl _ _).drewN _).setg 2 _) (fun _ _ h => .inl h)
    · exact ((Stp.refl _ _).drewN _).setg 2 _
  have HE := Lib.hid hend
  clear hend
  cases bad with
  | true =>
    have hv : rtake (s1, true) n = ([], ([], true)) := by unfold rtake; rw [if_pos (.inl rfl)]
    rw [hv]
    clear hv hs
    go_enter Tryz.func120, Tryz.ntmps120
    go_wp2_with fail
    go_quiet (fail)
    go_wp2
    go_ret
    exact HE.out _
  | false =>
    simp only [Bool.false_eq_true, if_false] at hs
    subst hs
    by_cases h0 : n < 0
    · have hv : rtake (l.drop p, false) n = ([], ([], true)) := by unfold rtake; rw [if_pos (.inr (.inl h0))]
      rw [hv]
      clear hv
      go_enter Tryz.func120, Tryz.ntmps120
      go_wp2_with fail
      go_quiet (fail)
      go_wp2
      go_ret
      exact HE.out _
    · obtain ⟨m, rfl⟩ := Int.eq_ofNat_of_zero_le (show 0 ≤ n by omega)
      have hd0 : decide ((m : Int) < 0) = false := by simp
      by_cases h1 : (l.length : Int) - p < m
      · have hv : rtake (l.drop p, false) m = ([], ([], true)) := by unfold rtake; rw [if_pos (.inr (.inr (by simp; omega)))]
        rw [hv]
        clear hv
        go_enter Tryz.func120, Tryz.ntmps120
        go_wp2_with fail
        go_quiet (fail)
        go_wp2
        go_ret
        exact HE.out _
      · have hv : rtake (l.drop p, false) m = ((l.drop p).take m, ((l.drop p).drop m, false)) := by
          unfold rtake; rw [if_neg (by simp; omega)]; simp
        rw [hv]
        clear hv
        have hpm : p + m ≤ l.length := by omega
        have hd1 : decide ((l.length : Int) - p < m) = false := by simpa using h1
        obtain ⟨A', hcut, hcr⟩ := cut_lh (P := Tryz.prog) u8 22 5 Tryz.underlying22 size_u8 A l.length c p (p + m) (by omega) hpm hle
        rw [Nat.add_sub_cancel_left] at hcut hcr
        have HCR := Lib.hid hcr
        have hcut1 := fun W => hcut W .i64 .i64
        simp only [Int.natCast_add] at hcut1
        clear hcr hcut
        go_enter Tryz.func120, Tryz.ntmps120
        go_wp2_with fail
        go_quiet (fail)
        go_wp2
        have e1 : IntKind.i64.wrap ((p : Int) + m) = (p : Int) + m := IntWalk.i64_in _ (by omega)
        have e2 : (0 : Int) ≤ (p : Int) := by omega
        have e3 : (0 : Int) ≤ (p : Int) + m := by omega
        go_region_held3 (fun w' => w'.cell? ⟨g, 0, none⟩ = some (.slice A l.length c) ∧ w'.cell? ⟨g, 1, none⟩ = some (.int .i64 (p : Nat)))
          (first | go_keep | (go_split_ands; exact ⟨by rw [World.cell?_of_block (hg2.block g (by have := HL.out; simp; omega) (by simp [Value.ownBlock]; have := HL.out; omega))]; go_simp, by rw [World.cell?_of_block (hg2.block g (by have := HL.out; simp; omega) (by simp [Value.ownBlock]; have := HL.out; omega))]; go_simp⟩))
          ((refine st_appendRd enc8 (h1e := fun _ => rfl) (by rfl) _ _ _ (by rfl) Tryz.underlying22 info_u8 (by rfl) (Own.lit (B := w.heap.size) ([] : List UInt8) #[] (by rfl) (by simp) (by simp)) (HCR.out (fun k => k = g ∨ M k) _ l (HRD.out.stp0 (by repeat (first | exact Stp.refl _ _ | apply Stp.alloc | apply Stp.drew | apply Stp.drewN)))) (by rfl) (by rfl) (by simp; omega) (by simp; omega) (by simp) ?_; intro v2 w2 ho2 hg2))
        have hsz : (w.drewN (nq + 1)).heap.size = w.heap.size := rfl
        have hs2 : Stp (fun _ => False) w w2 := (((Stp.refl _ _).drewN (nq + 1)).alloc _).grown hg2 (by
          intro k hk hlt
          simp [Value.ownBlock] at hk
          omega)
        have hc1' := hs2.cell hc1 id
        have hg' := hs2.blk HG.out id
        have hf1' := blk_free hg' 1
        have HO2 := Lib.hid ho2
        have HS2 := Lib.hid hs2
        have HG2 := Lib.hid hg'
        clear ho2 hg2 hs2 hg'
        go_wp2
        go_ret
        refine ⟨_, rfl, ?_, ⟨hM, A, c, p + m, l, hll, hpm, ?_, ?_, ?_⟩, ?_⟩
        · have := HO2.out.step (S := fun k => k = g) ((Stp.refl _ _).setg 1 (.int .i64 ((p : Int) + m))) (fun k hk hkg => by
            have := (HO2.out.lt k hk).1
            have := HL.out
            omega)
          rw [List.nil_append, List.drop_take, Nat.add_sub_cancel_left] at this
          exact this
        · simpa using blk_set HG2.out 1 (.int .i64 ((p : Int) + m))
        · exact (HRD.out.stp0 HS2.out).step (S := fun k => k = g) ((Stp.refl _ _).setg 1 _) (fun _ _ h => .inl h)
        · simp [List.drop_drop]
        · exact HS2.out.to.setg 1 _

theorem rtake_len (s : RSt) (n : Int) : (rtake s n).1.length ≤ s.1.length ∧ (rtake s n).2.1.length ≤ s.1.length := by
  unfold rtake
  split
  · simp
  · simp
    omega
theorem rtake4 (s : RSt) (size : Int) : (rtake s (clampN size : Nat)).1.length ≤ 4 := by
  have := (clampN_le size).2
  unfold rtake
  split
  · simp
  · simp
    omega
theorem beNum_le (x : List UInt8) (h : x.length ≤ 4) : (beNum x : Int) ≤ 4294967295 := by
  have hb := beNum_lt x
  have h2 : 256 ^ x.length ≤ 256 ^ 4 := Nat.pow_le_pow_right (by decide) h
  omega

set_option maxHeartbeats 1000000 in
theorem numR_any (M : Nat → Prop) (g : Nat) (s : RSt) (size : Int) (w : World) (hr : IsRf M w g s) :
    Calls Tryz.prog 119 #[.pointer (some ⟨g, 0, none⟩), .int .i64 size] w fun e w' => e = .returned (.int .i64 (rnum s size).1) ∧ IsRf M w' g (rnum s size).2 ∧ Stp (fun k => k = g) w w' := by
  have HR := Lib.hid hr
  clear hr
  have hxl := rtake4 s size
  obtain ⟨x, hx⟩ : ∃ x, x = (rtake s (clampN size : Nat)).1 := ⟨_, rfl⟩
  rw [← hx] at hxl
  have HX := Lib.hid hx
  clear hx
  go_enter Tryz.func119, Tryz.ntmps119
  go_wp2_with (first
    | (go_at_call 103; refine (clampR_any _ _).mono ?_; rintro e w' ⟨rfl, rfl⟩)
    | (go_at_call 120; refine stopc ?_))
  refine Stop.go ?_
  refine (takeR_any M g s _ _ HR.out).mono ?_
  rintro e w1 ⟨v1, rfl, ho1, hi1, hs1⟩
  rw [← HX.out] at ho1
  obtain ⟨A, c, rfl, hle⟩ := ho1.form
  have hrd := ho1.rd (h1 := fun _ => rfl) (M := fun _ => False) (fun _ _ => id)
  have HRD := Lib.hid hrd
  have HI := Lib.hid hi1
  have HS := Lib.hid hs1
  clear ho1 hi1 hs1 hrd
  go_wp2
  go_loop [6, 7] (fun n i => ∃ k : Nat, k ≤ x.length ∧ i = .int .i64 k ∧ n = .int .i64 (beNum (x.take k) : Nat)) (fun _ i => x.length - (intOf i).toNat)
  case atStart => exact ⟨0, Nat.zero_le _, rfl, rfl⟩
  case round =>
    obtain ⟨k, hk, rfl, rfl⟩ := hrel
    by_cases hlt : k < x.length
    · obtain ⟨ad, rfl, _, hcell⟩ := plain_cell HRD.out k hlt
      have hb2 := beNum_le (x.take k) (by simp; omega)
      have hb3 := x[k].toNat_lt
      simp only [enc8] at hcell
      go_wp2
      go_round
      case rel => exact ⟨k + 1, by omega, by go_num, by rw [take_snoc _ _ hlt, beNum_snoc]; go_num⟩
      case measure => simp [intOf]; omega
    · obtain rfl : k = x.length := by omega
      go_wp2
      go_ret
      refine ⟨ret_i ?_, HI.out, HS.out⟩
      unfold rnum
      rw [← HX.out]

set_option maxHeartbeats 1000000 in
theorem rvecR_any (M : Nat → Prop) (g : Nat) (s : RSt) (size : Int) (w : World) (hr : IsRf M w g s) :
    Calls Tryz.prog 121 #[.pointer (some ⟨g, 0, none⟩), .int .i64 size] w (RfRet M w g (rvec s size).1 (rvec s size).2) := by
  have HR := Lib.hid hr
  clear hr
  have key : ∀ (b : Bool) (w1 : World), (rnum s size).2.2 = b → IsRf M w1 g (rnum s size).2 → w1.cell? ⟨g, 2, none⟩ = some (.bool b) := by
    rintro b w1 rfl ⟨_, A, c, p, l, _, _, hg, _⟩
    rw [blk_cell hg]
    rfl
  by_cases hb : (rnum s size).2.2 = true
  · have hv : rvec s size = ([], (rnum s size).2) := by unfold rvec; rw [if_pos hb]
    rw [hv]
    have KEY := Lib.hid (fun w1 => key true w1 hb)
    clear key hv hb
    go_enter Tryz.func121, Tryz.ntmps121
    go_wp2_with (go_at_call 119; refine (numR_any M g s _ _ HR.out).mono ?_; rintro e w1 ⟨rfl, hi1, hs1⟩; have hc := KEY.out _ hi1; have HI := Lib.hid hi1; have HS := Lib.hid hs1; clear hi1 hs1)
    go_ret
    exact ⟨_, rfl, Own.nil _ _ _ _, HI.out, HS.out⟩
  · have hv : rvec s size = rtake (rnum s size).2 (rnum s size).1 := by unfold rvec; rw [if_neg hb]
    rw [hv]
    have KEY := Lib.hid (fun w1 => key false w1 (by simpa using hb))
    clear key hv hb
    go_enter Tryz.func121, Tryz.ntmps121
    go_wp2_with (first
      | (go_at_call 119; refine (numR_any M g s _ _ HR.out).mono ?_; rintro e w1 ⟨rfl, hi1, hs1⟩; have hc := KEY.out _ hi1; have HI := Lib.hid hi1; have HS := Lib.hid hs1; clear hi1 hs1)
      | (go_at_call 120; refine (takeR_any M g (rnum s size).2 _ _ HI.out).mono ?_; rintro e w2 ⟨v2, rfl, ho2, hi2, hs2⟩; have HO2 := Lib.hid ho2; have HI2 := Lib.hid hi2; have HS2 := Lib.hid hs2; clear ho2 hi2 hs2))
    go_ret
    exact ⟨_, rfl, HO2.out.lower HS.out.size, HI2.out, HS.out.trans HS2.out⟩

set_option maxHeartbeats 400000 in
theorem leftR_any (M : Nat → Prop) (g : Nat) (s : RSt) (w : World) (hr : IsRf M w g s) :
    Calls Tryz.prog 122 #[.pointer (some ⟨g, 0, none⟩)] w fun e w' => e = .returned (.int .i64 (s.1.length : Nat)) ∧ Stp (fun _ => False) w w' := by
  obtain ⟨_, A, c, p, l, hll, hpl, hg, _, hs⟩ := hr
  have hc0 := blk_cell (j := 0) hg
  have hc1 := blk_cell (j := 1) hg
  have hc2 := blk_cell (j := 2) hg
  clear hg
  obtain ⟨s1, bad⟩ := s
  cases bad
  · simp only [Bool.false_eq_true, if_false] at hs
    have e : (s1.length : Int) = (l.length : Int) - p := by rw [hs]; simp; omega
    have HE := Lib.hid e
    clear hs e
    go_enter Tryz.func122, Tryz.ntmps122
    go_wp2_with fail
    go_quiet (fail)
    go_wp2
    go_ret
    exact ⟨ret_i HE.out.symm, (Stp.refl _ _).drewN _⟩
  · simp only [if_true] at hs
    subst hs
    go_enter Tryz.func122, Tryz.ntmps122
    go_wp2
    go_ret
    exact ⟨rfl, Stp.refl _ _⟩

theorem and_255 (n : Int) (m : Nat) (hm : m < 4) : bits .and .u64 ((n % 18446744073709551616) / 2 ^ (8 * m)) 255 % 256 = ((toU8 (n / 256 ^ m)).toNat : Int) := by
  have h0 : 0 ≤ (n % 18446744073709551616) / 2 ^ (8 * m) ∧ (n % 18446744073709551616) / 2 ^ (8 * m) < 18446744073709551616 := by
    match m, hm with
    | 0, _ => omega
    | 1, _ => omega
    | 2, _ => omega
    | 3, _ => omega
  have h := bits_mask .u64 64 (Nat.le_refl _) (fun n h0 h1 => by rw [u64_wrap_mod]; omega) 8 (by decide) ((n % 18446744073709551616) / 2 ^ (8 * m)) h0.1 (by omega)
  rw [show ((2 : Int) ^ 8 - 1) = 255 by decide] at h
  rw [h, byte_of n m hm]
  omega

set_option maxHeartbeats 1000000 in
theorem putR_any (M : Nat → Prop) (v : Value) (b : List UInt8) (n size : Int) (w : World) (hb : Rd u8 M w v b) (hl : b.length ≤ 140737488351232) :
    Calls Tryz.prog 104 #[v, .int .i64 n, .int .i64 size] w (NewB w (b ++ be n (clampN size))) := by
  obtain ⟨A, c, rfl, hle⟩ := hb.form
  have HB := Lib.hid hb
  clear hb
  obtain ⟨hs1, hs4⟩ := clampN_le size
  go_enter Tryz.func104, Tryz.ntmps104
  go_wp2_with (with_reducible refine stop (N := 11) rfl ?_)
  refine Stop.go ?_
  refine wp_appendRd enc8 (h1e := fun _ => rfl) rfl _ _ _ rfl Tryz.underlying22 info_u8 rfl (Own.lit (B := w.heap.size) ([] : List UInt8) #[] rfl (by simp) (by simp)) (HB.out.stp0 ((Stp.refl _ _).alloc _)) rfl rfl (by simp; omega) (by simp; omega) (by simp) ?_
  intro v1 w1 ho1 hg1
  have HO1 := Lib.hid ho1
  have HS1 := Lib.hid (((Stp.refl (fun _ => False) w).alloc _).grown hg1 (by
          intro k hk hlt
          simp [Value.ownBlock] at hk
          omega))
  clear ho1 hg1
  go_wp2_with (go_at_call 103; refine (clampR_any _ _).mono ?_; rintro e w' ⟨rfl, rfl⟩)
  have hcl : clampN size ≤ clampN size := Nat.le_refl _
  rw [List.nil_append] at HO1
  go_loopg [7, 8] (clampN size) (fun k o i wr => k ≤ clampN size ∧ i = .int .i64 ((k : Int) - 1) ∧ Own enc8 5 w.heap.size wr o (b ++ be (n / 256 ^ k) (clampN size - k)) ∧ Stp (fun _ => False) w wr)
  case atStart => exact ⟨Nat.le_refl _, by go_num, by simpa [be] using HO1.out, HS1.out⟩
  case round =>
    obtain ⟨hk, rfl, ho, hs⟩ := hrel
    have HO := Lib.hid ho
    have HS := Lib.hid hs
    clear ho hs
    by_cases h0 : gk = 0
    · subst h0
      go_wp2
      go_ret
      exact ⟨_, rfl, by simpa using HO.out, HS.out⟩
    · obtain ⟨m, rfl⟩ : ∃ m, gk = m + 1 := ⟨gk - 1, by omega⟩
      go_wp2_with (with_reducible refine stop (N := 29) rfl ?_)
      refine Stop.go ?_
      refine wp_append1 enc8 (toU8 (n / 256 ^ m)) rfl rfl _ _ _ rfl Tryz.underlying22 info_u8 rfl (HO.out.stp0 ((Stp.refl _ _).alloc _)) rfl ⟨wr.heap.size, 0, none⟩ 1 rfl ?_ ?_ ?_ ?_ ?_
      · rw [World.cell?_alloc_new]
        simp only [u64_wrap_mod, and_255 n m (by omega)]
        rfl
      · have := be_len (n / 256 ^ (m + 1)) (clampN size - (m + 1))
        simp
        omega
      · have := be_len (n / 256 ^ (m + 1)) (clampN size - (m + 1))
        simp
        omega
      · have := HS.out.size
        simp
        omega
      · intro v3 w3 ho3 hg3
        have HO3 := Lib.hid ho3
        have HS3 := Lib.hid ((HS.out.alloc _).own (HO.out.stp0 ((Stp.refl _ _).alloc _)) hg3)
        clear ho3 hg3
        go_wp2
        go_roundg m
        case measure => omega
        case rel =>
          refine ⟨by omega, by go_num, ?_, HS3.out⟩
          have := HO3.out
          rw [List.append_assoc] at this
          rw [show clampN size - m = (clampN size - (m + 1)) + 1 by omega]
          show Own _ _ _ _ _ (b ++ (be (n / 256 ^ m / 256) (clampN size - (m + 1)) ++ [toU8 (n / 256 ^ m)]))
          rw [Int.ediv_ediv_of_nonneg (Int.pow_nonneg (by decide)), ← Int.pow_succ]
          exact this

theorem shl_le (n m : Nat) (hm : m ≤ 4) : decide (wrap64 (2 ^ (8 * m)) ≤ (n : Int)) = decide (256 ^ m ≤ n) := by
  have : wrap64 (2 ^ (8 * m)) = ((256 ^ m : Nat) : Int) := by
    match m, hm with
    | 0, _ => unfold wrap64; omega
    | 1, _ => unfold wrap64; omega
    | 2, _ => unfold wrap64; omega
    | 3, _ => unfold wrap64; omega
    | 4, _ => unfold wrap64; omega
  rw [this, Bool.eq_iff_iff]
  simp only [decide_eq_true_eq]
  exact Int.ofNat_le

set_option maxHeartbeats 1000000 in
theorem vecR_any (M : Nat → Prop) (v y : Value) (b x : List UInt8) (size : Int) (w : World) (hb : Rd u8 M w v b) (hx : Rd u8 M w y x) (hl : b.length ≤ 140737488351232 ∧ b.length + x.length + 4 ≤ 140737488355328 ∧ x.length ≤ 140737488351232) :
    Calls Tryz.prog 62 #[v, .int .i64 size, y] w (NewB2 w (vecB b size x).1 (vecB b size x).2) := by
  obtain ⟨A, c, rfl, hle⟩ := hb.form
  obtain ⟨A2, c2, rfl, hle2⟩ := hx.form
  have HB := Lib.hid hb
  have HX := Lib.hid hx
  clear hb hx
  obtain ⟨hs1, hs4⟩ := clampN_le size
  obtain ⟨hl1, hl2, hl3⟩ := hl
  have hsh := shl_le x.length (clampN size) hs4
  by_cases hfit : x.length < 256 ^ clampN size
  · have hv : vecB b size x = (b ++ be x.length (clampN size) ++ x, true) := by unfold vecB; rw [if_pos hfit]
    rw [hv]
    rw [show decide (256 ^ clampN size ≤ x.length) = false by simpa using hfit] at hsh
    clear hv hfit
    go_enter Tryz.func62, Tryz.ntmps62
    go_wp2_with (first
      | (go_at_call 103; refine (clampR_any _ _).mono ?_; rintro e w' ⟨rfl, rfl⟩)
      | (go_at_call 104; refine stopc ?_))
    refine Stop.go ?_
    refine (putR_any M _ b _ _ _ HB.out hl1).mono ?_
    rintro e w1 ⟨v1, rfl, ho1, hs1⟩
    have HO := Lib.hid ho1
    have HS := Lib.hid hs1
    clear ho1 hs1
    go_wp2_with (with_reducible refine stop (N := 25) rfl ?_)
    refine Stop.go ?_
    refine wp_appendRd enc8 (h1e := fun _ => rfl) rfl _ _ _ rfl Tryz.underlying22 info_u8 rfl HO.out (HX.out.stp0 HS.out) rfl rfl ?_ ?_ HS.out.size ?_
    · simp [be_len]
      omega
    · simp [be_len]
      omega
    · intro v2 w2 ho2 hg2
      have HO2 := Lib.hid ho2
      have HS2 := Lib.hid (HS.out.own HO.out hg2)
      clear ho2 hg2
      go_wp2
      go_ret2
      exact ⟨_, rfl, HO2.out, HS2.out⟩
  · have hv : vecB b size x = (b, false) := by unfold vecB; rw [if_neg hfit]
    rw [hv]
    rw [show decide (256 ^ clampN size ≤ x.length) = true by simpa using hfit] at hsh
    clear hv hfit
    go_enter Tryz.func62, Tryz.ntmps62
    go_wp2_with (first
      | (go_at_call 103; refine (clampR_any _ _).mono ?_; rintro e w' ⟨rfl, rfl⟩)
      | (with_reducible refine stop (N := 18) rfl ?_))
    refine Stop.go ?_
    refine wp_appendRd enc8 (h1e := fun _ => rfl) rfl _ _ _ rfl Tryz.underlying22 info_u8 rfl (Own.lit (B := w.heap.size) ([] : List UInt8) #[] rfl (by simp) (by simp)) (HB.out.stp0 ((Stp.refl _ _).alloc _)) rfl rfl ?_ ?_ (by simp) ?_
    · simp
      omega
    · simp
      omega
    · intro v2 w2 ho2 hg2
      have HO2 := Lib.hid ho2
      have HS2 := Lib.hid (((Stp.refl (fun _ => False) w).alloc _).grown hg2 (by
          intro k hk hlt
          simp [Value.ownBlock] at hk
          omega))
      clear ho2 hg2
      go_wp2
      go_ret2
      exact ⟨_, rfl, HO2.out, HS2.out⟩
end Go.Proofs.YtligofmhbbgalaaGreatDoor.L

/- string(b) as an equation of the run; small laws of readers. -/
namespace Go.Proofs.YtligofmhbbgalaaGreatDoor.L
open Go.RowKit Go.Proofs

theorem conv_own {B e : Nat} {W : World} {v : Value} {l : List UInt8} (h : Own enc8 e B W v l) : convB W v l := conv_of (h.rd (h1 := fun _ => rfl) (M := fun _ => False) (fun _ _ => id))
theorem strB_toList (s : ByteArray) : strB s.data.toList = s := by cases s; simp [strB]

theorem rtake_len2 (s : RSt) (n : Int) : (rtake s n).2.1.length ≤ s.1.length := (rtake_len s n).2
theorem rnum_len (s : RSt) (n : Int) : (rnum s n).2.1.length ≤ s.1.length := (rtake_len s _).2
theorem rvec_len (s : RSt) (n : Int) : (rvec s n).2.1.length ≤ s.1.length := by
  unfold rvec
  split
  · exact rnum_len s n
  · exact Nat.le_trans (rtake_len _ _).2 (rnum_len s n)
theorem rvec_len1 (s : RSt) (n : Int) : (rvec s n).1.length ≤ s.1.length := by
  unfold rvec
  split
  · simp
  · exact Nat.le_trans (rtake_len _ _).1 (rnum_len s n)
theorem rnum_le (s : RSt) (n : Int) : (rnum s n).1 ≤ 4294967295 := beNum_le _ (rtake4 s n)
theorem IsRf.step {M S : Nat → Prop} {W W1 : World} {g : Nat} {s : RSt} (h : IsRf M W g s) (hs : Stp S W W1) (hS : ∀ k, k < W.heap.size → S k → M k) : IsRf M W1 g s := by
  obtain ⟨hM, A, c, n, l, h1, h2, hg, hr, h3⟩ := h
  exact ⟨hM, A, c, n, l, h1, h2, hs.blk hg (fun h => hM (hS g (blk_lt hg) h)), hr.step hs (fun k hk h => .inr (hS k hk h)), h3⟩
theorem IsRf.lt {M : Nat → Prop} {W : World} {g : Nat} {s : RSt} (h : IsRf M W g s) : g < W.heap.size := by
  obtain ⟨_, A, c, n, l, _, _, hg, _⟩ := h
  exact blk_lt hg
theorem IsRf.off {M : Nat → Prop} {W : World} {g : Nat} {s : RSt} (h : IsRf M W g s) : W.cell? ⟨g, 2, none⟩ = some (.bool s.2) := by
  obtain ⟨_, A, c, n, l, _, _, hg, _⟩ := h
  exact blk_cell (j := 2) hg
end Go.Proofs.YtligofmhbbgalaaGreatDoor.L

/- ascii.Visible, exts.may, and the document's own. -/
namespace Go.Proofs.YtligofmhbbgalaaGreatDoor.L
open Go.RowKit Go.Proofs

/-- A byte that is seen. -/
def visC (c : UInt8) : Bool := decide (33 ≤ c.toNat) && decide (c.toNat ≤ 126)
def visB (l : List UInt8) : Bool := l.all visC && !l.isEmpty
def mayB (l : List UInt8) : Bool := decide (l.length ≤ 255) && visB l

theorem visC1_any (r : Int) (w : World) :
    Calls Tryz.prog 102 #[.int .i32 r] w fun e w' => e = .returned (.bool (decide (32 < r) && decide (r ≤ 126))) ∧ w = w' := by
  by_cases h1 : 32 < r
  · by_cases h2 : r ≤ 126
    · have e : (decide (32 < r) && decide (r ≤ 126)) = true := by simp [h1, h2]
      rw [e]
      clear e
      go_enter Tryz.func102, Tryz.ntmps102
      go_wp2
      go_ret
      exact ⟨rfl, rfl⟩
    · have e : (decide (32 < r) && decide (r ≤ 126)) = false := by simp [h1, h2]
      rw [e]
      clear e
      go_enter Tryz.func102, Tryz.ntmps102
      go_wp2
      go_ret
      exact ⟨rfl, rfl⟩
  · have e : (decide (32 < r) && decide (r ≤ 126)) = false := by simp [h1]
    rw [e]
    clear e
    go_enter Tryz.func102, Tryz.ntmps102
    go_wp2
    go_ret
    exact ⟨rfl, rfl⟩

theorem next_vis (s : ByteArray) (pos : Nat) (h : pos < s.size) : (decide (32 < ((Utf8.decode s pos).1 : Int)) && decide (((Utf8.decode s pos).1 : Int) ≤ 126)) = visC s[pos] ∧ (visC s[pos] = true → (Utf8.decode s pos).2 = 1) := by
  by_cases ha : (s[pos]'h).toNat < 128
  · rw [decode_ascii s pos h ha]
    refine ⟨?_, fun _ => rfl⟩
    unfold visC
    rw [Bool.eq_iff_iff]
    simp only [Bool.and_eq_true, decide_eq_true_eq]
    omega
  · have hd := decode_high s pos h (by omega)
    have e : visC s[pos] = false := by
      unfold visC
      simp
      omega
    rw [e]
    refine ⟨?_, fun h => by cases h⟩
    rw [Bool.eq_false_iff]
    simp only [ne_eq, Bool.and_eq_true, decide_eq_true_eq]
    omega

theorem vis_end (s : ByteArray) (h : ∀ j (hj : j < s.size), visC s[j] = true) : visB s.data.toList = !s.data.toList.isEmpty := by
  unfold visB
  have : s.data.toList.all visC = true := by
    rw [List.all_eq_true]
    intro c hc
    obtain ⟨j, hj⟩ := List.getElem?_of_mem hc
    obtain ⟨hl, rfl⟩ := List.getElem?_eq_some_iff.1 hj
    have hl' : j < s.size := by simpa using hl
    have := h j hl'
    have e : s[j] = s.data.toList[j]'hl := by simp; rfl
    rw [← e]
    exact this
  rw [this, Bool.true_and]
theorem vis_not (s : ByteArray) (j : Nat) (hj : j < s.size) (h : visC s[j] = false) : visB s.data.toList = false := by
  unfold visB
  have : s.data.toList.all visC = false := by
    rw [List.all_eq_false]
    refine ⟨s[j], ?_, by simp [h]⟩
    have : s[j] = s.data.toList[j]'(by simpa using hj) := by simp; rfl
    rw [this]
    exact List.getElem_mem _
  rw [this, Bool.false_and]

set_option maxHeartbeats 1000000 in
theorem allV_any (s : ByteArray) (w : World) :
    Calls Tryz.prog 101 #[.string s, .func (.func 102) #[] #[]] w fun e w' => e = .returned (.bool (visB s.data.toList)) ∧ Stp (fun _ => False) w w' := by
  go_enter Tryz.func101, Tryz.ntmps101
  go_wp2
  go_loopw [6] (fun _ w' => ∃ pos : Nat, pos ≤ s.size ∧ w' = w.iter s pos ∧ ∀ j (hj : j < s.size), j < pos → visC s[j] = true) (fun _ w' => s.size - w'.iterPos w.heap.size)
  case atStart => exact ⟨0, Nat.zero_le _, rfl, fun j hj h => absurd h (by omega)⟩
  case round =>
    obtain ⟨pos, hpos, rfl, hall⟩ := hrel
    have HALL := Lib.hid hall
    clear hall
    by_cases hp : pos < s.size
    · have hnx : ∀ ty, (Instr.next (.pointer (some ⟨w.heap.size, 0, none⟩)) true ty).run Tryz.prog (w.iter s pos) = _ := fun ty => run_next_any w s pos ty hp
      obtain ⟨hv1, hv2⟩ := next_vis s pos hp
      have HV2 := Lib.hid hv2
      clear hv2
      by_cases hv : visC s[pos] = true
      · rw [hv] at hv1
        go_wp2_with (go_at_call 102; refine (visC1_any _ _).mono ?_; rw [hv1]; rintro e w' ⟨rfl, rfl⟩)
        go_roundw
        case rel =>
          refine ⟨pos + 1, by omega, by rw [HV2.out hv], fun j hj h => ?_⟩
          by_cases hjp : j = pos
          · subst hjp; exact hv
          · exact HALL.out j hj (by omega)
        case measure =>
          have := HV2.out hv
          simp [this]
          omega
      · have hv' : visC s[pos] = false := by simpa using hv
        rw [hv'] at hv1
        go_wp2_with (go_at_call 102; refine (visC1_any _ _).mono ?_; rw [hv1]; rintro e w' ⟨rfl, rfl⟩)
        go_ret
        exact ⟨by rw [vis_not s pos hp hv']; rfl, (Stp.refl _ _).alloc _⟩
    · have hnx : ∀ ty, (Instr.next (.pointer (some ⟨w.heap.size, 0, none⟩)) true ty).run Tryz.prog (w.iter s pos) = _ := fun ty => run_next_end w s pos ty hp
      go_wp2
      go_ret
      exact ⟨by rw [vis_end s (fun j hj => HALL.out j hj (by omega)), ← ByteArray.toList_eq]; rfl, (Stp.refl _ _).alloc _⟩

theorem vis_any (s : ByteArray) (w : World) :
    Calls Tryz.prog 58 #[.string s] w fun e w' => e = .returned (.bool (visB s.data.toList)) ∧ Stp (fun _ => False) w w' := by
  go_enter Tryz.func58, Tryz.ntmps58
  go_wp2_with (go_at_call 101; refine (allV_any _ _).mono ?_; rintro e w' ⟨rfl, hs⟩; have HS := Lib.hid hs; clear hs)
  go_ret
  exact ⟨rfl, HS.out⟩

theorem may_any (s : ByteArray) (w : World) :
    Calls Tryz.prog 30 #[.string s] w fun e w' => e = .returned (.bool (mayB s.data.toList)) ∧ Stp (fun _ => False) w w' := by
  by_cases h : s.size ≤ 255
  · have e : mayB s.data.toList = visB s.data.toList := by unfold mayB; simp [h]
    rw [e]
    clear e
    go_enter Tryz.func30, Tryz.ntmps30
    go_wp2_with (go_at_call 58; refine (vis_any _ _).mono ?_; rintro e w' ⟨rfl, hs⟩; have HS := Lib.hid hs; clear hs)
    go_ret
    exact ⟨rfl, HS.out⟩
  · have e : mayB s.data.toList = false := by unfold mayB; simp [h]
    rw [e]
    clear e
    go_enter Tryz.func30, Tryz.ntmps30
    go_wp2
    go_ret
    exact ⟨rfl, Stp.refl _ _⟩

set_option maxHeartbeats 1000000 in
theorem visR_any (s : ByteArray) (w : World) (hs : s.size ≤ 9223372036854775807) :
    Calls Tryz.prog 61 #[.string s] w fun e w' => e = .returned (.bool (visB s.data.toList)) ∧ w = w' := by
  go_enter Tryz.func61, Tryz.ntmps61
  go_wp2
  go_loop [3] (fun i => ∃ pos : Nat, pos ≤ s.size ∧ i = .int .i64 pos ∧ ∀ j (hj : j < s.size), j < pos → visC s[j] = true) (fun i => s.size - (intOf i).toNat)
  case atStart => exact ⟨0, Nat.zero_le _, rfl, fun j hj h => absurd h (by omega)⟩
  case round =>
    obtain ⟨pos, hpos, rfl, hall⟩ := hrel
    have HALL := Lib.hid hall
    clear hall
    by_cases hp : pos < s.size
    · have hc : s[pos].toNat < 256 := s[pos].toNat_lt
      by_cases h1 : s[pos].toNat < 33
      · have hv' : visC s[pos] = false := by unfold visC; simp; omega
        have h1' : (s[pos].toNat : Int) < 33 := by omega
        go_wp2
        go_ret
        exact ⟨by rw [vis_not s pos hp hv']; rfl, rfl⟩
      · by_cases h2 : 126 < s[pos].toNat
        · have hv' : visC s[pos] = false := by unfold visC; simp; omega
          go_wp2
          go_ret
          exact ⟨by rw [vis_not s pos hp hv']; rfl, rfl⟩
        · have hv' : visC s[pos] = true := by unfold visC; simp; omega
          go_wp2
          go_round
          case rel =>
            refine ⟨pos + 1, by omega, by go_num, fun j hj h => ?_⟩
            by_cases hjp : j = pos
            · subst hjp; exact hv'
            · exact HALL.out j hj (by omega)
          case measure => simp [intOf]; omega
    · go_wp2
      go_ret
      exact ⟨by rw [vis_end s (fun j hj => HALL.out j hj (by omega)), ← ByteArray.toList_eq]; rfl, rfl⟩
end Go.Proofs.YtligofmhbbgalaaGreatDoor.L
