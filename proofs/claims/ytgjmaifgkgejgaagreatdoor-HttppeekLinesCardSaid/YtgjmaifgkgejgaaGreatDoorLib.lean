/- Words of these proofs: what a step of the world leaves (Stp), what a slice reads as (Rd), apart from the blocks that may still turn (M). No function of the program. -/
import Derived.WalkKit
import Derived.KernelRfl
import Derived.Lib.Hide
import Derived.WalkLawsBesides
import Derived.WalkSpells
import Derived.Laws.CopyOwn
import Derived.Deep.LoopGhost
import Derived.Deep.QuietTactic
import Derived.BigQuiet
set_option linter.unusedVariables false
set_option linter.unusedSimpArgs false
namespace Go.Proofs.YtgjmaifgkgejgaaGreatDoor.L
open Go.RowKit

/-- A step: blocks that were there stay, but for those of S. -/
structure Stp (S : Nat → Prop) (w w' : World) : Prop where
  os : w'.os = w.os
  tape : w'.tape = w.tape
  output : w'.output = w.output
  size : w.heap.size ≤ w'.heap.size
  block : ∀ k, k < w.heap.size → ¬ S k → w'.heap[k]? = w.heap[k]?

namespace Stp
variable {S T : Nat → Prop} {w w1 w2 : World}
theorem refl (S : Nat → Prop) (w : World) : Stp S w w := ⟨rfl, rfl, rfl, Nat.le_refl _, fun _ _ _ => rfl⟩
theorem trans (h : Stp S w w1) (k : Stp S w1 w2) : Stp S w w2 :=
  ⟨k.os.trans h.os, k.tape.trans h.tape, k.output.trans h.output, Nat.le_trans h.size k.size, fun i hi hS => (k.block i (Nat.lt_of_lt_of_le hi h.size) hS).trans (h.block i hi hS)⟩
theorem mono (h : Stp S w w1) (hS : ∀ k, k < w.heap.size → S k → T k) : Stp T w w1 :=
  ⟨h.os, h.tape, h.output, h.size, fun i hi hT => h.block i hi (fun hs => hT (hS i hi hs))⟩
/-- the step behind turns only what it may, or what is new -/
theorem then_ (h : Stp S w w1) (k : Stp T w1 w2) (hT : ∀ k, k < w.heap.size → T k → S k) : Stp S w w2 :=
  ⟨k.os.trans h.os, k.tape.trans h.tape, k.output.trans h.output, Nat.le_trans h.size k.size, fun i hi hS => (k.block i (Nat.lt_of_lt_of_le hi h.size) (fun ht => hS (hT i hi ht))).trans (h.block i hi hS)⟩
theorem alloc (h : Stp S w w1) (o : Obj) : Stp S w (w1.alloc o) :=
  h.trans ⟨rfl, rfl, rfl, by simp, fun k hk _ => Below.heap_alloc _ _ _ hk⟩
theorem drew (h : Stp S w w1) : Stp S w w1.drew := ⟨h.os, h.tape, h.output, h.size, h.block⟩
theorem drewN (h : Stp S w w1) (n : Nat) : Stp S w (w1.drewN n) := ⟨h.os, h.tape, h.output, h.size, h.block⟩
theorem setCell (h : Stp S w w1) {p : Addr} (hp : p.block < w.heap.size → S p.block) (u : Value) : Stp S w (w1.setCell p u) :=
  ⟨h.os, h.tape, h.output, by simpa [World.setCell] using h.size, fun k hk hS => (Below.heap_setCell _ _ _ _ (fun e => hS (by rw [e]; exact hp (by rw [← e]; exact hk)))).trans (h.block k hk hS)⟩
theorem grown (h : Stp S w w1) {row : Option Nat} (hg : w1.grownBy w2 row) (hr : ∀ k, row = some k → k < w.heap.size → S k) : Stp S w w2 :=
  ⟨hg.os.trans h.os, hg.tape.trans h.tape, hg.output.trans h.output, Nat.le_trans h.size hg.size, fun k hk hS => (hg.block k (Nat.lt_of_lt_of_le hk h.size) (fun e => hS (hr k e.symm hk))).trans (h.block k hk hS)⟩
theorem of_grown {row : Option Nat} (hg : w.grownBy w1 row) : Stp (fun k => row = some k) w w1 := ⟨hg.os, hg.tape, hg.output, hg.size, fun k hk hS => hg.block k hk (fun e => hS e.symm)⟩
theorem below (h : Stp (fun _ => False) w w1) : Below w.heap.size w w1 := ⟨h.os, h.tape, h.output, h.size, fun k hk => h.block k hk id⟩
theorem of_below (h : Below w.heap.size w w1) : Stp (fun _ => False) w w1 := ⟨h.os, h.tape, h.output, h.size, fun k hk _ => h.block k hk⟩
theorem cell (h : Stp S w w1) {a : Addr} {v : Value} (hc : w.cell? a = some v) (hS : ¬ S a.block) : w1.cell? a = some v :=
  (World.cell?_of_block (h.block a.block (World.block_lt_of_cell? w a hc) hS)).trans hc
end Stp

/-- A kind of elements: how many cells one has, and what they say of it, apart from the blocks of M. -/
structure Kind (α : Type) where
  sz : Nat
  K : (Nat → Prop) → World → α → List Value → Prop
  len : ∀ {M w x cs}, K M w x cs → cs.length = sz
  one : ∀ {M w x cs}, K M w x cs → ∀ u ∈ cs, u.oneCell' = true
  step : ∀ {M : Nat → Prop} {w w1 : World} {x cs}, (∀ k, k < w.heap.size → ¬ M k → w1.heap[k]? = w.heap[k]?) → K M w x cs → K M w1 x cs
  weak : ∀ {M M' : Nat → Prop} {w : World} {x cs}, (∀ k, k < w.heap.size → M' k → M k) → K M w x cs → K M' w x cs

/-- One plain cell. -/
def Kind.plain {α : Type} (enc : α → Value) (h1 : ∀ x, (enc x).oneCell' = true) : Kind α where
  sz := 1
  K := fun _ _ x cs => cs = [enc x]
  len := fun h => by rw [h]; rfl
  one := fun h u hu => by rw [h] at hu; rw [List.mem_singleton.1 hu]; exact h1 _
  step := fun _ h => h
  weak := fun _ h => h

def enc8 (c : UInt8) : Value := .int .u8 (c.toNat : Int)
def u8 : Kind UInt8 := .plain enc8 (fun _ => rfl)
def int (k : IntKind) : Kind Int := .plain (Value.int k) (fun _ => rfl)
def str : Kind ByteArray := .plain Value.string (fun _ => rfl)

section
variable {α : Type} {d : Kind α} {M M' : Nat → Prop} {W W1 : World} {v : Value} {xs : List α}

/-- The cells from ad on read as xs. -/
def Cells (d : Kind α) (M : Nat → Prop) (W : World) (ad : Addr) (xs : List α) : Prop :=
  ¬ M ad.block ∧ ∀ j p, xs[j]? = some p → ∃ cs, d.K M W p cs ∧ ∀ i u, cs[i]? = some u → W.cell? (ad.add (j * d.sz + i)) = some u

/-- A slice that reads as xs, whatever becomes of the blocks of M. -/
def Rd (d : Kind α) (M : Nat → Prop) (W : World) (v : Value) (xs : List α) : Prop :=
  ∃ A c, v = .slice A xs.length c ∧ xs.length ≤ c ∧ c ≤ maxLen ∧ (0 < xs.length → ∃ ad, A = some ad ∧ Cells d M W ad xs)

theorem cell_keep {a : Addr} {u : Value} (hs : ∀ k, k < W.heap.size → ¬ M k → W1.heap[k]? = W.heap[k]?) (hM : ¬ M a.block) (h : W.cell? a = some u) : W1.cell? a = some u :=
  (World.cell?_of_block (hs a.block (World.block_lt_of_cell? W a h) hM)).trans h

theorem add_block (a : Addr) (n : Nat) : (a.add n).block = a.block := by unfold Addr.add; split <;> rfl

theorem Cells.step {ad : Addr} (h : Cells d M W ad xs) (hs : ∀ k, k < W.heap.size → ¬ M k → W1.heap[k]? = W.heap[k]?) : Cells d M W1 ad xs := by
  refine ⟨h.1, fun j p hj => ?_⟩
  obtain ⟨cs, hK, hc⟩ := h.2 j p hj
  exact ⟨cs, d.step hs hK, fun i u hu => cell_keep hs (by rw [add_block]; exact h.1) (hc i u hu)⟩

theorem Rd.step' (h : Rd d M W v xs) (hs : ∀ k, k < W.heap.size → ¬ M k → W1.heap[k]? = W.heap[k]?) : Rd d M W1 v xs := by
  obtain ⟨A, c, hv, hl, hm, hc⟩ := h
  refine ⟨A, c, hv, hl, hm, fun hp => ?_⟩
  obtain ⟨ad, ha, hcs⟩ := hc hp
  exact ⟨ad, ha, hcs.step hs⟩
/-- A step that turns blocks of M alone. -/
theorem Rd.step {S : Nat → Prop} (h : Rd d M W v xs) (hs : Stp S W W1) (hS : ∀ k, k < W.heap.size → S k → M k) : Rd d M W1 v xs :=
  h.step' fun k hk hM => hs.block k hk (fun hs => hM (hS k hk hs))
theorem Rd.stp (h : Rd d M W v xs) (hs : Stp M W W1) : Rd d M W1 v xs := h.step hs (fun _ _ h => h)
theorem Rd.stp0 (h : Rd d M W v xs) (hs : Stp (fun _ => False) W W1) : Rd d M W1 v xs := h.step hs (fun _ _ h => h.elim)

theorem Cells.lt {ad : Addr} (h : Cells d M W ad xs) (hp : 0 < xs.length) (hsz : 0 < d.sz) : ad.block < W.heap.size := by
  obtain ⟨cs, hK, hc⟩ := h.2 0 _ (List.getElem?_eq_getElem hp)
  have hl := d.len hK
  have := hc 0 _ (List.getElem?_eq_getElem (by omega))
  have := World.block_lt_of_cell? W _ this
  rwa [add_block] at this

theorem Cells.weak {ad : Addr} (h : Cells d M W ad xs) (hlt : ad.block < W.heap.size) (hM : ∀ k, k < W.heap.size → M' k → M k) : Cells d M' W ad xs := by
  refine ⟨fun hm => h.1 (hM _ hlt hm), fun j p hj => ?_⟩
  obtain ⟨cs, hK, hc⟩ := h.2 j p hj
  exact ⟨cs, d.weak hM hK, hc⟩

theorem Rd.weak (h : Rd d M W v xs) (hsz : 0 < d.sz) (hM : ∀ k, k < W.heap.size → M' k → M k) : Rd d M' W v xs := by
  obtain ⟨A, c, hv, hl, hm, hc⟩ := h
  refine ⟨A, c, hv, hl, hm, fun hp => ?_⟩
  obtain ⟨ad, ha, hcs⟩ := hc hp
  exact ⟨ad, ha, hcs.weak (hcs.lt hp hsz) hM⟩

theorem Rd.nil (d : Kind α) (M : Nat → Prop) (W : World) : Rd d M W (.slice none 0 0) [] := ⟨none, 0, rfl, Nat.le_refl _, Nat.zero_le _, fun h => absurd h (by simp)⟩

/-- What the walk wants of it: the value's form. -/
theorem Rd.form (h : Rd d M W v xs) : ∃ A c, v = .slice A xs.length c ∧ xs.length ≤ c := by
  obtain ⟨A, c, hv, hl, _⟩ := h
  exact ⟨A, c, hv, hl⟩
theorem Rd.at_ {A : Option Addr} {n c : Nat} (h : Rd d M W (.slice A n c) xs) : n = xs.length ∧ n ≤ c ∧ c ≤ maxLen ∧ (0 < xs.length → ∃ ad, A = some ad ∧ Cells d M W ad xs) := by
  obtain ⟨A', c', hv, hl, hm, hc⟩ := h
  injection hv with h1 h2 h3
  subst h1; subst h2; subst h3
  exact ⟨rfl, hl, hm, hc⟩
theorem Rd.len {A : Option Addr} {n c : Nat} (h : Rd d M W (.slice A n c) xs) : n = xs.length := h.at_.1
end

/-! plain elements of one cell -/
section
variable {α : Type} {enc : α → Value} {h1 : ∀ x, (enc x).oneCell' = true} {M : Nat → Prop} {W : World} {xs : List α} {A : Option Addr} {n c : Nat}
theorem plain_cell (h : Rd (.plain enc h1) M W (.slice A n c) xs) (j : Nat) (hj : j < xs.length) : ∃ ad, A = some ad ∧ ¬ M ad.block ∧ W.cell? (ad.add j) = some (enc xs[j]) := by
  obtain ⟨ad, ha, hcs⟩ := h.at_.2.2.2 (by omega)
  obtain ⟨cs, hK, hc⟩ := hcs.2 j _ (List.getElem?_eq_getElem hj)
  obtain rfl : cs = [enc xs[j]] := hK
  exact ⟨ad, ha, hcs.1, by simpa [Kind.plain] using hc 0 _ rfl⟩
theorem plain_mk (hl : xs.length ≤ c) (hm : c ≤ maxLen) (h : 0 < xs.length → ∃ ad, A = some ad ∧ ¬ M ad.block ∧ ∀ j, (hj : j < xs.length) → W.cell? (ad.add j) = some (enc xs[j])) : Rd (.plain enc h1) M W (.slice A xs.length c) xs := by
  refine ⟨A, c, rfl, hl, hm, fun hp => ?_⟩
  obtain ⟨ad, ha, hM, hc⟩ := h hp
  refine ⟨ad, ha, hM, fun j p hj => ⟨[enc p], rfl, fun i u hu => ?_⟩⟩
  obtain ⟨hj', rfl⟩ := List.getElem?_eq_some_iff.1 hj
  match i, hu with
  | 0, hu =>
    simp at hu
    subst hu
    simpa [Kind.plain] using hc j hj'
end

/-! a slice of the call's own, that may be appended to -/
section
variable {α : Type} {enc : α → Value} {h1 : ∀ x, (enc x).oneCell' = true} {M : Nat → Prop} {W W1 : World} {xs : List α} {v : Value} {B e n : Nat}
/-- Its block is not of M, from B on; its first cells are xs. -/
def Own (enc : α → Value) (e B : Nat) (W : World) (v : Value) (xs : List α) : Prop := W.ownsRow B e 1 v xs.length (xs.map enc)
theorem Own.nil (enc : α → Value) (e B : Nat) (W : World) : Own enc e B W (.slice none 0 0) [] := World.ownsRow_nil _ _ _ _
theorem Own.step {S : Nat → Prop} (h : Own enc e B W v xs) (hs : Stp S W W1) (hS : ∀ k, v.ownBlock = some k → ¬ S k) : Own enc e B W1 v xs := by
  refine ⟨h.1, ?_⟩
  rcases h.2 with hn | ⟨g, cap, cur, rfl, hb, hgg, rest⟩
  · exact .inl hn
  · refine .inr ⟨g, cap, cur, rfl, hb, ?_, rest⟩
    rw [hs.block g (Array.getElem?_eq_some_iff.1 hgg).1 (hS g rfl)]
    exact hgg
theorem Own.lt (h : Own enc e B W v xs) : ∀ k, v.ownBlock = some k → B ≤ k ∧ k < W.heap.size := World.ownsRow.lt h
theorem Own.lower {B' : Nat} (h : Own enc e B W v xs) (hB : B' ≤ B) : Own enc e B' W v xs := by
  refine ⟨h.1, ?_⟩
  rcases h.2 with hn | ⟨g, cap, cur, hv, hb, rest⟩
  · exact .inl hn
  · exact .inr ⟨g, cap, cur, hv, Nat.le_trans hB hb, rest⟩
theorem Own.stp0 (h : Own enc e B W v xs) (hs : Stp (fun _ => False) W W1) : Own enc e B W1 v xs := h.step hs (fun _ _ h => h)
/-- An own slice is one that is read; its block must not be of M. -/
theorem Own.rd (h : Own enc e B W v xs) (hM : ∀ k, v.ownBlock = some k → ¬ M k) : Rd (.plain enc h1) M W v xs := by
  rcases h.2 with ⟨rfl, hn⟩ | ⟨g, cap, cur, rfl, hb, hgg, hle, hcm, hcs, ht⟩
  · obtain rfl : xs = [] := List.eq_nil_of_length_eq_zero hn
    exact Rd.nil _ _ _
  · refine plain_mk hle hcm fun hp => ⟨⟨g, 0, none⟩, rfl, hM g rfl, fun j hj => ?_⟩
    have := World.ownsRow.cells h (g := g) rfl j (enc xs[j]) (by simp [hj])
    exact this
theorem Own.form (h : Own enc e B W v xs) : ∃ A c, v = .slice A xs.length c ∧ xs.length ≤ c := by
  rcases h.2 with ⟨rfl, hn⟩ | ⟨g, cap, cur, rfl, hb, hgg, hle, hcm, hcs, ht⟩
  · exact ⟨none, 0, by rw [hn], by omega⟩
  · exact ⟨_, cap, rfl, hle⟩
end
end Go.Proofs.YtgjmaifgkgejgaaGreatDoor.L
