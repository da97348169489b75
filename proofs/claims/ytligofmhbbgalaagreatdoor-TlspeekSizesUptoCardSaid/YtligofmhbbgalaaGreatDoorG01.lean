/- Texts of the proof, joined: Lib Ops Bp Cw Open. -/
import Derived.WalkKit
import Derived.KernelRfl
import Derived.Lib.Hide
import Derived.WalkLawsBesides
import Derived.WalkSpells
import Derived.Laws.CopyOwn
import Derived.Deep.LoopGhost
import Derived.Deep.QuietTactic
import Derived.BigQuiet
import Derived.Deep.RegionHeld3
import Derived.Deep.DeepCutAuto
import Derived.Test.YtligofmhbbgalaaGreatDoorProg
import Derived.Laws.BytesString
import Derived.Lib.SlBytesConst
import Derived.Lib.ConvBytes
import Derived.ProofKit
import Derived.OpenShut
import Derived.ShutString
import Derived.ChangeOld
import Derived.Below
import Derived.Deep.Slices
set_option linter.unusedVariables false
set_option linter.unusedSimpArgs false
/- Words of these proofs: what a step of the world leaves (Stp), what a slice reads as (Rd), apart from the blocks that may still turn (M). No function of the program. -/
namespace Go.Proofs.YtligofmhbbgalaaGreatDoor.L
open Go.RowKit

/-- A step: blocks that were there stay, but for those of S. -/
structure Stp (S : Nat → Prop) (w w' : World) : Prop where
  os : w'.os = w.os
  tape : w'.tape = w.tape
  output : w'.output = w.output
  size : w.heap.size ≤ w'.heap.size
  block : ∀ k, k < w.heap.size → ¬ S k → w'.heap[k]? = w.heap[k]?

namespace Stp
variable {S T : Nat → Prop} {w w1 w2 : World}
theorem refl (S : Nat → Prop) (w : World) : Stp S w w := ⟨rfl, rfl, rfl, Nat.le_refl _, fun _ _ _ => rfl⟩
theorem trans (h : Stp S w w1) (k : Stp S w1 w2) : Stp S w w2 :=
  ⟨k.os.trans h.os, k.tape.trans h.tape, k.output.trans h.output, Nat.le_trans h.size k.size, fun i hi hS => (k.block i (Nat.lt_of_lt_of_le hi h.size) hS).trans (h.block i hi hS)⟩
theorem mono (h : Stp S w w1) (hS : ∀ k, k < w.heap.size → S k → T k) : Stp T w w1 :=
  ⟨h.os, h.tape, h.output, h.size, fun i hi hT => h.block i hi (fun hs => hT (hS i hi hs))⟩
/-- the step behind turns only what it may, or what is new -/
theorem then_ (h : Stp S w w1) (k : Stp T w1 w2) (hT : ∀ k, k < w.heap.size → T k → S k) : Stp S w w2 :=
  ⟨k.os.trans h.os, k.tape.trans h.tape, k.output.trans h.output, Nat.le_trans h.size k.size, fun i hi hS => (k.block i (Nat.lt_of_lt_of_le hi h.size) (fun ht => hS (hT i hi ht))).trans (h.block i hi hS)⟩
theorem alloc (h : Stp S w w1) (o : Obj) : Stp S w (w1.alloc o) :=
  h.trans ⟨rfl, rfl, rfl, by simp, fun k hk _ => Below.heap_alloc _ _ _ hk⟩
theorem drew (h : Stp S w w1) : Stp S w w1.drew := ⟨h.os, h.tape, h.output, h.size, h.block⟩
theorem drewN (h : Stp S w w1) (n : Nat) : Stp S w (w1.drewN n) := ⟨h.os, h.tape, h.output, h.size, h.block⟩
theorem setCell (h : Stp S w w1) {p : Addr} (hp : p.block < w.heap.size → S p.block) (u : Value) : Stp S w (w1.setCell p u) :=
  ⟨h.os, h.tape, h.output, by simpa [World.setCell] using h.size, fun k hk hS => (Below.heap_setCell _ _ _ _ (fun e => hS (by rw [e]; exact hp (by rw [← e]; exact hk)))).trans (h.block k hk hS)⟩
theorem grown (h : Stp S w w1) {row : Option Nat} (hg : w1.grownBy w2 row) (hr : ∀ k, row = some k → k < w.heap.size → S k) : Stp S w w2 :=
  ⟨hg.os.trans h.os, hg.tape.trans h.tape, hg.output.trans h.output, Nat.le_trans h.size hg.size, fun k hk hS => (hg.block k (Nat.lt_of_lt_of_le hk h.size) (fun e => hS (hr k e.symm hk))).trans (h.block k hk hS)⟩
theorem of_grown {row : Option Nat} (hg : w.grownBy w1 row) : Stp (fun k => row = some k) w w1 := ⟨hg.os, hg.tape, hg.output, hg.size, fun k hk hS => hg.block k hk (fun e => hS e.symm)⟩
theorem below (h : Stp (fun _ => False) w w1) : Below w.heap.size w w1 := ⟨h.os, h.tape, h.output, h.size, fun k hk => h.block k hk id⟩
theorem of_below (h : Below w.heap.size w w1) : Stp (fun _ => False) w w1 := ⟨h.os, h.tape, h.output, h.size, fun k hk _ => h.block k hk⟩
theorem cell (h : Stp S w w1) {a : Addr} {v : Value} (hc : w.cell? a = some v) (hS : ¬ S a.block) : w1.cell? a = some v :=
  (World.cell?_of_block (h.block a.block (World.block_lt_of_cell? w a hc) hS)).trans hc
end Stp

/-- A kind of elements: how many cells one has, and what they say of it, apart from the blocks of M. -/
structure Kind (α : Type) where
  sz : Nat
  K : (Nat → Prop) → World → α → List Value → Prop
  len : ∀ {M w x cs}, K M w x cs → cs.length = sz
  one : ∀ {M w x cs}, K M w x cs → ∀ u ∈ cs, u.oneCell' = true
  step : ∀ {M : Nat → Prop} {w w1 : World} {x cs}, (∀ k, k < w.heap.size → ¬ M k → w1.heap[k]? = w.heap[k]?) → K M w x cs → K M w1 x cs
  weak : ∀ {M M' : Nat → Prop} {w : World} {x cs}, (∀ k, k < w.heap.size → M' k → M k) → K M w x cs → K M' w x cs

/-- One plain cell. -/
def Kind.plain {α : Type} (enc : α → Value) (h1 : ∀ x, (enc x).oneCell' = true) : Kind α where
  sz := 1
  K := fun _ _ x cs => cs = [enc x]
  len := fun h => by rw [h]; rfl
  one := fun h u hu => by rw [h] at hu; rw [List.mem_singleton.1 hu]; exact h1 _
  step := fun _ h => h
  weak := fun _ h => h

def enc8 (c : UInt8) : Value := .int .u8 (c.toNat : Int)
def u8 : Kind UInt8 := .plain enc8 (fun _ => rfl)
def int (k : IntKind) : Kind Int := .plain (Value.int k) (fun _ => rfl)
def str : Kind ByteArray := .plain Value.string (fun _ => rfl)

section
variable {α : Type} {d : Kind α} {M M' : Nat → Prop} {W W1 : World} {v : Value} {xs : List α}

/-- The cells from ad on read as xs. -/
def Cells (d : Kind α) (M : Nat → Prop) (W : World) (ad : Addr) (xs : List α) : Prop :=
  ¬ M ad.block ∧ ∀ j p, xs[j]? = some p → ∃ cs, d.K M W p cs ∧ ∀ i u, cs[i]? = some u → W.cell? (ad.add (j * d.sz + i)) = some u

/-- A slice that reads as xs, whatever becomes of the blocks of M. -/
def Rd (d : Kind α) (M : Nat → Prop) (W : World) (v : Value) (xs : List α) : Prop :=
  ∃ A c, v = .slice A xs.length c ∧ xs.length ≤ c ∧ c ≤ maxLen ∧ (0 < xs.length → ∃ ad, A = some ad ∧ Cells d M W ad xs)

theorem cell_keep {a : Addr} {u : Value} (hs : ∀ k, k < W.heap.size → ¬ M k → W1.heap[k]? = W.heap[k]?) (hM : ¬ M a.block) (h : W.cell? a = some u) : W1.cell? a = some u :=
  (World.cell?_of_block (hs a.block (World.block_lt_of_cell? W a h) hM)).trans h

theorem add_block (a : Addr) (n : Nat) : (a.add n).block = a.block := by unfold Addr.add; split <;> rfl

theorem Cells.step {ad : Addr} (h : Cells d M W ad xs) (hs : ∀ k, k < W.heap.size → ¬ M k → W1.heap[k]? = W.heap[k]?) : Cells d M W1 ad xs := by
  refine ⟨h.1, fun j p hj => ?_⟩
  obtain ⟨cs, hK, hc⟩ := h.2 j p hj
  exact ⟨cs, d.step hs hK, fun i u hu => cell_keep hs (by rw [add_block]; exact h.1) (hc i u hu)⟩

theorem Rd.step' (h : Rd d M W v xs) (hs : ∀ k, k < W.heap.size → ¬ M k → W1.heap[k]? = W.heap[k]?) : Rd d M W1 v xs := by
  obtain ⟨A, c, hv, hl, hm, hc⟩ := h
  refine ⟨A, c, hv, hl, hm, fun hp => ?_⟩
  obtain ⟨ad, ha, hcs⟩ := hc hp
  exact ⟨ad, ha, hcs.step hs⟩
/-- A step that turns blocks of M alone. -/
theorem Rd.step {S : Nat → Prop} (h : Rd d M W v xs) (hs : Stp S W W1) (hS : ∀ k, k < W.heap.size → S k → M k) : Rd d M W1 v xs :=
  h.step' fun k hk hM => hs.block k hk (fun hs => hM (hS k hk hs))
theorem Rd.stp (h : Rd d M W v xs) (hs : Stp M W W1) : Rd d M W1 v xs := h.step hs (fun _ _ h => h)
theorem Rd.stp0 (h : Rd d M W v xs) (hs : Stp (fun _ => False) W W1) : Rd d M W1 v xs := h.step hs (fun _ _ h => h.elim)

theorem Cells.lt {ad : Addr} (h : Cells d M W ad xs) (hp : 0 < xs.length) (hsz : 0 < d.sz) : ad.block < W.heap.size := by
  obtain ⟨cs, hK, hc⟩ := h.2 0 _ (List.getElem?_eq_getElem hp)
  have hl := d.len hK
  have := hc 0 _ (List.getElem?_eq_getElem (by omega))
  have := World.block_lt_of_cell? W _ this
  rwa [add_block] at this

theorem Cells.weak {ad : Addr} (h : Cells d M W ad xs) (hlt : ad.block < W.heap.size) (hM : ∀ k, k < W.heap.size → M' k → M k) : Cells d M' W ad xs := by
  refine ⟨fun hm => h.1 (hM _ hlt hm), fun j p hj => ?_⟩
  obtain ⟨cs, hK, hc⟩ := h.2 j p hj
  exact ⟨cs, d.weak hM hK, hc⟩

theorem Rd.weak (h : Rd d M W v xs) (hsz : 0 < d.sz) (hM : ∀ k, k < W.heap.size → M' k → M k) : Rd d M' W v xs := by
  obtain ⟨A, c, hv, hl, hm, hc⟩ := h
  refine ⟨A, c, hv, hl, hm, fun hp => ?_⟩
  obtain ⟨ad, ha, hcs⟩ := hc hp
  exact ⟨ad, ha, hcs.weak (hcs.lt hp hsz) hM⟩

theorem Rd.nil (d : Kind α) (M : Nat → Prop) (W : World) : Rd d M W (.slice none 0 0) [] := ⟨none, 0, rfl, Nat.le_refl _, Nat.zero_le _, fun h => absurd h (by simp)⟩

/-- What the walk wants of it: the value's form. -/
theorem Rd.form (h : Rd d M W v xs) : ∃ A c, v = .slice A xs.length c ∧ xs.length ≤ c := by
  obtain ⟨A, c, hv, hl, _⟩ := h
  exact ⟨A, c, hv, hl⟩
theorem Rd.at_ {A : Option Addr} {n c : Nat} (h : Rd d M W (.slice A n c) xs) : n = xs.length ∧ n ≤ c ∧ c ≤ maxLen ∧ (0 < xs.length → ∃ ad, A = some ad ∧ Cells d M W ad xs) := by
  obtain ⟨A', c', hv, hl, hm, hc⟩ := h
  injection hv with h1 h2 h3
  subst h1; subst h2; subst h3
  exact ⟨rfl, hl, hm, hc⟩
theorem Rd.len {A : Option Addr} {n c : Nat} (h : Rd d M W (.slice A n c) xs) : n = xs.length := h.at_.1
end

/-! plain elements of one cell -/
section
variable {α : Type} {enc : α → Value} {h1 : ∀ x, (enc x).oneCell' = true} {M : Nat → Prop} {W : World} {xs : List α} {A : Option Addr} {n c : Nat}
theorem plain_cell (h : Rd (.plain enc h1) M W (.slice A n c) xs) (j : Nat) (hj : j < xs.length) : ∃ ad, A = some ad ∧ ¬ M ad.block ∧ W.cell? (ad.add j) = some (enc xs[j]) := by
  obtain ⟨ad, ha, hcs⟩ := h.at_.2.2.2 (by omega)
  obtain ⟨cs, hK, hc⟩ := hcs.2 j _ (List.getElem?_eq_getElem hj)
  obtain rfl : cs = [enc xs[j]] := hK
  exact ⟨ad, ha, hcs.1, by simpa [Kind.plain] using hc 0 _ rfl⟩
theorem plain_mk (hl : xs.length ≤ c) (hm : c ≤ maxLen) (h : 0 < xs.length → ∃ ad, A = some ad ∧ ¬ M ad.block ∧ ∀ j, (hj : j < xs.length) → W.cell? (ad.add j) = some (enc xs[j])) : Rd (.plain enc h1) M W (.slice A xs.length c) xs := by
  refine ⟨A, c, rfl, hl, hm, fun hp => ?_⟩
  obtain ⟨ad, ha, hM, hc⟩ := h hp
  refine ⟨ad, ha, hM, fun j p hj => ⟨[enc p], rfl, fun i u hu => ?_⟩⟩
  obtain ⟨hj', rfl⟩ := List.getElem?_eq_some_iff.1 hj
  match i, hu with
  | 0, hu =>
    simp at hu
    subst hu
    simpa [Kind.plain] using hc j hj'
end

/-! a slice of the call's own, that may be appended to -/
section
variable {α : Type} {enc : α → Value} {h1 : ∀ x, (enc x).oneCell' = true} {M : Nat → Prop} {W W1 : World} {xs : List α} {v : Value} {B e n : Nat}
/-- Its block is not of M, from B on; its first cells are xs. -/
def Own (enc : α → Value) (e B : Nat) (W : World) (v : Value) (xs : List α) : Prop := W.ownsRow B e 1 v xs.length (xs.map enc)
theorem Own.nil (enc : α → Value) (e B : Nat) (W : World) : Own enc e B W (.slice none 0 0) [] := World.ownsRow_nil _ _ _ _
theorem Own.kept {row : Option Nat} (h : Own enc e B W v xs) (hg : W.grownBy W1 row) (hne : v.ownBlock = none ∨ v.ownBlock ≠ row) : Own enc e B W1 v xs := World.ownsRow.kept h hg hne
theorem Own.step {S : Nat → Prop} (h : Own enc e B W v xs) (hs : Stp S W W1) (hS : ∀ k, v.ownBlock = some k → ¬ S k) : Own enc e B W1 v xs := by
  refine ⟨h.1, ?_⟩
  rcases h.2 with hn | ⟨g, cap, cur, rfl, hb, hgg, rest⟩
  · exact .inl hn
  · refine .inr ⟨g, cap, cur, rfl, hb, ?_, rest⟩
    rw [hs.block g (Array.getElem?_eq_some_iff.1 hgg).1 (hS g rfl)]
    exact hgg
theorem Own.lt (h : Own enc e B W v xs) : ∀ k, v.ownBlock = some k → B ≤ k ∧ k < W.heap.size := World.ownsRow.lt h
theorem Own.lower {B' : Nat} (h : Own enc e B W v xs) (hB : B' ≤ B) : Own enc e B' W v xs := by
  refine ⟨h.1, ?_⟩
  rcases h.2 with hn | ⟨g, cap, cur, hv, hb, rest⟩
  · exact .inl hn
  · exact .inr ⟨g, cap, cur, hv, Nat.le_trans hB hb, rest⟩
theorem Own.stp0 (h : Own enc e B W v xs) (hs : Stp (fun _ => False) W W1) : Own enc e B W1 v xs := h.step hs (fun _ _ h => h)
/-- An own slice is one that is read; its block must not be of M. -/
theorem Own.rd (h : Own enc e B W v xs) (hM : ∀ k, v.ownBlock = some k → ¬ M k) : Rd (.plain enc h1) M W v xs := by
  rcases h.2 with ⟨rfl, hn⟩ | ⟨g, cap, cur, rfl, hb, hgg, hle, hcm, hcs, ht⟩
  · obtain rfl : xs = [] := List.eq_nil_of_length_eq_zero hn
    exact Rd.nil _ _ _
  · refine plain_mk hle hcm fun hp => ⟨⟨g, 0, none⟩, rfl, hM g rfl, fun j hj => ?_⟩
    have := World.ownsRow.cells h (g := g) rfl j (enc xs[j]) (by simp [hj])
    exact this
theorem Own.form (h : Own enc e B W v xs) : ∃ A c, v = .slice A xs.length c ∧ xs.length ≤ c := by
  rcases h.2 with ⟨rfl, hn⟩ | ⟨g, cap, cur, rfl, hb, hgg, hle, hcm, hcs, ht⟩
  · exact ⟨none, 0, by rw [hn], by omega⟩
  · exact ⟨_, cap, rfl, hle⟩
end
end Go.Proofs.YtligofmhbbgalaaGreatDoor.L

/- Laws of single operations, in the words of XLib: make, copy, append. No function of the program. -/
namespace Go.Proofs.YtligofmhbbgalaaGreatDoor.L
open Go.RowKit
variable {P : Program} {ops : Array Oper} {rest : List Oper} {o : Oper} {a : Act} {Q : Exit → Act → World → Prop} {W : World}

/-- The walk stands here. -/
def Stop (p : Prop) : Prop := p
theorem Stop.go {p : Prop} (h : p) : Stop p := h
theorem stop {N : Tmp} (_h : o.dst = some N) (h : Stop (wpList P ops Q (o :: rest) a W)) : wpList P ops Q (o :: rest) a W := h
theorem stopc {f : FuncId} {args : Array Value} {R : Ending → World → Prop} (h : Stop (Calls P f args W R)) : Calls P f args W R := h
attribute [irreducible] Stop

theorem cells_one {v : Value} (h : v.oneCell' = true) : v.cells = #[v] := by
  cases v <;> simp_all [Value.oneCell', Value.cells]

/-- make([]T, l, c) of plain elements. -/
theorem wp_make {α : Type} (enc : α → Value) (z : α) (hg : o.guard = none) (l c : Operand) (t : TypeId) (hop : o.op = Op.makeSlice t l c)
    (B e bytes : Nat) (h1 : P.underlying t = some (.slice e)) (h2 : (P.info? e).map (fun i => (i.zero, i.size, i.bytes)) = some (some (enc z), 1, bytes))
    (hone : (enc z).oneCell' = true)
    (kl kc : IntKind) (L C : Int) (n m : Nat) (hl : a.eval l = .int kl L) (hc : a.eval c = .int kc C) (hL : L = (n : Int)) (hC : C = (m : Int)) (hnm : n ≤ m)
    (b2 : bytes * m ≤ 281474976710656) (b3 : m ≤ 9223372036854775807) (b4 : B ≤ W.heap.size)
    (hK : ∀ v W', Own enc e B W' v (List.replicate n z) → Stp (fun _ => False) W W' → v.ownBlock = some W.heap.size → W'.heap.size = W.heap.size + 1 → v = .slice (some ⟨W.heap.size, 0, none⟩) n m → wpList P ops Q rest (a.put o.dst v) W') :
    wpList P ops Q (o :: rest) a W := by
  obtain ⟨i, hi, hz, hs, hb⟩ := info_parts h2
  subst hL
  subst hC
  refine wpList_plain hg fun K hK' => ?_
  have hb2 : (i.bytes : Int) * (m : Int) ≤ 281474976710656 := by
    rw [hb, ← Int.natCast_mul]
    omega
  have hrun := run_make (P := P) W t e i (enc z) h1 hi hz kl kc n m (by omega) (by omega) hb2 (by omega)
  simp only [Int.toNat_natCast, hs, Nat.mul_one] at hrun
  unfold Oper.wp
  simp [execOp, hop, hl, hc, hrun, Result.andThen]
  refine hK' _ _ (hK _ _ ⟨by simp, .inr ⟨W.heap.size, m, madeCells (enc z).cells m, ?_, b4, heap_alloc_new W _, by simpa using hnm, by simpa [maxLen] using b3, by simp [size_madeCells], ?_⟩⟩ (Stp.refl _ _ |>.alloc _) rfl (by simp) rfl)
  · simp
  · rw [cells_one hone, toList_madeCells_one]
    simp [List.take_replicate, Nat.min_eq_left hnm]

/-- copy(dst, src): dst a whole slice of the call's own, plain elements. -/
theorem wp_copy {α : Type} (enc : α → Value) {h1e : ∀ x, (enc x).oneCell' = true} (hg : o.guard = none) (d s : Operand) (dT sT : TypeId)
    (ho : o.op = .call { callee := .builtin .copy, args := #[d, s], argTypes := #[dT, sT] }) (e : TypeId) (hu : P.underlying dT = some (.slice e)) (hsz : (P.info? e).map (·.size) = some 1)
    {B : Nat} {M : Nat → Prop} {dv sv : Value} {ds xs : List α} (hown : Own enc e B W dv ds) (hrd : Rd (.plain enc h1e) M W sv xs) (hd : a.eval d = dv) (hs : a.eval s = sv)
    (h : ∀ W', Own enc e B W' dv (xs.take ds.length ++ ds.drop xs.length) → W.grownBy W' dv.ownBlock → wpList P ops Q rest (a.put o.dst (goInt ((min xs.length ds.length : Nat) : Int))) W') :
    wpList P ops Q (o :: rest) a W := by
  obtain ⟨A, c, rfl, hl, hm, hc⟩ := hrd
  by_cases h0 : min xs.length ds.length = 0
  · obtain ⟨A', c', rfl, _⟩ := hown.form
    refine wpList_copy_nothing hg d s dT sT ho e hu hsz A' A ds.length c' xs.length c hd hs h0 ?_
    rw [h0] at h
    refine h W ?_ (World.grownBy.refl _ _)
    have : xs.take ds.length ++ ds.drop xs.length = ds := by
      rcases Nat.eq_zero_or_pos xs.length with hx | hx
      · obtain rfl := List.eq_nil_of_length_eq_zero hx
        simp
      · have hd0 : ds.length = 0 := by omega
        obtain rfl := List.eq_nil_of_length_eq_zero hd0
        simp
    rw [this]
    exact hown
  · obtain ⟨ad, rfl, hcs⟩ := hc (by omega)
    rcases hown.2 with ⟨rfl, hn⟩ | ⟨g, cap, cur, rfl, hb, hgg, hle, hcm, hcur, ht⟩
    · exact absurd hn (by omega)
    · simp only [Nat.mul_one] at hcur ht
      refine wpList_copy_own hg d s dT sT ho e hu hsz g 0 ds.length cap ad xs.length c hd hs cur e hgg ((xs.take ds.length).map enc) ?_ ?_ ?_ ?_ ?_
      · simp [Nat.min_comm]
      · intro j v hj
        simp only [List.getElem?_map, Option.map_eq_some_iff] at hj
        obtain ⟨p, hp, rfl⟩ := hj
        rw [List.getElem?_take] at hp
        split at hp
        · obtain ⟨cs, hK, hcc⟩ := hcs.2 j p hp
          obtain rfl : cs = [enc p] := hK
          simpa [Kind.plain] using hcc 0 _ rfl
        · cases hp
      · simp
        omega
      · intro v hv
        obtain ⟨p, _, rfl⟩ := List.mem_map.1 hv
        exact h1e p
      · have e1 : ((xs.take ds.length).map enc).length = min xs.length ds.length := by simp [Nat.min_comm]
        have hlen : (xs.take ds.length ++ ds.drop xs.length).length = ds.length := by
          simp
          omega
        rw [e1]
        refine h _ ⟨by simp, .inr ⟨g, cap, _, by rw [hlen], hb, setRow_heap W g _ _ e _ hgg, by omega, hcm, ?_, ?_⟩⟩ ⟨rfl, rfl, rfl, by simp, fun k _ hk => setRow_other W g k _ (fun e => hk (by simp [e, Value.ownBlock]))⟩
        · simp
          omega
        · have hj : ∀ j, j < ds.length → cur.toList[j]? = (ds.map enc)[j]? := fun j hlt => by
            rw [← ht, List.getElem?_take, if_pos hlt]
          rw [Nat.mul_one, hlen]
          apply List.ext_getElem?
          intro j
          rw [List.getElem?_take]
          by_cases hlt : j < ds.length
          · rw [if_pos hlt, List.map_append, List.take_zero, List.nil_append, List.getElem?_append, List.getElem?_append, e1]
            by_cases hx : j < min xs.length ds.length
            · rw [if_pos hx, if_pos hx]
            · rw [if_neg hx, if_neg hx, List.getElem?_drop, Nat.zero_add, show min xs.length ds.length + (j - min xs.length ds.length) = j by omega, hj j hlt]
              have hmin : min xs.length ds.length = xs.length := by omega
              rw [hmin, List.map_drop, List.getElem?_drop]
              congr 1
              omega
          · rw [if_neg hlt, List.getElem?_eq_none]
            simp
            omega

theorem run_loadCells_zero (x : Addr) (w : World) : (loadCells x 0).run P w = .ok #[] w := by simpa using run_loadCells_list (P := P) w x [] (by simp)

/-- append(s, x): s of the call's own; x just made, of one element. -/
theorem wp_append1 {α : Type} (enc : α → Value) (x : α) (h1e : (enc x).oneCell' = true) (hg : o.guard = none) (s y : Operand) (t : TypeId)
    (ho : o.op = .call { callee := .builtin .append, args := #[s, y], argTypes := #[t, t] })
    {B e bytes : Nat} {z : Value} (ht : P.underlying t = some (.slice e)) (h2 : (P.info? e).map (fun i => (i.zero, i.size, i.bytes)) = some (some z, 1, bytes)) (hz1 : z.oneCell' = true)
    {v : Value} {xs : List α} (hown : Own enc e B W v xs) (hs : a.eval s = v) (ad : Addr) (c : Nat) (hx : a.eval y = .slice (some ad) 1 c) (hc : W.cell? ad = some (enc x))
    (hlen : (xs.length + 1) * bytes ≤ 140737488355328) (hlen' : xs.length < 140737488355328) (hB : B ≤ W.heap.size)
    (h : ∀ v' W', Own enc e B W' v' (xs ++ [x]) → W.grownBy W' v.ownBlock → wpList P ops Q rest (a.put o.dst v') W') :
    wpList P ops Q (o :: rest) a W := by
  obtain ⟨i, hi, hz, hsz, hb⟩ := info_parts h2
  refine wpList_append_own (W) hg s y t ho B e i z 1 bytes ht hi hz hsz hb (by rw [cells_one hz1]; rfl) (by decide) v xs.length (xs.map enc) hs hown ad 1 c [enc x] hx rfl ?_ ?_ ?_ hlen hB ?_
  · intro j u hj
    match j, hj with
    | 0, hj =>
      simp at hj
      subst hj
      simpa [Addr.add] using hc
  · simpa using h1e
  · simp only [maxLen]
    omega
  · intro v' W' hown' hgrow _
    refine h v' W' ?_ hgrow
    unfold Own
    simpa using hown'

/-- append(s, t...): s of the call's own; t is read. -/
theorem op_appendRd {α : Type} (enc : α → Value) {h1e : ∀ x, (enc x).oneCell' = true} (s y : Operand) (t : TypeId)
    (ho : o.op = .call { callee := .builtin .append, args := #[s, y], argTypes := #[t, t] })
    {B e bytes : Nat} {z : Value} (ht : P.underlying t = some (.slice e)) (h2 : (P.info? e).map (fun i => (i.zero, i.size, i.bytes)) = some (some z, 1, bytes)) (hz1 : z.oneCell' = true)
    {M : Nat → Prop} {v sv : Value} {xs ys : List α} (hown : Own enc e B W v xs) (hrd : Rd (.plain enc h1e) M W sv ys) (hs : a.eval s = v) (hy : a.eval y = sv)
    (hlen : (xs.length + ys.length) * bytes ≤ 140737488355328) (hlen' : xs.length + ys.length ≤ 140737488355328) (hB : B ≤ W.heap.size) {K : Act → World → Prop}
    (h : ∀ v' W', Own enc e B W' v' (xs ++ ys) → W.grownBy W' v.ownBlock → K (a.put o.dst v') W') :
    Oper.wp P o a W K Q := by
  obtain ⟨i, hi, hz, hsz, hb⟩ := info_parts h2
  obtain ⟨A, c, rfl, hl, hm, hc⟩ := hrd
  have hrun : ∃ v' w', (Builtin.append_ #[t, t] o.type #[v, .slice A ys.length c]).run P W = .ok v' w' ∧ Own enc e B w' v' (xs ++ ys) ∧ W.grownBy w' v.ownBlock := by
    by_cases h0 : 0 < ys.length
    · obtain ⟨ad, rfl, hcs⟩ := hc h0
      obtain ⟨v', w', hr, hown', hg', _⟩ := run_append_own (P := P) W B t o.type e i z 1 bytes ht hi hz hsz hb (by rw [cells_one hz1]; rfl) (by decide) v xs.length (xs.map enc) hown ad ys.length c (ys.map enc) (by simp) (by
        intro j u hj
        simp only [List.getElem?_map, Option.map_eq_some_iff] at hj
        obtain ⟨p, hp, rfl⟩ := hj
        obtain ⟨cs, hK, hcc⟩ := hcs.2 j p hp
        obtain rfl : cs = [enc p] := hK
        simpa [Kind.plain] using hcc 0 _ rfl) (by
        intro u hu
        obtain ⟨p, _, rfl⟩ := List.mem_map.1 hu
        exact h1e p) (by simp only [maxLen]; omega) hlen hB
      refine ⟨v', w', hr, ?_, hg'⟩
      unfold Own
      simpa using hown'
    · have hy0 : ys = [] := List.eq_nil_of_length_eq_zero (by omega)
      subst hy0
      refine ⟨v, W, ?_, by simpa using hown, World.grownBy.refl _ _⟩
      rcases hown.2 with ⟨rfl, hn⟩ | ⟨g, cap, cur, rfl, _, _, hnc, _⟩
      · cases A <;> simp [Builtin.append_, run_underlying ht, sizeOf, typeInfo, hi, Builtin.lenOf, Builtin.firstCells, run_loadCells_zero]
      · cases A <;> simp [Builtin.append_, run_underlying ht, sizeOf, typeInfo, hi, Builtin.lenOf, Builtin.firstCells, hnc, storeCells, run_loadCells_zero]
  obtain ⟨v', w', hr, hown', hg'⟩ := hrun
  unfold Oper.wp
  simp [execOp, ho, resolve, invoke, builtin, hs, hy, hr, Result.andThen]
  exact h v' w' hown' hg'
theorem wp_appendRd {α : Type} (enc : α → Value) {h1e : ∀ x, (enc x).oneCell' = true} (hg : o.guard = none) (s y : Operand) (t : TypeId)
    (ho : o.op = .call { callee := .builtin .append, args := #[s, y], argTypes := #[t, t] })
    {B e bytes : Nat} {z : Value} (ht : P.underlying t = some (.slice e)) (h2 : (P.info? e).map (fun i => (i.zero, i.size, i.bytes)) = some (some z, 1, bytes)) (hz1 : z.oneCell' = true)
    {M : Nat → Prop} {v sv : Value} {xs ys : List α} (hown : Own enc e B W v xs) (hrd : Rd (.plain enc h1e) M W sv ys) (hs : a.eval s = v) (hy : a.eval y = sv)
    (hlen : (xs.length + ys.length) * bytes ≤ 140737488355328) (hlen' : xs.length + ys.length ≤ 140737488355328) (hB : B ≤ W.heap.size)
    (h : ∀ v' W', Own enc e B W' v' (xs ++ ys) → W.grownBy W' v.ownBlock → wpList P ops Q rest (a.put o.dst v') W') :
    wpList P ops Q (o :: rest) a W :=
  wpList_plain hg fun _ hK => op_appendRd enc s y t ho ht h2 hz1 hown hrd hs hy hlen hlen' hB fun v' W' h1 h2 => hK _ _ (h v' W' h1 h2)
theorem st_appendRd {α : Type} (enc : α → Value) {h1e : ∀ x, (enc x).oneCell' = true} (hg : o.guard = none) (s y : Operand) (t : TypeId)
    (ho : o.op = .call { callee := .builtin .append, args := #[s, y], argTypes := #[t, t] })
    {B e bytes : Nat} {z : Value} (ht : P.underlying t = some (.slice e)) (h2 : (P.info? e).map (fun i => (i.zero, i.size, i.bytes)) = some (some z, 1, bytes)) (hz1 : z.oneCell' = true)
    {M : Nat → Prop} {v sv : Value} {xs ys : List α} (hown : Own enc e B W v xs) (hrd : Rd (.plain enc h1e) M W sv ys) (hs : a.eval s = v) (hy : a.eval y = sv)
    (hlen : (xs.length + ys.length) * bytes ≤ 140737488355328) (hlen' : xs.length + ys.length ≤ 140737488355328) (hB : B ≤ W.heap.size) {K : Act → World → Prop} {E : Prop}
    (h : ∀ v' W', Own enc e B W' v' (xs ++ ys) → W.grownBy W' v.ownBlock → K (a.put o.dst v') W') :
    if Region.wanted o (yielded ops a.tmps) = true then Oper.wp P o a W K Q else E := by
  rw [if_pos (by simp [Region.wanted, hg])]
  exact op_appendRd enc s y t ho ht h2 hz1 hown hrd hs hy hlen hlen' hB h

theorem Stp.nil {S : Nat → Prop} {w w1 w2 : World} (h : Stp S w w1) (hg : w1.grownBy w2 (Value.slice none 0 0).ownBlock) : Stp S w w2 :=
  h.grown hg (fun k hk _ => by simp [Value.ownBlock] at hk)
theorem Stp.new {S : Nat → Prop} {w w1 w2 : World} {g : Nat} (h : Stp S w w1) (k : Stp (fun k => k = g) w1 w2) (hg : w.heap.size ≤ g) : Stp S w w2 := h.then_ k (fun k hk h => absurd h (by omega))
theorem Stp.setg {w w1 : World} {g : Nat} (h : Stp (fun k => k = g) w w1) (j : Nat) (u : Value) : Stp (fun k => k = g) w (w1.setCell ⟨g, j, none⟩ u) := h.setCell (fun _ => rfl) u
theorem Stp.to {S : Nat → Prop} {w w1 : World} (h : Stp (fun _ => False) w w1) : Stp S w w1 := h.mono (fun _ _ h => h.elim)
theorem blk_cell {w : World} {g j : Nat} {cs : Array Value} {t : TypeId} (h : w.heap[g]? = some (.cells cs t (0, 0))) : w.cell? ⟨g, j, none⟩ = cs[j]? := cell_of_row w g j cs t (0, 0) h
theorem blk_free {w : World} {g : Nat} {cs : Array Value} {t : TypeId} (h : w.heap[g]? = some (.cells cs t (0, 0))) (j : Nat) : w.frozen? ⟨g, j, none⟩ = false := frozen_of_row w g j cs t h
theorem blk_lt {w : World} {g : Nat} {o : Obj} (h : w.heap[g]? = some o) : g < w.heap.size := (Array.getElem?_eq_some_iff.1 h).1
theorem Stp.blk {S : Nat → Prop} {w w1 : World} (h : Stp S w w1) {g : Nat} {o : Obj} (hb : w.heap[g]? = some o) (hS : ¬ S g) : w1.heap[g]? = some o := (h.block g (blk_lt hb) hS).trans hb
theorem blk_set {w : World} {g : Nat} {cs : Array Value} {t : TypeId} {fr : Nat × Nat} (h : w.heap[g]? = some (.cells cs t fr)) (j : Nat) (u : Value) : (w.setCell ⟨g, j, none⟩ u).heap[g]? = some (.cells (cs.setIfInBounds j u) t fr) := by
  have hlt := blk_lt h
  simp only [World.setCell, Array.getElem?_modify, if_pos, h]
  rfl

theorem add_add (a : Addr) (i j : Nat) : (a.add i).add j = a.add (i + j) := by
  unfold Addr.add
  by_cases h1 : i = 0 <;> by_cases h2 : j = 0 <;> simp [h1, h2, Nat.add_assoc]

/-- xs[m:] -/
theorem cut_lo {α : Type} (d : Kind α) (t e : TypeId) (ht : P.underlying t = some (.slice e)) (hsz : (P.info? e).map (·.size) = some d.sz) (A : Option Addr) (n c m : Nat) (hm : m ≤ n) :
    ∃ A', (∀ (W : World) (kl : IntKind), (Instr.slice t (.slice A n c) (some (.int kl (m : Int))) none none).run P W = .ok (.slice A' (n - m) (c - m)) W) ∧
      ∀ (M : Nat → Prop) (W : World) (xs : List α), Rd d M W (.slice A n c) xs → Rd d M W (.slice A' (n - m) (c - m)) (xs.drop m) := by
  obtain ⟨i, hi, hs⟩ := Option.map_eq_some_iff.1 hsz
  refine ⟨if c = m then A else A.map (·.add (m * d.sz)), fun W kl => ?_, fun M W xs h => ?_⟩
  · have hel : P.elem t = e := by simp [Program.elem, ht]
    have hu : P.underlying t = some (.slice (P.elem t)) := by rw [hel]; exact ht
    rw [run_slice_l W t A n c hu kl (m : Int) (Int.natCast_nonneg _) (by omega), hel]
    simp [sizeOf, typeInfo, hi, hs, sliced, Result.andThen]
  · obtain ⟨rfl, hl, hmx, hc⟩ := h.at_
    refine ⟨_, c - m, by rw [List.length_drop], by rw [List.length_drop]; omega, by omega, fun hp => ?_⟩
    rw [List.length_drop] at hp
    obtain ⟨ad, rfl, hcs⟩ := hc (by omega)
    rw [if_neg (by omega)]
    refine ⟨_, rfl, by rw [add_block]; exact hcs.1, fun j p hj => ?_⟩
    rw [List.getElem?_drop] at hj
    obtain ⟨cs, hK, hcc⟩ := hcs.2 _ p hj
    refine ⟨cs, hK, fun i u hu => ?_⟩
    rw [add_add, ← Nat.add_assoc, ← Nat.add_mul]
    exact hcc i u hu

/-- xs[l:h] -/
theorem cut_lh {α : Type} (d : Kind α) (t e : TypeId) (ht : P.underlying t = some (.slice e)) (hsz : (P.info? e).map (·.size) = some d.sz) (A : Option Addr) (n c l h : Nat) (hlh : l ≤ h) (hn : h ≤ n) (hnc : n ≤ c) :
    ∃ A', (∀ (W : World) (kl kh : IntKind), (Instr.slice t (.slice A n c) (some (.int kl (l : Int))) (some (.int kh (h : Int))) none).run P W = .ok (.slice A' (h - l) (c - l)) W) ∧
      ∀ (M : Nat → Prop) (W : World) (xs : List α), Rd d M W (.slice A n c) xs → Rd d M W (.slice A' (h - l) (c - l)) ((xs.take h).drop l) := by
  obtain ⟨i, hi, hs⟩ := Option.map_eq_some_iff.1 hsz
  refine ⟨if c = l then A else A.map (·.add (l * d.sz)), fun W kl kh => ?_, fun M W xs hr => ?_⟩
  · have hel : P.elem t = e := by simp [Program.elem, ht]
    have hu : P.underlying t = some (.slice (P.elem t)) := by rw [hel]; exact ht
    rw [run_slice_lh W t A n c hu kl kh (l : Int) (h : Int) (Int.natCast_nonneg _) (by omega) (by omega), hel]
    simp [sizeOf, typeInfo, hi, hs, sliced, Result.andThen]
  · obtain ⟨rfl, hl, hmx, hc⟩ := hr.at_
    have hlen : ((xs.take h).drop l).length = h - l := by
      rw [List.length_drop, List.length_take]
      omega
    refine ⟨_, c - l, by rw [hlen], by rw [hlen]; omega, by omega, fun hp => ?_⟩
    rw [hlen] at hp
    obtain ⟨ad, rfl, hcs⟩ := hc (by omega)
    rw [if_neg (by omega)]
    refine ⟨_, rfl, by rw [add_block]; exact hcs.1, fun j p hj => ?_⟩
    rw [List.getElem?_drop, List.getElem?_take] at hj
    split at hj
    · obtain ⟨cs, hK, hcc⟩ := hcs.2 _ p hj
      refine ⟨cs, hK, fun i u hu => ?_⟩
      rw [add_add, ← Nat.add_assoc, ← Nat.add_mul]
      exact hcc i u hu
    · cases hj

/-- xs[:h] -/
theorem cut_hi {α : Type} (d : Kind α) (t e : TypeId) (ht : P.underlying t = some (.slice e)) (hsz : (P.info? e).map (·.size) = some d.sz) (A : Option Addr) (n c h : Nat) (hn : h ≤ n) (hnc : n ≤ c) :
    (∀ (W : World) (kh : IntKind), (Instr.slice t (.slice A n c) none (some (.int kh (h : Int))) none).run P W = .ok (.slice A h c) W) ∧
      ∀ (M : Nat → Prop) (W : World) (xs : List α), Rd d M W (.slice A n c) xs → Rd d M W (.slice A h c) (xs.take h) := by
  obtain ⟨i, hi, hs⟩ := Option.map_eq_some_iff.1 hsz
  refine ⟨fun W kh => ?_, fun M W xs hr => ?_⟩
  · have hel : P.elem t = e := by simp [Program.elem, ht]
    have hu : P.underlying t = some (.slice (P.elem t)) := by rw [hel]; exact ht
    rw [run_slice_h W t A n c hu kh (h : Int) (Int.natCast_nonneg _) (by omega), hel]
    cases A <;> simp [sizeOf, typeInfo, hi, hs, sliced, Result.andThen, Addr.add]
  · obtain ⟨rfl, hl, hmx, hc⟩ := hr.at_
    have hlen : (xs.take h).length = h := by rw [List.length_take]; omega
    refine ⟨_, c, by rw [hlen], by omega, by omega, fun hp => ?_⟩
    rw [hlen] at hp
    obtain ⟨ad, rfl, hcs⟩ := hc (by omega)
    refine ⟨_, rfl, hcs.1, fun j p hj => ?_⟩
    rw [List.getElem?_take] at hj
    split at hj
    · exact hcs.2 _ p hj
    · cases hj

/-- What a slice reads as is a string's bytes. -/
def strB (l : List UInt8) : ByteArray := ⟨l.toArray⟩
/-- A literal of plain elements, just made. -/
theorem Own.lit {α : Type} {enc : α → Value} {e B : Nat} {W : World} (xs : List α) (cs : Array Value) (hcs : cs.toList = xs.map enc) (hB : B ≤ W.heap.size) (hl : xs.length ≤ 9223372036854775807) :
    Own enc e B (W.alloc (.cells cs e)) (.slice (some ⟨W.heap.size, 0, none⟩) xs.length xs.length) xs := by
  have hs : cs.size = xs.length := by rw [← Array.length_toList, hcs, List.length_map]
  have := World.ownsRow_lit (w := W) (base := B) (e := e) (size := 1) cs xs.length hB (by simpa [maxLen] using hl) (by omega)
  unfold Own
  rw [← hcs]
  exact this
/-- An append (or a copy) to what the call itself made. -/
theorem Stp.own {α : Type} {enc : α → Value} {e : Nat} {S : Nat → Prop} {w w1 w2 : World} {v : Value} {xs : List α} (h : Stp S w w1) (ho : Own enc e w.heap.size w1 v xs) (hg : w1.grownBy w2 v.ownBlock) : Stp S w w2 :=
  h.grown hg (fun k hk hlt => absurd (ho.lt k hk).1 (by omega))

section
variable {α : Type} {enc : α → Value} {e B : Nat} {w : World} {A : Option Addr} {n c : Nat} {xs : List α}
/-- An own slice that is not empty: its block. -/
theorem Own.at_ (h : Own enc e B w (.slice A n c) xs) (hp : 0 < xs.length) : ∃ g, A = some ⟨g, 0, none⟩ ∧ n = xs.length ∧ B ≤ g ∧ g < w.heap.size := by
  rcases h.2 with ⟨h1, h2⟩ | ⟨g, cap, cur, hv, hb, hgg, _⟩
  · omega
  · injection hv with h1 h2 h3
    exact ⟨g, h1, h2, hb, blk_lt hgg⟩
theorem Own.cellAt {g : Nat} (h : Own enc e B w (.slice (some ⟨g, 0, none⟩) n c) xs) (j : Nat) (hj : j < xs.length) : w.cell? ⟨g, j, none⟩ = some (enc xs[j]) := by
  rcases h.2 with ⟨h1, _⟩ | ⟨g', cap, cur, hv, _⟩
  · simp at h1
  · have hn : n = xs.length := by injection hv
    subst hn
    rw [World.ownsRow.cellAt h j (by omega)]
    simp [hj]
theorem Own.free {g : Nat} (h : Own enc e B w (.slice (some ⟨g, 0, none⟩) n c) xs) (j : Nat) : w.frozen? ⟨g, j, none⟩ = false := by
  rcases h.2 with ⟨h1, _⟩ | ⟨g', cap, cur, hv, _⟩
  · simp at h1
  · have hn : n = xs.length := by injection hv
    subst hn
    exact World.ownsRow.frozenAt h j
theorem Own.set_ {g : Nat} (h : Own enc e B w (.slice (some ⟨g, 0, none⟩) n c) xs) (j : Nat) (x : α) : Own enc e B (w.setCell ⟨g, j, none⟩ (enc x)) (.slice (some ⟨g, 0, none⟩) n c) (xs.set j x) := by
  rcases h.2 with ⟨h1, _⟩ | ⟨g', cap, cur, hv, _⟩
  · simp at h1
  · have hn : n = xs.length := by injection hv
    subst hn
    have := (World.ownsRow.stored h j (enc x)).1
    unfold Own
    rw [List.length_set, List.map_set]
    exact this
end

/-! ### a region of open order, step by step -/
section
variable {md : Region.Mode} {S T : World → Prop} {fuel : Nat} {listed : Array Bool} {i : Nat}
theorem rg_take {v : Value} (hi : ops[i]? = some o)
    (hs : Region.noSelect ops = true) (hf : Region.free md ops listed i = true) (hr : (Region.ready md ops listed).contains i = true)
    (hQ : ∀ c a w, Q (.panic c) (a.put o.dst v) w → Q (.panic c) a w) (hw : Region.wanted o (yielded ops a.tmps) = true) (hy : ∀ w, S w → (execOp a.eval o).run P w = .ok (.value v) w) (hS : S W)
    (h : wpAnyH P md ops Q S fuel (listed.setIfInBounds i true) (a.put o.dst v) W) : wpAnyH P md ops Q S (fuel + 1) listed a W :=
  wpAnyH_take hi hs hf hr hQ (.inl ⟨hw, hy⟩) hS h
end
end Go.Proofs.YtligofmhbbgalaaGreatDoor.L

/- be.Put, be.Vec alone (for seats without readers): XBe as far as Vec. -/
namespace Go.Proofs.YtligofmhbbgalaaGreatDoor.L
open Go.RowKit Go.Proofs

theorem info_u8 : (Tryz.prog.info? 5).map (fun i => (i.zero, i.size, i.bytes)) = some (some (.int .u8 0), 1, 1) := by kernel_rfl
theorem size_u8 : (Tryz.prog.info? 5).map (·.size) = some 1 := by kernel_rfl

/-- A size that may be. -/
def clampN (n : Int) : Nat := if n < 1 then 1 else if 4 < n then 4 else n.toNat
theorem clampN_le (n : Int) : 1 ≤ clampN n ∧ clampN n ≤ 4 := by unfold clampN; (repeat' split) <;> omega

def toU8 (x : Int) : UInt8 := UInt8.ofNat (x % 256).toNat
theorem toU8_nat (x : Int) : ((toU8 x).toNat : Int) = x % 256 := by
  unfold toU8
  rw [UInt8.toNat_ofNat']
  omega
/-- The last s bytes of a number, the great ones first. -/
def be (n : Int) : Nat → List UInt8
  | 0 => []
  | s + 1 => be (n / 256) s ++ [toU8 n]
theorem be_len (n : Int) (s : Nat) : (be n s).length = s := by
  induction s generalizing n with
  | zero => rfl
  | succ s ih => simp [be, ih]

theorem ret_i {k : IntKind} {a b : Int} (h : a = b) : Ending.returned (.int k a) = .returned (.int k b) := by rw [h]

set_option maxHeartbeats 400000 in
theorem clamp_any (n : Int) (w : World) : Calls Tryz.prog 59 #[.int .i64 n] w fun e w' => e = .returned (.int .i64 (clampN n : Nat)) ∧ w = w' := by
  by_cases h1 : n < 1
  · have e : ((clampN n : Nat) : Int) = 1 := by simp [clampN, h1]
    have H := Lib.hid e
    clear e
    go_enter Tryz.func59, Tryz.ntmps59
    go_wp2
    go_ret
    exact ⟨ret_i H.out.symm, rfl⟩
  · by_cases h2 : 4 < n
    · have e : ((clampN n : Nat) : Int) = 4 := by simp [clampN, h1, h2]
      have H := Lib.hid e
      clear e
      go_enter Tryz.func59, Tryz.ntmps59
      go_wp2
      go_ret
      exact ⟨ret_i H.out.symm, rfl⟩
    · have e : ((clampN n : Nat) : Int) = n := by simp [clampN, h1, h2]; omega
      have H := Lib.hid e
      clear e
      go_enter Tryz.func59, Tryz.ntmps59
      go_wp2
      go_ret
      exact ⟨ret_i H.out.symm, rfl⟩

/-- A new slice of bytes is handed back; nothing that was there has turned. -/
def NewB (w : World) (l : List UInt8) (e : Ending) (w' : World) : Prop := ∃ v, e = .returned v ∧ Own enc8 5 w.heap.size w' v l ∧ Stp (fun _ => False) w w'

theorem u64_wrap_mod (n : Int) : IntKind.u64.wrap n = n % 18446744073709551616 := by simp [IntKind.wrap, IntKind.signed, IntKind.bits]

theorem byte_of (n : Int) (m : Nat) (hm : m < 4) : ((toU8 (n / 256 ^ m)).toNat : Int) = ((n % 18446744073709551616) / 2 ^ (8 * m)) % 256 := by
  rw [toU8_nat]
  match m, hm with
  | 0, _ => omega
  | 1, _ => omega
  | 2, _ => omega
  | 3, _ => omega

set_option maxHeartbeats 1000000 in
theorem put_any (M : Nat → Prop) (v : Value) (b : List UInt8) (n size : Int) (w : World) (hb : Rd u8 M w v b) (hl : b.length ≤ 140737488351232) :
    Calls Tryz.prog 60 #[v, .int .i64 n, .int .i64 size] w (NewB w (b ++ be n (clampN size))) := by
  obtain ⟨A, c, rfl, hle⟩ := hb.form
  have HB := Lib.hid hb
  clear hb
  obtain ⟨hs1, hs4⟩ := clampN_le size
  go_enter Tryz.func60, Tryz.ntmps60
  go_wp2_with (with_reducible refine stop (N := 14) rfl ?_)
  refine Stop.go ?_
  refine wp_make enc8 0 rfl _ _ 22 rfl w.heap.size 5 1 Tryz.underlying22 info_u8 rfl _ _ _ _ b.length (b.length + 4) rfl rfl rfl (by omega) (by omega) (by omega) (by omega) (by omega) ?_
  intro v1 w1 ho1 hs1 hb1 hz1 hv1
  subst hv1
  have HO1 := Lib.hid ho1
  have HS1 := Lib.hid hs1
  have HZ1 := Lib.hid hz1
  clear ho1 hs1 hz1 hb1
  go_wp2_with (with_reducible refine stop (N := 17) rfl ?_)
  refine Stop.go ?_
  refine wp_copy enc8 (h1e := fun _ => rfl) rfl _ _ _ _ rfl 5 Tryz.underlying22 size_u8 HO1.out (HB.out.stp0 HS1.out) rfl rfl ?_
  intro w2 ho2 hg2
  have HO2 := Lib.hid ho2
  have HS2 := Lib.hid (HS1.out.own HO1.out hg2)
  clear ho2 hg2
  go_wp2_with (go_at_call 59; refine (clamp_any _ _).mono ?_; rintro e w' ⟨rfl, rfl⟩)
  have hcl : clampN size ≤ clampN size := Nat.le_refl _
  have e0 : b.take (List.replicate b.length (0 : UInt8)).length ++ (List.replicate b.length (0 : UInt8)).drop b.length = b := by simp
  rw [e0] at HO2
  clear e0
  go_loopg [7, 8] (clampN size) (fun k o i wr => k ≤ clampN size ∧ i = .int .i64 (8 * (k : Int) - 8) ∧ Own enc8 5 w.heap.size wr o (b ++ be (n / 256 ^ k) (clampN size - k)) ∧ Stp (fun _ => False) w wr)
  case atStart => exact ⟨Nat.le_refl _, by go_num, by simpa [be] using HO2.out, HS2.out⟩
  case round =>
    obtain ⟨hk, rfl, ho, hs⟩ := hrel
    have HO := Lib.hid ho
    have HS := Lib.hid hs
    clear ho hs
    by_cases h0 : gk = 0
    · subst h0
      go_wp2
      go_ret
      exact ⟨_, rfl, by simpa using HO.out, HS.out⟩
    · obtain ⟨m, rfl⟩ : ∃ m, gk = m + 1 := ⟨gk - 1, by omega⟩
      go_wp2_with (with_reducible refine stop (N := 34) rfl ?_)
      refine Stop.go ?_
      refine wp_append1 enc8 (toU8 (n / 256 ^ m)) rfl rfl _ _ _ rfl Tryz.underlying22 info_u8 rfl (HO.out.stp0 ((Stp.refl _ _).alloc _)) rfl ⟨wr.heap.size, 0, none⟩ 1 rfl ?_ ?_ ?_ ?_ ?_
      · rw [World.cell?_alloc_new]
        simp [enc8, byte_of n m (by omega), u64_wrap_mod, show 8 * (m + 1) - 8 = 8 * m by omega]
      · have := be_len (n / 256 ^ (m + 1)) (clampN size - (m + 1))
        simp
        omega
      · have := be_len (n / 256 ^ (m + 1)) (clampN size - (m + 1))
        simp
        omega
      · have := HS.out.size
        simp
        omega
      · intro v3 w3 ho3 hg3
        have HO3 := Lib.hid ho3
        have HS3 := Lib.hid ((HS.out.alloc _).own (HO.out.stp0 ((Stp.refl _ _).alloc _)) hg3)
        clear ho3 hg3
        go_wp2
        go_roundg m
        case measure => omega
        case rel =>
          refine ⟨by omega, by go_num, ?_, HS3.out⟩
          have := HO3.out
          rw [List.append_assoc] at this
          rw [show clampN size - m = (clampN size - (m + 1)) + 1 by omega]
          show Own _ _ _ _ _ (b ++ (be (n / 256 ^ m / 256) (clampN size - (m + 1)) ++ [toU8 (n / 256 ^ m)]))
          rw [Int.ediv_ediv_of_nonneg (Int.pow_nonneg (by decide)), ← Int.pow_succ]
          exact this

/-- A new slice of bytes, and a bool. -/
def NewB2 (w : World) (l : List UInt8) (ok : Bool) (e : Ending) (w' : World) : Prop := ∃ v, e = .returned (.tuple #[v, .bool ok]) ∧ Own enc8 5 w.heap.size w' v l ∧ Stp (fun _ => False) w w'

/-- What Vec lays, and whether it fits. -/
def vecB (b : List UInt8) (size : Int) (x : List UInt8) : List UInt8 × Bool :=
  if x.length < 256 ^ clampN size then (b ++ be x.length (clampN size) ++ x, true) else (b, false)

theorem shr_ne (n m : Nat) : ((n : Int) / 2 ^ (8 * m) != 0) = decide (256 ^ m ≤ n) := by
  show (!((n : Int) / 2 ^ (8 * m) == 0)) = _
  have h : (256 : Nat) ^ m = 2 ^ (8 * m) := by rw [Nat.pow_mul]
  have h2 : ((n : Int) / 2 ^ (8 * m)) = ((n / 2 ^ (8 * m) : Nat) : Int) := by simp
  rw [h2, h]
  have h3 : (((n / 2 ^ (8 * m) : Nat) : Int) == 0) = (n / 2 ^ (8 * m) == 0) := by
    rw [Bool.eq_iff_iff, beq_iff_eq, beq_iff_eq]
    omega
  rw [h3, Bool.eq_iff_iff]
  have hp : 0 < 2 ^ (8 * m) := Nat.pow_pos (by decide)
  simp only [Bool.not_eq_true', beq_eq_false_iff_ne, ne_eq, decide_eq_true_eq, Nat.div_eq_zero_iff]
  omega

set_option maxHeartbeats 1000000 in
theorem vec_any (M : Nat → Prop) (v y : Value) (b x : List UInt8) (size : Int) (w : World) (hb : Rd u8 M w v b) (hx : Rd u8 M w y x) (hl : b.length ≤ 140737488351232 ∧ b.length + x.length + 4 ≤ 140737488355328 ∧ x.length ≤ 140737488351232) :
    Calls Tryz.prog 31 #[v, .int .i64 size, y] w (NewB2 w (vecB b size x).1 (vecB b size x).2) := by
  obtain ⟨A, c, rfl, hle⟩ := hb.form
  obtain ⟨A2, c2, rfl, hle2⟩ := hx.form
  have HB := Lib.hid hb
  have HX := Lib.hid hx
  clear hb hx
  obtain ⟨hs1, hs4⟩ := clampN_le size
  obtain ⟨hl1, hl2, hl3⟩ := hl
  have hsh := shr_ne x.length (clampN size)
  by_cases hfit : x.length < 256 ^ clampN size
  · have hv : vecB b size x = (b ++ be x.length (clampN size) ++ x, true) := by unfold vecB; rw [if_pos hfit]
    rw [hv]
    rw [show decide (256 ^ clampN size ≤ x.length) = false by simpa using hfit] at hsh
    clear hv hfit
    go_enter Tryz.func31, Tryz.ntmps31
    go_wp2_with (first
      | (go_at_call 59; refine (clamp_any _ _).mono ?_; rintro e w' ⟨rfl, rfl⟩)
      | (go_at_call 60; refine stopc ?_))
    refine Stop.go ?_
    refine (put_any M _ b _ _ _ HB.out hl1).mono ?_
    rintro e w1 ⟨v1, rfl, ho1, hs1⟩
    have HO := Lib.hid ho1
    have HS := Lib.hid hs1
    clear ho1 hs1
    go_wp2_with (with_reducible refine stop (N := 25) rfl ?_)
    refine Stop.go ?_
    refine wp_appendRd enc8 (h1e := fun _ => rfl) rfl _ _ _ rfl Tryz.underlying22 info_u8 rfl HO.out (HX.out.stp0 HS.out) rfl rfl ?_ ?_ HS.out.size ?_
    · simp [be_len]
      omega
    · simp [be_len]
      omega
    · intro v2 w2 ho2 hg2
      have HO2 := Lib.hid ho2
      have HS2 := Lib.hid (HS.out.own HO.out hg2)
      clear ho2 hg2
      go_wp2
      go_ret2
      exact ⟨_, rfl, HO2.out, HS2.out⟩
  · have hv : vecB b size x = (b, false) := by unfold vecB; rw [if_neg hfit]
    rw [hv]
    rw [show decide (256 ^ clampN size ≤ x.length) = true by simpa using hfit] at hsh
    clear hv hfit
    go_enter Tryz.func31, Tryz.ntmps31
    go_wp2_with (first
      | (go_at_call 59; refine (clamp_any _ _).mono ?_; rintro e w' ⟨rfl, rfl⟩)
      | (with_reducible refine stop (N := 18) rfl ?_))
    refine Stop.go ?_
    refine wp_appendRd enc8 (h1e := fun _ => rfl) rfl _ _ _ rfl Tryz.underlying22 info_u8 rfl (Own.nil _ _ _ _) HB.out rfl rfl ?_ ?_ (Nat.le_refl _) ?_
    · simp
      omega
    · simp
      omega
    · intro v2 w2 ho2 hg2
      have HO2 := Lib.hid ho2
      have HS2 := Lib.hid ((Stp.refl (fun _ => False) _).nil hg2)
      clear ho2 hg2
      go_wp2
      go_ret2
      exact ⟨_, rfl, HO2.out, HS2.out⟩

end Go.Proofs.YtligofmhbbgalaaGreatDoor.L

/- Bytes and strings (for seats without layer 01): XSa as far as its laws go. -/
namespace Go.Proofs.YtligofmhbbgalaaGreatDoor.L
open Go.RowKit Go.Proofs

/-- A literal of plain elements, just made, whatever its marks. -/
theorem Rd.lit {α : Type} {enc : α → Value} {h1 : ∀ x, (enc x).oneCell' = true} {M : Nat → Prop} {e : Nat} {W : World} {fr : Nat × Nat} (xs : List α) (cs : Array Value) (hcs : cs.toList = xs.map enc) (hl : xs.length ≤ 9223372036854775807) (hM : ¬ M W.heap.size) :
    Rd (.plain enc h1) M (W.alloc (.cells cs e fr)) (.slice (some ⟨W.heap.size, 0, none⟩) xs.length xs.length) xs := by
  refine plain_mk (Nat.le_refl _) (by simpa [maxLen] using hl) fun hp => ⟨_, rfl, hM, fun j hj => ?_⟩
  have hadd : (⟨W.heap.size, 0, none⟩ : Addr).add j = ⟨W.heap.size, j, none⟩ := by unfold Addr.add; split <;> simp_all
  rw [hadd, World.cell?_alloc_mark, ← Array.getElem?_toList, hcs]
  simp [hj]

theorem loadCells_of {P : Program} (w : World) (a : Addr) (vs : List Value) (h : ∀ j u, vs[j]? = some u → w.cell? (a.add j) = some u) : (loadCells a vs.length).run P w = .ok vs.toArray w := run_loadCells_list (P := P) w a vs h

theorem foldl_push (l : List UInt8) (s : ByteArray) : (l.map fun c => (c.toNat : Int)).foldl (fun r n => r.push (UInt8.ofNat n.toNat)) s = ⟨(s.data.toList ++ l).toArray⟩ := by
  induction l generalizing s with
  | nil => simp
  | cons c l ih =>
    rw [List.map_cons, List.foldl_cons, ih]
    simp [ByteArray.push]

/-- string(b) -/
theorem run_strOf {P : Program} {M : Nat → Prop} {W : World} {v : Value} {l : List UInt8} (src dst e : TypeId) (h : Rd u8 M W v l)
    (hs : P.underlying src = some (.slice e)) (he : P.underlying e = some (.int .u8)) (hd : P.underlying dst = some .string) :
    (convert src dst v).run P W = .ok (.string (strB l)) W := by
  obtain ⟨A, c, rfl, hl, hm, hc⟩ := h
  rw [run_convert_bytes_string W src dst e A l.length c hs he hd]
  by_cases h0 : 0 < l.length
  · obtain ⟨ad, rfl, hcs⟩ := hc h0
    have := run_bytesToString (P := P) W ad l.length c (l.map fun c => (c.toNat : Int)) (by
      have h1 := loadCells_of (P := P) W ad (l.map enc8) (fun j u hj => by
        simp only [List.getElem?_map, Option.map_eq_some_iff] at hj
        obtain ⟨p, hp, rfl⟩ := hj
        obtain ⟨cs, hK, hcc⟩ := hcs.2 j p hp
        obtain rfl : cs = [enc8 p] := hK
        simpa [Kind.plain, u8] using hcc 0 _ rfl)
      rw [List.length_map] at h1
      rw [h1, List.map_map]
      rfl)
    rw [this, foldl_push]
    rfl
  · obtain rfl : l = [] := List.eq_nil_of_length_eq_zero (by omega)
    cases A with
    | none =>
      simp [Conv.bytesToString, strB]
      rfl
    | some ad =>
      have := run_bytesToString (P := P) W ad 0 c [] (by simpa using run_loadCells_zero ad W)
      exact this

/-- []byte(s) -/
theorem wp_bytesOf {P : Program} {ops : Array Oper} {rest : List Oper} {o : Oper} {a : Act} {Q : Exit → Act → World → Prop} {W : World} (hg : o.guard = none) (src dst e : TypeId) (x : Operand) (hop : o.op = .convert src dst x) {u : TypeDesc}
    (hs : P.underlying src = some u) (hd : P.underlying dst = some (.slice e)) (he : P.underlying e = some (.int .u8)) {s : ByteArray} (hx : a.eval x = .string s) (hl : s.size ≤ 9223372036854775807)
    (h : ∀ v W', Rd u8 (fun k => k < W.heap.size) W' v s.data.toList → Stp (fun _ => False) W W' → W'.heap.size = W.heap.size + 1 → (∃ c, v = .slice (some ⟨W.heap.size, 0, none⟩) s.size c ∧ s.size ≤ c) → (∀ j, j < s.size → W'.frozen? ⟨W.heap.size, j, none⟩ = false) → wpList P ops Q rest (a.put o.dst v) W') :
    wpList P ops Q (o :: rest) a W := by
  refine wpList_plain hg fun K hK => ?_
  have hrun := Lib.run_convert_string_bytes (P := P) W src dst e s hs hd he
  unfold Oper.wp
  simp [execOp, hop, hx, hrun, Result.andThen]
  have hle : s.size ≤ grownCap W s.size 0 e := grownCap_ge _ _ _ _
  have hcs : s.size ≤ (Lib.bytesCells W e s).size := by
    simp only [Lib.bytesCells, Array.size_append, Array.size_map]
    exact Nat.le_add_right _ _
  have hrd := plain_mk (enc := enc8) (h1 := fun _ => rfl) (M := fun k => k < W.heap.size) (W := Lib.bytesWorld W e s) (A := some ⟨W.heap.size, 0, none⟩) (c := grownCap W s.size 0 e) (xs := s.data.toList) (by simpa using hle) (grownCap_le_maxLen _ _ _ _ (by simpa [maxLen] using hl)) (fun hp => ⟨_, rfl, by simp, fun j hj => by
    have hj' : j < s.size := by simpa using hj
    have hadd : (⟨W.heap.size, 0, none⟩ : Addr).add j = ⟨W.heap.size, j, none⟩ := by unfold Addr.add; split <;> simp_all
    rw [hadd, Lib.bytesWorld_cell W e s j hj', List.getD_eq_getElem?_getD, List.getElem?_eq_getElem hj]
    rfl⟩)
  have hsz : s.data.toList.length = s.size := by simp
  rw [hsz] at hrd
  exact hK _ _ (h _ _ hrd ⟨rfl, rfl, rfl, by rw [Lib.bytesWorld_size]; omega, fun k hk _ => Lib.bytesWorld_at_old W e s k hk⟩ (Lib.bytesWorld_size W e s) ⟨_, rfl, hle⟩ (fun j hj => by
    simp only [World.frozen?, Lib.bytesWorld_at_new]
    simp
    omega))

abbrev convB (W : World) (v : Value) (l : List UInt8) : Prop := (convert 22 9 v).run Tryz.prog W = .ok (.string (strB l)) W
theorem conv_of {M : Nat → Prop} {W : World} {v : Value} {l : List UInt8} (h : Rd u8 M W v l) : convB W v l :=
  run_strOf (P := Tryz.prog) 22 9 5 h Tryz.underlying22 Tryz.underlying5 Tryz.underlying9
theorem strB_inj {x y : List UInt8} (h : strB x = strB y) : x = y := by injection h with h; simpa using congrArg Array.toList h
end Go.Proofs.YtligofmhbbgalaaGreatDoor.L

/- What an argument reads as: from its data tree to the words of XLib. No function of the program. -/
namespace Go.Proofs.YtligofmhbbgalaaGreatDoor.L
open Go.RowKit Go.ChangeShapes Go.WideShapes Go.Deep
variable {P : Program} {α β : Type}

/-- Blocks that are not there yet. -/
abbrev newB (W : World) : Nat → Prop := fun k => W.heap.size ≤ k

theorem addr_add_add (a : Addr) (i j : Nat) : (a.add i).add j = a.add (i + j) := by
  unfold Addr.add
  by_cases h1 : i = 0 <;> by_cases h2 : j = 0 <;> simp [h1, h2, Nat.add_assoc]

/-- Two fields, one behind the other. -/
def pairK (d : Kind α) (e : Kind β) : Kind (α × β) where
  sz := d.sz + e.sz
  K := fun M w x cs => ∃ c1 c2, cs = c1 ++ c2 ∧ d.K M w x.1 c1 ∧ e.K M w x.2 c2
  len := by
    rintro M w x cs ⟨c1, c2, rfl, h1, h2⟩
    rw [List.length_append, d.len h1, e.len h2]
  one := by
    rintro M w x cs ⟨c1, c2, rfl, h1, h2⟩ u hu
    rcases List.mem_append.1 hu with h | h
    · exact d.one h1 u h
    · exact e.one h2 u h
  step := by
    rintro M w w1 x cs hs ⟨c1, c2, rfl, h1, h2⟩
    exact ⟨c1, c2, rfl, d.step hs h1, e.step hs h2⟩
  weak := by
    rintro M M' w x cs hs ⟨c1, c2, rfl, h1, h2⟩
    exact ⟨c1, c2, rfl, d.weak hs h1, e.weak hs h2⟩
/-- A slice in a cell. -/
def slK (d : Kind α) (hd : 0 < d.sz) : Kind (List α) where
  sz := 1
  K := fun M w xs cs => ∃ v, cs = [v] ∧ Rd d M w v xs
  len := by
    rintro M w x cs ⟨v, rfl, _⟩
    rfl
  one := by
    rintro M w x cs ⟨v, rfl, h⟩ u hu
    obtain ⟨A, c, rfl, _⟩ := h.form
    rw [List.mem_singleton.1 hu]
    rfl
  step := by
    rintro M w w1 x cs hs ⟨v, rfl, h⟩
    exact ⟨v, rfl, h.step' hs⟩
  weak := by
    rintro M M' w x cs hs ⟨v, rfl, h⟩
    exact ⟨v, rfl, h.weak hd hs⟩

/-- What the kind's data tree reads as. -/
def Fit (P : Program) (e : TypeId) (d : Kind α) (ok : α → Prop) : Prop :=
  ∀ {H : Type} (enc : TypeId × Value → H) (W : World) (base : Nat) (sp : Nat → Bool) (held : Bool) (fuel : Nat) (cs : List Value) (x : DataW H × List MemPlace),
    DataW.trod enc P W base sp held fuel e cs = some x → ∃ a, d.K (newB W) W a cs ∧ ok a

theorem fit_u8 {e : TypeId} (he : P.underlying e = some (.int .u8)) : Fit P e u8 (fun _ => True) := by
  intro H enc W base sp held fuel cs x h
  obtain ⟨n, rfl, _, hw⟩ := DataW.trod_int he h
  have hr : 0 ≤ n ∧ n < 256 := by
    simp only [Lit.wf, IntKind.min, IntKind.max, IntKind.signed, IntKind.bits, Bool.and_eq_true, decide_eq_true_eq] at hw
    simp at hw
    omega
  refine ⟨UInt8.ofNat n.toNat, ?_, trivial⟩
  show [Value.int .u8 n] = [enc8 _]
  unfold enc8
  rw [UInt8.toNat_ofNat']
  congr 2
  omega
theorem fit_str {e : TypeId} (he : P.underlying e = some .string) : Fit P e str (fun s => s.size ≤ maxLen) := by
  intro H enc W base sp held fuel cs x h
  obtain ⟨s, rfl, _, hw⟩ := DataW.trod_string he h
  exact ⟨s, rfl, hw⟩
theorem rd_of_trod {H : Type} {enc : TypeId × Value → H} {W : World} {base : Nat} {sp : Nat → Bool} {held : Bool} {fuel : Nat} {x : DataW H × List MemPlace} {t e : TypeId} {d : Kind α} {ok : α → Prop} {v : Value}
    (ht : P.underlying t = some (.slice e)) (hc : P.cellsOf e = d.sz) (hd : 0 < d.sz) (hf : Fit P e d ok) (h : DataW.trod enc P W base sp held fuel t [v] = some x) :
    ∃ xs, Rd d (newB W) W v xs ∧ ∀ a ∈ xs, ok a := by
  rcases open_slice ht h with ⟨h1, _⟩ | ⟨a, len, cap, m, n, D, Pl, h1, hb, hl, hm, hmm, _, hx⟩
  · injection h1 with h1
    subst h1
    exact ⟨[], Rd.nil _ _ _, by simp⟩
  · injection h1 with h1
    subst h1
    have hlm : len ≤ m := by rw [hmm]; split <;> omega
    have each : ∀ i, i < len → ∃ q : α × List Value, (∀ j u, q.2[j]? = some u → W.cell? (a.add (i * d.sz + j)) = some u) ∧ d.K (newB W) W q.1 q.2 ∧ ok q.1 := by
      intro i hi
      obtain ⟨cs', h1, h2⟩ := hx i (by omega)
      obtain ⟨_, hlen, hcell⟩ := World.cells?_some h1
      obtain ⟨y, hK, hok⟩ := hf enc W base sp held n cs' _ h2
      refine ⟨(y, cs'), fun j u hj => ?_, hK, hok⟩
      have hj' : j < cs'.length := (List.getElem?_eq_some_iff.1 hj).1
      have := hcell j (by omega)
      rw [hc, addr_add_add] at this
      rw [this]
      exact hj
    obtain ⟨V, hV⟩ : ∃ V : List (α × List Value), V.length = len ∧ ∀ i q, V[i]? = some q → (∀ j u, q.2[j]? = some u → W.cell? (a.add (i * d.sz + j)) = some u) ∧ d.K (newB W) W q.1 q.2 ∧ ok q.1 := by
      clear hlm hmm hx h hm hl ‹x = _›
      induction len with
      | zero => exact ⟨[], rfl, by simp⟩
      | succ k ih =>
        obtain ⟨V, hl, hV⟩ := ih (fun i hi => each i (by omega))
        obtain ⟨q, hq⟩ := each k (by omega)
        refine ⟨V ++ [q], by simp [hl], fun i r hr => ?_⟩
        rw [List.getElem?_append] at hr
        split at hr
        · exact hV i r hr
        · rename_i hge
          have : i = k := by
            have := (List.getElem?_eq_some_iff.1 hr).1
            simp at this
            omega
          subst this
          rw [hl] at hr
          simp at hr
          subst hr
          exact hq
    obtain ⟨hVl, hV⟩ := hV
    refine ⟨V.map (·.1), ⟨some a, cap, by rw [List.length_map, hVl], by rw [List.length_map, hVl]; exact hl, hm, fun hp => ⟨a, rfl, ?_, ?_⟩⟩, ?_⟩
    · have hp' : 0 < V.length := by simpa using hp
      obtain ⟨h1, h2, _⟩ := hV 0 _ (List.getElem?_eq_getElem hp')
      have hl0 := d.len h2
      have := World.block_lt_of_cell? W _ (h1 0 _ (List.getElem?_eq_getElem (by omega)))
      rw [add_block] at this
      simp only [newB]
      omega
    · intro j p hj
      rw [List.getElem?_map, Option.map_eq_some_iff] at hj
      obtain ⟨q, hq, rfl⟩ := hj
      obtain ⟨h1, h2, _⟩ := hV j q hq
      exact ⟨q.2, h2, h1⟩
    · intro y hy
      obtain ⟨q, hq, rfl⟩ := List.mem_map.1 hy
      obtain ⟨i, hi⟩ := List.getElem?_of_mem hq
      exact (hV i q hi).2.2

/-- A slice that came in. -/
theorem arg_slice {H : Type} {enc : TypeId × Value → H} {W : World} {base b0 : Nat} {r : Reach} {sp : Nat → Bool} {held : Bool} {dd : DataW H} {ps : List MemPlace} {t e : TypeId} {d : Kind α} {ok : α → Prop} {v : Value}
    (ht : P.underlying t = some (.slice e)) (hc : P.cellsOf e = d.sz) (hd : 0 < d.sz) (hf : Fit P e d ok) (hv : Value.okWide P W r b0 t v) (h : DataW.Trod enc P W base sp held t v dd ps) :
    ∃ xs, Rd d (newB W) W v xs ∧ ∀ a ∈ xs, ok a := by
  obtain ⟨A, n, c, rfl⟩ := okWide_slice ht hv
  obtain ⟨fuel, h⟩ := h
  exact rd_of_trod ht hc hd hf h

/-- A field's address, as the walk spells it. -/
theorem add_fld (a : Addr) (i j : Nat) (hj : j ≠ 0) : a.add (i + j) = ⟨(a.add i).block, (a.add i).off + j, none⟩ := by
  unfold Addr.add
  by_cases h1 : i = 0 <;> simp [h1, hj, Nat.add_assoc]

end Go.Proofs.YtligofmhbbgalaaGreatDoor.L
