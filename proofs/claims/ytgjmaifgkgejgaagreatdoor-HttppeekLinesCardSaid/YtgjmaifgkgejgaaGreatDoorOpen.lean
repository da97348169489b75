/- What an argument reads as: from its data tree to the words of XLib. No function of the program. -/
import Derived.Test.YtgjmaifgkgejgaaGreatDoorLib
import Derived.ProofKit
import Derived.OpenShut
import Derived.ShutString
import Derived.ChangeOld
import Derived.Below
import Derived.Deep.Slices
set_option linter.unusedVariables false
set_option linter.unusedSimpArgs false
namespace Go.Proofs.YtgjmaifgkgejgaaGreatDoor.L
open Go.RowKit Go.ChangeShapes Go.WideShapes Go.Deep
variable {P : Program} {α β : Type}

/-- Blocks that are not there yet. -/
abbrev newB (W : World) : Nat → Prop := fun k => W.heap.size ≤ k

theorem addr_add_add (a : Addr) (i j : Nat) : (a.add i).add j = a.add (i + j) := by
  unfold Addr.add
  by_cases h1 : i = 0 <;> by_cases h2 : j = 0 <;> simp [h1, h2, Nat.add_assoc]

/-- Two fields, one behind the other. -/
def pairK (d : Kind α) (e : Kind β) : Kind (α × β) where
  sz := d.sz + e.sz
  K := fun M w x cs => ∃ c1 c2, cs = c1 ++ c2 ∧ d.K M w x.1 c1 ∧ e.K M w x.2 c2
  len := by
    rintro M w x cs ⟨c1, c2, rfl, h1, h2⟩
    rw [List.length_append, d.len h1, e.len h2]
  one := by
    rintro M w x cs ⟨c1, c2, rfl, h1, h2⟩ u hu
    rcases List.mem_append.1 hu with h | h
    · exact d.one h1 u h
    · exact e.one h2 u h
  step := by
    rintro M w w1 x cs hs ⟨c1, c2, rfl, h1, h2⟩
    exact ⟨c1, c2, rfl, d.step hs h1, e.step hs h2⟩
  weak := by
    rintro M M' w x cs hs ⟨c1, c2, rfl, h1, h2⟩
    exact ⟨c1, c2, rfl, d.weak hs h1, e.weak hs h2⟩
/-- A slice in a cell. -/
def slK (d : Kind α) (hd : 0 < d.sz) : Kind (List α) where
  sz := 1
  K := fun M w xs cs => ∃ v, cs = [v] ∧ Rd d M w v xs
  len := by
    rintro M w x cs ⟨v, rfl, _⟩
    rfl
  one := by
    rintro M w x cs ⟨v, rfl, h⟩ u hu
    obtain ⟨A, c, rfl, _⟩ := h.form
    rw [List.mem_singleton.1 hu]
    rfl
  step := by
    rintro M w w1 x cs hs ⟨v, rfl, h⟩
    exact ⟨v, rfl, h.step' hs⟩
  weak := by
    rintro M M' w x cs hs ⟨v, rfl, h⟩
    exact ⟨v, rfl, h.weak hd hs⟩

/-- What the kind's data tree reads as. -/
def Fit (P : Program) (e : TypeId) (d : Kind α) (ok : α → Prop) : Prop :=
  ∀ {H : Type} (enc : TypeId × Value → H) (W : World) (base : Nat) (sp : Nat → Bool) (held : Bool) (fuel : Nat) (cs : List Value) (x : DataW H × List MemPlace),
    DataW.trod enc P W base sp held fuel e cs = some x → ∃ a, d.K (newB W) W a cs ∧ ok a

theorem fit_int {e : TypeId} {k : IntKind} (he : P.underlying e = some (.int k)) : Fit P e (int k) (fun n => (Lit.int k n).wf = true) := by
  intro H enc W base sp held fuel cs x h
  obtain ⟨n, rfl, _, hw⟩ := DataW.trod_int he h
  exact ⟨n, rfl, hw⟩
theorem fit_u8 {e : TypeId} (he : P.underlying e = some (.int .u8)) : Fit P e u8 (fun _ => True) := by
  intro H enc W base sp held fuel cs x h
  obtain ⟨n, rfl, _, hw⟩ := DataW.trod_int he h
  have hr : 0 ≤ n ∧ n < 256 := by
    simp only [Lit.wf, IntKind.min, IntKind.max, IntKind.signed, IntKind.bits, Bool.and_eq_true, decide_eq_true_eq] at hw
    simp at hw
    omega
  refine ⟨UInt8.ofNat n.toNat, ?_, trivial⟩
  show [Value.int .u8 n] = [enc8 _]
  unfold enc8
  rw [UInt8.toNat_ofNat']
  congr 2
  omega
theorem fit_str {e : TypeId} (he : P.underlying e = some .string) : Fit P e str (fun s => s.size ≤ maxLen) := by
  intro H enc W base sp held fuel cs x h
  obtain ⟨s, rfl, _, hw⟩ := DataW.trod_string he h
  exact ⟨s, rfl, hw⟩
theorem rd_of_trod {H : Type} {enc : TypeId × Value → H} {W : World} {base : Nat} {sp : Nat → Bool} {held : Bool} {fuel : Nat} {x : DataW H × List MemPlace} {t e : TypeId} {d : Kind α} {ok : α → Prop} {v : Value}
    (ht : P.underlying t = some (.slice e)) (hc : P.cellsOf e = d.sz) (hd : 0 < d.sz) (hf : Fit P e d ok) (h : DataW.trod enc P W base sp held fuel t [v] = some x) :
    ∃ xs, Rd d (newB W) W v xs ∧ ∀ a ∈ xs, ok a := by
  rcases open_slice ht h with ⟨h1, _⟩ | ⟨a, len, cap, m, n, D, Pl, h1, hb, hl, hm, hmm, _, hx⟩
  · injection h1 with h1
    subst h1
    exact ⟨[], Rd.nil _ _ _, by simp⟩
  · injection h1 with h1
    subst h1
    have hlm : len ≤ m := by rw [hmm]; split <;> omega
    have each : ∀ i, i < len → ∃ q : α × List Value, (∀ j u, q.2[j]? = some u → W.cell? (a.add (i * d.sz + j)) = some u) ∧ d.K (newB W) W q.1 q.2 ∧ ok q.1 := by
      intro i hi
      obtain ⟨cs', h1, h2⟩ := hx i (by omega)
      obtain ⟨_, hlen, hcell⟩ := World.cells?_some h1
      obtain ⟨y, hK, hok⟩ := hf enc W base sp held n cs' _ h2
      refine ⟨(y, cs'), fun j u hj => ?_, hK, hok⟩
      have hj' : j < cs'.length := (List.getElem?_eq_some_iff.1 hj).1
      have := hcell j (by omega)
      rw [hc, addr_add_add] at this
      rw [this]
      exact hj
    obtain ⟨V, hV⟩ : ∃ V : List (α × List Value), V.length = len ∧ ∀ i q, V[i]? = some q → (∀ j u, q.2[j]? = some u → W.cell? (a.add (i * d.sz + j)) = some u) ∧ d.K (newB W) W q.1 q.2 ∧ ok q.1 := by
      clear hlm hmm hx h hm hl ‹x = _›
      induction len with
      | zero => exact ⟨[], rfl, by simp⟩
      | succ k ih =>
        obtain ⟨V, hl, hV⟩ := ih (fun i hi => each i (by omega))
        obtain ⟨q, hq⟩ := each k (by omega)
        refine ⟨V ++ [q], by simp [hl], fun i r hr => ?_⟩
        rw [List.getElem?_append] at hr
        split at hr
        · exact hV i r hr
        · rename_i hge
          have : i = k := by
            have := (List.getElem?_eq_some_iff.1 hr).1
            simp at this
            omega
          subst this
          rw [hl] at hr
          simp at hr
          subst hr
          exact hq
    obtain ⟨hVl, hV⟩ := hV
    refine ⟨V.map (·.1), ⟨some a, cap, by rw [List.length_map, hVl], by rw [List.length_map, hVl]; exact hl, hm, fun hp => ⟨a, rfl, ?_, ?_⟩⟩, ?_⟩
    · have hp' : 0 < V.length := by simpa using hp
      obtain ⟨h1, h2, _⟩ := hV 0 _ (List.getElem?_eq_getElem hp')
      have hl0 := d.len h2
      have := World.block_lt_of_cell? W _ (h1 0 _ (List.getElem?_eq_getElem (by omega)))
      rw [add_block] at this
      simp only [newB]
      omega
    · intro j p hj
      rw [List.getElem?_map, Option.map_eq_some_iff] at hj
      obtain ⟨q, hq, rfl⟩ := hj
      obtain ⟨h1, h2, _⟩ := hV j q hq
      exact ⟨q.2, h2, h1⟩
    · intro y hy
      obtain ⟨q, hq, rfl⟩ := List.mem_map.1 hy
      obtain ⟨i, hi⟩ := List.getElem?_of_mem hq
      exact (hV i q hi).2.2

/-- A slice that came in. -/
theorem arg_slice {H : Type} {enc : TypeId × Value → H} {W : World} {base b0 : Nat} {r : Reach} {sp : Nat → Bool} {held : Bool} {dd : DataW H} {ps : List MemPlace} {t e : TypeId} {d : Kind α} {ok : α → Prop} {v : Value}
    (ht : P.underlying t = some (.slice e)) (hc : P.cellsOf e = d.sz) (hd : 0 < d.sz) (hf : Fit P e d ok) (hv : Value.okWide P W r b0 t v) (h : DataW.Trod enc P W base sp held t v dd ps) :
    ∃ xs, Rd d (newB W) W v xs ∧ ∀ a ∈ xs, ok a := by
  obtain ⟨A, n, c, rfl⟩ := okWide_slice ht hv
  obtain ⟨fuel, h⟩ := h
  exact rd_of_trod ht hc hd hf h

/-- A field's address, as the walk spells it. -/
theorem add_fld (a : Addr) (i j : Nat) (hj : j ≠ 0) : a.add (i + j) = ⟨(a.add i).block, (a.add i).off + j, none⟩ := by
  unfold Addr.add
  by_cases h1 : i = 0 <;> simp [h1, hj, Nat.add_assoc]

/-- two plain fields -/
theorem pair_cell {e1 : α → Value} {e2 : β → Value} {h1 : ∀ x, (e1 x).oneCell' = true} {h2 : ∀ x, (e2 x).oneCell' = true} {M : Nat → Prop} {W : World} {xs : List (α × β)} {A : Option Addr} {n c : Nat}
    (h : Rd (pairK (.plain e1 h1) (.plain e2 h2)) M W (.slice A n c) xs) (j : Nat) (hj : j < xs.length) : ∃ ad, A = some ad ∧ ¬ M ad.block ∧ W.cell? (ad.add (j * 2)) = some (e1 xs[j].1) ∧ W.cell? ⟨(ad.add (j * 2)).block, (ad.add (j * 2)).off + 1, none⟩ = some (e2 xs[j].2) := by
  obtain ⟨ad, ha, hcs⟩ := h.at_.2.2.2 (by omega)
  obtain ⟨cs, hK, hc⟩ := hcs.2 j _ (List.getElem?_eq_getElem hj)
  obtain ⟨c1, c2, rfl, hk1, hk2⟩ := hK
  obtain rfl : c1 = [e1 xs[j].1] := hk1
  obtain rfl : c2 = [e2 xs[j].2] := hk2
  exact ⟨ad, ha, hcs.1, hc 0 _ rfl, by rw [← add_fld _ _ 1 (by decide)]; exact hc 1 _ rfl⟩
end Go.Proofs.YtgjmaifgkgejgaaGreatDoor.L
