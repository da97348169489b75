/- Texts of the proof, joined: Up. -/
import Derived.Test.YtligofmhbbgalaaGreatDoorRows
import Derived.Test.YtligofmhbbgalaaGreatDoorG06
set_option linter.unusedVariables false
set_option linter.unusedSimpArgs false
/- What the bound of an argument's bulk gives. No function of the program. -/
namespace Go.Proofs.YtligofmhbbgalaaGreatDoor.L
open Go.RowKit Go.ChangeShapes Go.WideShapes Go.Deep

theorem bulk_part {H : Type} {d : DataW H} {l : List (DataW H)} (h : d ∈ l) : Rows.uptoBulk d ≤ Rows.uptoBulkAll l := by
  induction l with
  | nil => cases h
  | cons x r ih =>
    simp only [Rows.uptoBulkAll]
    rcases List.mem_cons.1 h with rfl | e
    · omega
    · have := ih e
      omega
theorem bulk_one {H : Type} (d : DataW H) : 1 ≤ Rows.uptoBulk d := by
  cases d with
  | lit l => cases l <;> simp [Rows.uptoBulk]
  | nil => simp [Rows.uptoBulk]
  | ptr d => simp [Rows.uptoBulk]
  | slice elems spare => simp [Rows.uptoBulk]
  | agg parts => simp [Rows.uptoBulk]
  | iface t d => simp [Rows.uptoBulk]
  | map entries => simp [Rows.uptoBulk]
  | held h => simp [Rows.uptoBulk]
theorem bulk_len {H : Type} (l : List (DataW H)) : l.length ≤ Rows.uptoBulkAll l := by
  induction l with
  | nil => simp [Rows.uptoBulkAll]
  | cons x r ih =>
    have := bulk_one x
    simp only [Rows.uptoBulkAll, List.length_cons]
    omega
/-- A row of strings that came in: no more, and no longer, than its bulk. -/
theorem strs_bulk {H : Type} {enc : TypeId × Value → H} {P : Program} {W : World} {base b0 : Nat} {r : Reach} {sp : Nat → Bool} {held : Bool} {dd : DataW H} {ps : List MemPlace} {t e : TypeId} {v : Value}
    (ht : P.underlying t = some (.slice e)) (hc : P.cellsOf e = 1) (he : P.underlying e = some .string) (hv : Value.okWide P W r b0 t v) (h : DataW.Trod enc P W base sp held t v dd ps) :
    ∃ xs, Rd str (newB W) W v xs ∧ xs.length ≤ Rows.uptoBulk dd ∧ ∀ s ∈ xs, s.size ≤ Rows.uptoBulk dd := by
  obtain ⟨A, n, c, rfl⟩ := okWide_slice ht hv
  obtain ⟨xs, hr, -⟩ := arg_slice (d := str) ht hc (by decide) (fit_str he) hv h
  refine ⟨xs, hr, ?_⟩
  obtain ⟨fuel, h⟩ := h
  rcases open_slice ht h with ⟨h1, _⟩ | ⟨a, len, cap, m, k, D, Pl, h1, hb, hl, hm, hmm, hx1, hx⟩
  · injection h1 with h1
    injection h1 with h1 h2 h3
    subst h2
    have h0 := hr.len
    have : xs = [] := List.eq_nil_of_length_eq_zero h0.symm
    subst this
    exact ⟨Nat.zero_le _, fun s hs => by cases hs⟩
  · injection h1 with h1
    injection h1 with h1 h2 h3
    subst h1
    subst h2
    have h0 := hr.len
    injection hx1 with hx1 hx2
    have hlm : n ≤ m := by rw [hmm]; split <;> omega
    rw [hx1]
    have hlen := bulk_len ((List.range n).map D)
    rw [List.length_map, List.length_range] at hlen
    refine ⟨by simp only [Rows.uptoBulk]; omega, fun s hs => ?_⟩
    obtain ⟨i, hi, rfl⟩ := List.mem_iff_getElem.1 hs
    obtain ⟨ad, ha, -, hcell⟩ := plain_cell hr i hi
    injection ha with ha
    subst ha
    obtain ⟨cs', g1, g2⟩ := hx i (by omega)
    obtain ⟨_, hl2, hc2⟩ := World.cells?_some g1
    obtain ⟨s', rfl, g3, -⟩ := DataW.trod_string he g2
    have g4 := hc2 0 (by omega)
    rw [hc, addr_add_add, Nat.mul_one, Nat.add_zero, hcell] at g4
    have g5 : xs[i] = s' := by
      simp at g4
      exact g4
    rw [g5]
    have hmem := bulk_part (List.mem_map.2 ⟨i, List.mem_range.2 (by omega), rfl⟩ : D i ∈ (List.range n).map D)
    have g6 : D i = .lit (.string s'.data.toList) := congrArg Prod.fst g3
    rw [g6] at hmem
    simp only [Rows.uptoBulk] at hmem ⊢
    have : s'.data.toList.length = s'.size := by simp
    omega
end Go.Proofs.YtligofmhbbgalaaGreatDoor.L
