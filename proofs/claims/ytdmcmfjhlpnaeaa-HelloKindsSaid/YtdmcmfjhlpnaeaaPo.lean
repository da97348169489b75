/- Of a hello that is parsed: sizes, kinds: plain laws. -/
import Derived.Test.YtdmcmfjhlpnaeaaPn
set_option linter.unusedVariables false
set_option linter.unusedSimpArgs false
namespace Go.Proofs.Ytdmcmfjhlpnaeaa.L
open Go.RowKit Go.Proofs

theorem flatX_sum (l : List (Int × List UInt8)) (h : l.all extB = true) : (flatX l).length = (l.map fun x => 4 + x.2.length).sum := by
  induction l with
  | nil => rfl
  | cons x l ih =>
    simp only [List.all_cons, Bool.and_eq_true] at h
    have h1 := h.1
    simp only [extB, Bool.and_eq_true, decide_eq_true_eq] at h1
    have e : flatX (x :: l) = xOne x ++ flatX l := rfl
    rw [e, List.length_append, ih h.2, xOne_yes x h1.2, List.map_cons, List.sum_cons]
    simp only [List.length_append, be_len]
    omega
theorem few_lay (h : Hl) (ho : okP h = true) (hr : h.rnd.length = 32) : fewN h ≤ (layS h).length := by
  obtain ⟨p1, p2, p3, p4, p5, p6, p7, p8, p9, p10, p11⟩ := ok_parts h ho
  have hA : (layA h).length = 38 + h.ses.length + 2 * h.cip.length + h.met.length := by
    rw [layA_eq h p2 p3 p4]
    simp only [List.length_append, be_len, hr, flatN_len]
    omega
  have hX := flatX_sum h.exs p8
  unfold fewN layS
  split
  · rw [vecB_yes _ _ 2 p9]
    simp only [List.length_append, be_len]
    omega
  · rename_i hh
    rcases p11 with e | e
    · exact absurd e hh
    · rw [e]
      simp only [List.map_nil, List.sum_nil]
      omega
theorem parse_fit (b : List UInt8) : HlFit (parseS b).1 := by
  rcases parse_or b with e | ⟨-, e, -⟩
  · rw [e]
    exact ⟨by simp [hl0], by simp [hl0], by simp [hl0], by simp [hl0], fun x hx => by simp [hl0] at hx, by simp [hl0], fun x hx => by simp [hl0] at hx⟩
  · rw [e]
    exact (laid_fit2 b).1
theorem parse_few (b : List UInt8) (h : (parseS b).2 = 0) : fewN (parseS b).1 ≤ b.length := by
  obtain ⟨x, e, h1, h2, h3⟩ := parse_ok b h
  rw [e]
  have := few_lay x h1 h3
  rw [h2] at this
  exact this
theorem kinds_apart (xs : List (Int × List UInt8)) (hn : dup xs = false) (i j : Nat) (hi : i < xs.length) (hj : j < xs.length) (hij : i < j) : xs[i].1 ≠ xs[j].1 := by
  have h : (xs.map (·.1)).Nodup := by simpa [dup] using hn
  have := List.pairwise_iff_getElem.1 h i j (by simpa using hi) (by simpa using hj) hij
  simpa using this
theorem find_own (xs : List (Int × List UInt8)) (hn : dup xs = false) (j : Nat) (hj : j < xs.length) : findS xs xs[j].1 = (xs[j].2, true) :=
  findS_hit xs _ j hj (fun i hi hij => kinds_apart xs hn i j hi hj hij) rfl
theorem find_iff (xs : List (Int × List UInt8)) (kind : Int) : (findS xs kind).2 = true ↔ ∃ i, ∃ hi : i < xs.length, xs[i].1 = kind := by
  by_cases h : ∃ i, ∃ hi : i < xs.length, xs[i].1 = kind
  · refine ⟨fun _ => h, fun _ => ?_⟩
    obtain ⟨i, hi, e⟩ := h
    unfold findS
    have : (xs.find? fun x => x.1 == kind).isSome = true := by
      rw [List.find?_isSome]
      exact ⟨xs[i], List.getElem_mem hi, by simpa using e⟩
    cases e2 : xs.find? fun x => x.1 == kind with
    | none => rw [e2] at this; cases this
    | some x => rfl
  · refine ⟨fun e => ?_, fun e => absurd e h⟩
    rw [findS_miss xs kind (fun j hj e => h ⟨j, hj, e⟩)] at e
    cases e
theorem sm_hl0 : HlSm hl0 := ⟨by simp [hl0], by simp [hl0], by simp [hl0], by simp [hl0], fun x hx => by simp [hl0] at hx⟩
end Go.Proofs.Ytdmcmfjhlpnaeaa.L
