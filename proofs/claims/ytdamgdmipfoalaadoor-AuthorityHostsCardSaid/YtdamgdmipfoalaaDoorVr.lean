/- Layer 13, plain: the document's ways to read and print an address come to the same. No function of the program. -/
import Derived.Test.YtdamgdmipfoalaaDoorVq
import Derived.Lib.Join
set_option linter.unusedVariables false
set_option linter.unusedSimpArgs false
namespace Go.Proofs.YtdamgdmipfoalaaDoor.L
open Go.RowKit

theorem join_joinC (c : UInt8) (xs : List (List UInt8)) : Lib.join xs [c] = joinC c xs := by
  unfold Lib.join
  induction xs with
  | nil => rfl
  | cons x r ih =>
    cases r with
    | nil => simp [List.intercalate, joinC]
    | cons y r =>
      rw [joinC, ← ih]
      simp [List.intercalate]
/-! ### a second gap -/
theorem grps_gap (may : Bool) (n : Nat) (y acc : List UInt8) (hn : y.length ≤ n) (j : Nat) (h1 : (58 :: y)[j]? = some 58) (h2 : (58 :: y)[j + 1]? = some 58) : grpsA may acc (splitC 58 y) = none := by
  induction n generalizing y acc j with
  | zero =>
    have : y = [] := List.length_eq_zero_iff.1 (by omega)
    subst this
    simp at h2
  | succ n ih =>
    rcases untilC_cases 58 y with ⟨hno, -⟩ | ⟨a, b, rfl, hno, -⟩
    · rw [List.getElem?_cons_succ] at h2
      exact absurd (List.mem_of_getElem? h2) hno
    · rw [splitC_at 58 a b hno, grpsA]
      have hne : (splitC 58 b).isEmpty = false := by
        cases hs : splitC 58 b with
        | nil => exact absurd hs (splitC_ne 58 b)
        | cons x r => rfl
      rw [hne, Bool.and_false]
      cases a with
      | nil => rfl
      | cons c r =>
        split
        · rename_i x hx
          rw [List.getElem?_cons_succ] at h2
          have hj : (c :: r).length < j := by
            by_cases hlt : j < (c :: r).length
            · rw [List.getElem?_append_left hlt] at h2
              exact absurd (List.mem_of_getElem? h2) hno
            · by_cases he : j = (c :: r).length
              · rw [he, List.length_cons, List.getElem?_cons_succ, List.getElem?_append_left (by simp)] at h1
                exact absurd (List.mem_of_getElem? h1) hno
              · omega
          refine ih b _ (by simp at hn; omega) (j - (c :: r).length - 1) ?_ ?_
          · obtain ⟨m, hm⟩ : ∃ m, j = (c :: r).length + 1 + m := ⟨j - (c :: r).length - 1, by omega⟩
            rw [show j - (c :: r).length - 1 = m by omega]
            rw [hm, show (c :: r).length + 1 + m = ((c :: r).length + m) + 1 by omega, List.getElem?_cons_succ, List.getElem?_append_right (by omega), show (c :: r).length + m - (c :: r).length = m by omega] at h1
            exact h1
          · obtain ⟨m, hm⟩ : ∃ m, j = (c :: r).length + 1 + m := ⟨j - (c :: r).length - 1, by omega⟩
            rw [show j - (c :: r).length - 1 = m by omega]
            rw [hm, List.getElem?_append_right (by omega), show (c :: r).length + 1 + m - (c :: r).length = m + 1 by omega] at h2
            exact h2
        · rfl
theorem gapS_inv (l x y : List UInt8) (h : gapS l = some (x, y)) : l = x ++ [58, 58] ++ y := by
  induction l generalizing x with
  | nil => cases h
  | cons c r ih =>
    rw [gapS] at h
    split at h
    · rename_i hc
      injection h with h
      injection h with e1 e2
      cases r with
      | nil => simp at hc
      | cons d r =>
        simp at hc
        rw [← e1, ← e2, hc.1, hc.2]
        rfl
    · split at h
      · rename_i x' y' hx
        injection h with h
        injection h with e1 e2
        have := ih x' (by rw [hx, e2])
        rw [← e1, this]
        simp
      · cases h
/-- Where the first gap is. -/
theorem gapS_none (l : List UInt8) (h : ∀ j : Nat, j + 1 < l.length → ¬ (l[j]? = some 58 ∧ l[j + 1]? = some 58)) : gapS l = none :=
  gapS_no l fun j h1 h2 => h j (List.getElem?_eq_some_iff.1 h2).1 ⟨h1, h2⟩
theorem gapS_first (l : List UInt8) (k : Nat) (h : ∀ j : Nat, j < k → ¬ (l[j]? = some 58 ∧ l[j + 1]? = some 58)) (h1 : l[k]? = some 58) (h2 : l[k + 1]? = some 58) : gapS l = some (l.take k, l.drop (k + 2)) := by
  induction k generalizing l with
  | zero =>
    match l, h1, h2 with
    | c :: r, h1, h2 =>
      rw [gapS, if_pos ⟨by simpa using h1, by simpa using h2⟩]
      rw [List.take_zero, List.drop_succ_cons]
  | succ k ih =>
    match l, h1, h2 with
    | c :: r, h1, h2 =>
      rw [gapS, if_neg (fun hh => h 0 (by omega) ⟨by simpa using hh.1, by simpa using hh.2⟩), ih r (fun j hj hh => h (j + 1) (by omega) (by simpa using hh)) (by simpa using h1) (by simpa using h2)]
      simp
theorem parse_gap2 (l : List UInt8) (k j : Nat) (hd : dotS l = none) (h : ∀ j : Nat, j < k → ¬ (l[j]? = some 58 ∧ l[j + 1]? = some 58)) (h1 : l[k]? = some 58) (h2 : l[k + 1]? = some 58)
    (hj : k < j) (h3 : l[j]? = some 58) (h4 : l[j + 1]? = some 58) : parseA l = none := by
  unfold parseA
  rw [hd, gapS_first l k h h1 h2]
  simp only
  have hr : readS true (l.drop (k + 2)) = none := by
    have hne : l.drop (k + 2) ≠ [] := fun e => by
      have := congrArg List.length e
      have := (List.getElem?_eq_some_iff.1 h4).1
      simp at *
      omega
    unfold readS
    rw [if_neg hne]
    have he : 58 :: l.drop (k + 2) = l.drop (k + 1) := by
      rw [List.drop_eq_getElem_cons (List.getElem?_eq_some_iff.1 h2).1, (List.getElem?_eq_some_iff.1 h2).2]
    refine grps_gap true _ _ [] (Nat.le_refl _) (j - k - 1) ?_ ?_
    · rw [he, List.getElem?_drop, show k + 1 + (j - k - 1) = j by omega]
      exact h3
    · rw [he, List.getElem?_drop, show k + 1 + (j - k - 1 + 1) = j + 1 by omega]
      exact h4
  rw [hr]
  split <;> simp_all
/-! ### the longest row, another way -/
theorem rowA_two (l : List Nat) (k f1 n1 f2 n2 : Nat) (h : (n1 ≤ 1 ∧ f2 = 8 ∧ n2 = 1) ∨ (2 ≤ n1 ∧ f1 = f2 ∧ n1 = n2)) :
    ((rowA k f1 n1 l).2 ≤ 1 ∧ rowA k f2 n2 l = (8, 1)) ∨ (2 ≤ (rowA k f1 n1 l).2 ∧ rowA k f1 n1 l = rowA k f2 n2 l) := by
  induction l generalizing k f1 n1 f2 n2 with
  | nil =>
    rcases h with ⟨h1, rfl, rfl⟩ | ⟨h1, rfl, rfl⟩
    · exact Or.inl ⟨h1, rfl⟩
    · exact Or.inr ⟨h1, rfl⟩
  | cons x r ih =>
    rw [rowA, rowA]
    rcases h with ⟨h1, rfl, rfl⟩ | ⟨h1, rfl, rfl⟩
    · by_cases hz : 1 < zrun (x :: r)
      · rw [if_pos hz, if_pos (by omega)]
        exact ih _ _ _ _ _ (Or.inr ⟨by omega, rfl, rfl⟩)
      · rw [if_neg hz]
        split
        · exact ih _ _ _ _ _ (Or.inl ⟨by omega, rfl, rfl⟩)
        · exact ih _ _ _ _ _ (Or.inl ⟨h1, rfl, rfl⟩)
    · split
      · exact ih _ _ _ _ _ (Or.inr ⟨by omega, rfl, rfl⟩)
      · exact ih _ _ _ _ _ (Or.inr ⟨h1, rfl, rfl⟩)
def rowR (l : List Nat) : Nat × Nat := if (rowA 0 0 0 l).2 < 2 then (8, 0) else rowA 0 0 0 l
theorem rowR_is (l : List Nat) : (rowR l = (8, 0) ∧ rowS l = (8, 1)) ∨ (2 ≤ (rowR l).2 ∧ rowR l = rowS l) := by
  unfold rowR rowS
  rcases rowA_two l 0 0 0 8 1 (Or.inl ⟨by omega, rfl, rfl⟩) with ⟨h1, h2⟩ | ⟨h1, h2⟩
  · rw [if_pos (by omega)]
    exact Or.inl ⟨rfl, h2⟩
  · rw [if_neg (by omega)]
    exact Or.inr ⟨h1, h2⟩
theorem joinH_snoc (xs : List Nat) (n : Nat) : joinH (xs ++ [n]) = if xs = [] then hxT n else joinH xs ++ 58 :: hxT n := by
  induction xs with
  | nil => rfl
  | cons x r ih =>
    rw [if_neg (by simp)]
    cases r with
    | nil => rfl
    | cons y r =>
      rw [if_neg (by simp)] at ih
      show hxT x ++ 58 :: joinH (y :: r ++ [n]) = (hxT x ++ 58 :: joinH (y :: r)) ++ 58 :: hxT n
      rw [ih]
      simp
/-- What is printed up to k. -/
def uptoP (l : List Nat) (f m k : Nat) : List UInt8 := if k ≤ f then joinH (l.take k) else joinH (l.take f) ++ [58, 58] ++ joinH ((l.take k).drop (f + m))
theorem uptoP_end (l : List Nat) (h : l.length = 8) : uptoP l (rowR l).1 (rowR l).2 8 = print6 l := by
  have hs := rowS_is l h
  unfold uptoP print6
  rcases rowR_is l with ⟨h1, h2⟩ | ⟨h1, h2⟩
  · rw [h1, h2, if_pos (Nat.le_refl 8), if_pos rfl, List.take_of_length_le (by omega)]
  · rw [h2] at h1 ⊢
    by_cases h8 : (rowS l).1 = 8
    · rw [if_pos h8, h8, if_pos (Nat.le_refl 8), List.take_of_length_le (by omega)]
    · rcases hs with hs | hs
      · exact absurd hs h8
      · rw [if_neg h8, if_neg (by omega), List.take_of_length_le (l := l) (i := 8) (by omega)]
theorem take_succ_at (l : List Nat) (k : Nat) (h : k < l.length) : l.take (k + 1) = l.take k ++ [l[k]] := by
  rw [List.take_add_one, List.getElem?_eq_getElem h]
  rfl
theorem uptoP_step (l : List Nat) (f m k : Nat) (h : k < l.length) (hfm : (f = l.length ∧ m = 0) ∨ 1 ≤ m) (hle : f + m ≤ l.length) :
    (k < f → uptoP l f m (k + 1) = (if 0 < k then uptoP l f m k ++ [58] else uptoP l f m k) ++ hxT l[k]) ∧
    (k = f → uptoP l f m (k + 1) = uptoP l f m k ++ [58, 58]) ∧
    (f < k → k < f + m → uptoP l f m (k + 1) = uptoP l f m k) ∧
    (f < k → k = f + m → uptoP l f m (k + 1) = uptoP l f m k ++ hxT l[k]) ∧
    (f + m < k → uptoP l f m (k + 1) = uptoP l f m k ++ [58] ++ hxT l[k]) := by
  unfold uptoP
  refine ⟨fun h1 => ?_, fun h1 => ?_, fun h1 h2 => ?_, fun h1 h2 => ?_, fun h1 => ?_⟩
  · rw [if_pos (show k + 1 ≤ f by omega), if_pos (show k ≤ f by omega), take_succ_at l k h, joinH_snoc]
    by_cases hk : 0 < k
    · rw [if_neg (c := List.take k l = []), if_pos hk]
      · simp
      · intro e
        have := congrArg List.length e
        rw [List.length_take, List.length_nil] at this
        omega
    · have : k = 0 := by omega
      subst this
      rfl
  · subst h1
    rw [if_neg (by omega), if_pos (Nat.le_refl _), List.drop_eq_nil_of_le (by simp; omega)]
    simp [joinH, joinC]
  · rw [if_neg (by omega), if_neg (by omega), List.drop_eq_nil_of_le (by simp; omega), List.drop_eq_nil_of_le (by simp; omega)]
  · rw [if_neg (by omega), if_neg (by omega), take_succ_at l k h, List.drop_append_of_le_length (by simp; omega), joinH_snoc, List.drop_eq_nil_of_le (as := l.take k) (by simp; omega), if_pos rfl]
    simp [joinH, joinC]
  · rw [if_neg (by omega), if_neg (by omega), take_succ_at l k h, List.drop_append_of_le_length (by simp; omega), joinH_snoc, if_neg]
    · simp
    · intro e
      have := congrArg List.length e
      rw [List.length_drop, List.length_take, List.length_nil] at this
      omega
end Go.Proofs.YtdamgdmipfoalaaDoor.L
