/- Layer 12, plain: a field's line, what is parsed and printed, what is found. No function of the program. -/
import Derived.Test.YtdamgdmipfoalaaGreatDoorAq
import Derived.Lib.CutLaws
set_option linter.unusedVariables false
set_option linter.unusedSimpArgs false
namespace Go.Proofs.YtdamgdmipfoalaaGreatDoor.L
open Go.RowKit

/-- Cut at the first byte c. -/
def cutC (c : UInt8) : List UInt8 → List UInt8 × List UInt8 × Bool
  | [] => ([], [], false)
  | x :: r => if x = c then ([], r, true) else (x :: (cutC c r).1, (cutC c r).2.1, (cutC c r).2.2)
theorem cutC_no (c : UInt8) (l : List UInt8) (h : c ∉ l) : cutC c l = (l, [], false) := by
  induction l with
  | nil => rfl
  | cons x r ih =>
    rw [List.mem_cons, not_or] at h
    rw [cutC, if_neg (fun e => h.1 e.symm), ih h.2]
theorem cutC_at (c : UInt8) (a b : List UInt8) (h : c ∉ a) : cutC c (a ++ c :: b) = (a, b, true) := by
  induction a with
  | nil => rw [List.nil_append, cutC, if_pos rfl]
  | cons x r ih =>
    rw [List.mem_cons, not_or] at h
    rw [List.cons_append, cutC, if_neg (fun e => h.1 e.symm), ih h.2]
theorem cutC_cases (c : UInt8) (l : List UInt8) : (c ∉ l ∧ cutC c l = (l, [], false)) ∨ ∃ a b, l = a ++ c :: b ∧ c ∉ a ∧ cutC c l = (a, b, true) := by
  induction l with
  | nil => exact .inl ⟨by simp, rfl⟩
  | cons x r ih =>
    by_cases hx : x = c
    · subst hx
      exact .inr ⟨[], r, rfl, by simp, by rw [cutC, if_pos rfl]⟩
    · rcases ih with ⟨h1, h2⟩ | ⟨a, b, h1, h2, h3⟩
      · refine .inl ⟨?_, by rw [cutC, if_neg hx, h2]⟩
        rw [List.mem_cons, not_or]
        exact ⟨fun e => hx e.symm, h1⟩
      · refine .inr ⟨x :: a, b, by rw [h1]; rfl, ?_, by rw [cutC, if_neg hx, h3]⟩
        rw [List.mem_cons, not_or]
        exact ⟨fun e => hx e.symm, h2⟩
theorem occ_one (l : List UInt8) (c : UInt8) (i : Nat) : Lib.occAt l [c] i = decide (l[i]? = some c) := by
  unfold Lib.occAt
  cases h : l.drop i with
  | nil =>
    have hl : l.length ≤ i := by simpa using h
    rw [List.getElem?_eq_none hl]
    simp
  | cons y r =>
    have : l[i]? = some y := by
      have := congrArg (·[0]?) h
      simpa using this
    rw [this]
    simp [List.isPrefixOf, eq_comm]
    by_cases e : c = y
    · simp [e]
    · simp [e, fun h : y = c => e h.symm]
theorem index_one_no (l : List UInt8) (c : UInt8) (h : c ∉ l) : Lib.index l [c] = -1 :=
  Lib.index_none fun j _ => by
    rw [occ_one, decide_eq_false_iff_not]
    exact fun e => h (List.mem_of_getElem? e)
theorem index_one_at (a b : List UInt8) (c : UInt8) (h : c ∉ a) : Lib.index (a ++ c :: b) [c] = a.length := by
  refine Lib.index_first (i := a.length) (by simp) (by rw [occ_one]; simp) (fun j hj => ?_)
  rw [occ_one, decide_eq_false_iff_not, List.getElem?_append_left hj]
  exact fun e => h (List.mem_of_getElem? e)
/-- The library's cut at one byte. -/
theorem cut_one (l : List UInt8) (c : UInt8) : Lib.cut l [c] = cutC c l := by
  unfold Lib.cut
  rcases cutC_cases c l with ⟨h1, h2⟩ | ⟨a, b, rfl, h2, h3⟩
  · rw [h2, index_one_no l c h1, if_neg (by decide)]
  · rw [h3, index_one_at a b c h2, if_pos (by omega)]
    simp

/-- Which characters may not stand in a text. -/
def strR (r : Nat) : Bool := (decide (r < 32) && !decide (r = 9)) || decide (r = 127)
theorem strR_high (r : Nat) (h : 128 ≤ r) : strR r = false := by
  unfold strR
  rw [show decide (r < 32) = false by simpa using by omega, show decide (r = 127) = false by simpa using by omega]
  rfl
def anyS (p : Nat → Bool) (l : List UInt8) : Bool := l.any (fun b => p b.toNat)

/-- The field of a line, and what is wrong. -/
def parseF (l : List UInt8) : List UInt8 × List UInt8 × Int :=
  if (cutC 58 l).2.2 = true ∧ allS tokR (cutC 58 l).1 = true then
    (if anyS strR (cutC 58 l).2.1 = true then ([], [], 3) else (lowS (cutC 58 l).1, trimS (cutC 58 l).2.1, 0))
  else ([], [], 9)
/-- May a field be printed? -/
def okF (n t : List UInt8) : Bool := allS tokR n && decide (lowS n = n) && !anyS strR t && decide (trimS t = t)
def lineF (n t : List UInt8) : List UInt8 := n ++ [58, 32] ++ t
def printF (n t : List UInt8) : List UInt8 × Bool := if okF n t = true then (lineF n t, true) else ([], false)

theorem tok_byte_no58 : ∀ c : UInt8, tokR c.toNat = true → c ≠ 58 := by
  intro c h e
  subst e
  revert h
  decide +kernel
theorem tok_no58 (l : List UInt8) (h : allS tokR l = true) : (58 : UInt8) ∉ l := by
  intro hm
  unfold allS at h
  rw [Bool.and_eq_true, List.all_eq_true] at h
  exact tok_byte_no58 58 (h.1 58 hm) rfl
theorem parse_at (n t : List UInt8) (h : allS tokR n = true) : parseF (n ++ 58 :: t) = if anyS strR t = true then ([], [], 3) else (lowS n, trimS t, 0) := by
  unfold parseF
  rw [cutC_at 58 n t (tok_no58 n h), if_pos ⟨rfl, h⟩]
theorem trim_blank (t : List UInt8) : trimS (32 :: t) = trimS t := by
  have := trim_wrap [32] t [] (by decide) rfl
  simpa using this
theorem any_blank (t : List UInt8) : anyS strR (32 :: t) = anyS strR t := by
  unfold anyS
  rw [List.any_cons]
  rfl
/-- A line of a field that may be printed is that field's. -/
theorem parse_line (n t : List UInt8) (h : okF n t = true) : parseF (lineF n t) = (n, t, 0) := by
  unfold okF at h
  simp only [Bool.and_eq_true, decide_eq_true_eq, Bool.not_eq_true'] at h
  obtain ⟨⟨⟨h1, h2⟩, h3⟩, h4⟩ := h
  unfold lineF
  rw [show n ++ [58, 32] ++ t = n ++ 58 :: (32 :: t) by simp, parse_at n _ h1, any_blank, h3, trim_blank, h2, h4]
  rfl
theorem any_sub {p : Nat → Bool} {a b l : List UInt8} (h : l = a ++ b) (hl : anyS p l = false) : anyS p a = false ∧ anyS p b = false := by
  subst h
  unfold anyS at hl ⊢
  rw [List.any_append, Bool.or_eq_false_iff] at hl
  exact hl
theorem any_trim {t : List UInt8} {p : Nat → Bool} (h : anyS p t = false) : anyS p (trimS t) = false := by
  obtain ⟨a, b, he, -, -⟩ := trim_parts t
  exact (any_sub rfl (any_sub he h).1).2
theorem tok_low_byte : ∀ c : UInt8, tokR c.toNat = true → tokR (lowB c).toNat = true := by
  intro c
  have key : ∀ n : Fin 256, tokR (UInt8.ofNat n.val).toNat = true → tokR (lowB (UInt8.ofNat n.val)).toNat = true := by decide +kernel
  have := key ⟨c.toNat, c.toNat_lt⟩
  simpa using this
theorem tok_low (l : List UInt8) (h : allS tokR l = true) : allS tokR (lowS l) = true := by
  unfold allS lowS at *
  rw [Bool.and_eq_true] at h ⊢
  refine ⟨?_, by simpa using h.2⟩
  rw [List.all_eq_true] at h ⊢
  intro x hx
  obtain ⟨y, hy, rfl⟩ := List.mem_map.1 hx
  exact tok_low_byte y (h.1 y hy)
/-- What is parsed can be printed. -/
theorem parse_ok (l n t : List UInt8) (h : parseF l = (n, t, 0)) : okF n t = true := by
  unfold parseF at h
  split at h
  · rename_i hc
    split at h
    · cases h
    · rename_i hs
      obtain ⟨rfl, h2⟩ := Prod.mk.inj h
      obtain ⟨rfl, -⟩ := Prod.mk.inj h2
      unfold okF
      rw [tok_low _ hc.2, lowS_lowS, trim_trim, any_trim (by simpa using hs)]
      simp
  · cases h
theorem parse_err (l : List UInt8) (h : (parseF l).2.2 ≠ 0) : (parseF l).1 = [] ∧ (parseF l).2.1 = [] := by
  unfold parseF at h ⊢
  split
  · rename_i hc
    rw [if_pos hc] at h
    split
    · exact ⟨rfl, rfl⟩
    · rename_i hs
      rw [if_neg hs] at h
      exact absurd rfl h
  · exact ⟨rfl, rfl⟩
/-- The other way to print: a line that is parsed as the field. -/
theorem print_alt (n t : List UInt8) : printF n t = if parseF (lineF n t) = (n, t, 0) then (lineF n t, true) else ([], false) := by
  unfold printF
  by_cases h : okF n t = true
  · rw [if_pos h, if_pos (parse_line n t h)]
  · rw [if_neg h, if_neg (fun e => h (parse_ok _ _ _ e))]
/-- Blanks around a text do not matter, nor letters of names. -/
theorem parse_blanks (n t b : List UInt8) (hn : (58 : UInt8) ∉ n) (hb : b.all isBl = true) : parseF (lowS n ++ 58 :: (b ++ t ++ b)) = parseF (n ++ 58 :: t) := by
  have hl : (58 : UInt8) ∉ lowS n := by
    intro hm
    obtain ⟨c, hc, he⟩ := List.mem_map.1 hm
    have := congrArg UInt8.toNat he
    rw [lowB_nat] at this
    have h58 : (58 : UInt8).toNat = 58 := rfl
    split at this
    · omega
    · exact hn (by rw [← UInt8.toNat_inj.1 this]; exact hc)
  have hany : anyS strR (b ++ t ++ b) = anyS strR t := by
    have hbn : anyS strR b = false := by
      unfold anyS
      rw [List.any_eq_false]
      intro x hx
      rw [List.all_eq_true] at hb
      have := hb x hx
      rw [isBl_iff] at this
      simp at this
      rcases this with rfl | rfl <;> decide
    unfold anyS at hbn ⊢
    rw [List.any_append, List.any_append, hbn]
    simp
  have htok : allS tokR (lowS n) = allS tokR n := by
    cases h : allS tokR n with
    | true => exact tok_low n h
    | false =>
      unfold allS lowS at *
      rw [Bool.and_eq_false_iff] at h ⊢
      rcases h with h | h
      · left
        rw [List.all_eq_false] at h ⊢
        obtain ⟨x, hx, hp⟩ := h
        refine ⟨lowB x, List.mem_map_of_mem hx, ?_⟩
        have key : ∀ n : Fin 256, tokR (lowB (UInt8.ofNat n.val)).toNat = true → tokR (UInt8.ofNat n.val).toNat = true := by decide +kernel
        have := key ⟨x.toNat, x.toNat_lt⟩
        simp only [UInt8.ofNat_toNat] at this
        exact fun e => hp (this e)
      · right
        simpa using h
  unfold parseF
  rw [cutC_at 58 _ _ hl, cutC_at 58 _ _ hn]
  simp only
  rw [htok, hany, trim_wrap b t b hb hb, lowS_lowS]

/-- What is found of a name: the first one's text, and how many. -/
def findF (nm : List UInt8) : List (List UInt8 × List UInt8) → List UInt8 × Nat
  | [] => ([], 0)
  | x :: r => if x.1 = nm then (x.2, (findF nm r).2 + 1) else findF nm r
theorem findF_snoc (nm : List UInt8) (l : List (List UInt8 × List UInt8)) (x : List UInt8 × List UInt8) :
    findF nm (l ++ [x]) = if x.1 = nm then (if (findF nm l).2 = 0 then x.2 else (findF nm l).1, (findF nm l).2 + 1) else findF nm l := by
  induction l with
  | nil =>
    by_cases h : x.1 = nm
    · simp [findF, h]
    · simp [findF, h]
  | cons y l ih =>
    rw [List.cons_append, findF, findF, ih]
    by_cases hy : y.1 = nm
    · rw [if_pos hy, if_pos hy]
      by_cases h : x.1 = nm
      · rw [if_pos h, if_pos h]
        simp
      · rw [if_neg h, if_neg h]
    · rw [if_neg hy, if_neg hy]
theorem findF_zero (nm : List UInt8) (l : List (List UInt8 × List UInt8)) (h : (findF nm l).2 = 0) : (findF nm l).1 = [] := by
  induction l with
  | nil => rfl
  | cons y l ih =>
    rw [findF] at h ⊢
    split
    · rename_i hy
      rw [if_pos hy] at h
      simp at h
    · rename_i hy
      rw [if_neg hy] at h
      exact ih h
theorem findF_len (nm : List UInt8) (l : List (List UInt8 × List UInt8)) : (findF nm l).2 ≤ l.length := by
  induction l with
  | nil => exact Nat.le_refl _
  | cons y l ih =>
    rw [findF]
    split
    · simp; omega
    · simp; omega
end Go.Proofs.YtdamgdmipfoalaaGreatDoor.L
