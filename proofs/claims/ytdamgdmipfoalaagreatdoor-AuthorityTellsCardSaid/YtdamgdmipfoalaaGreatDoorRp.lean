/- Layer 11, plain: a request's line, authorities, forms. No function of the program. -/
import Derived.Test.YtdamgdmipfoalaaGreatDoorFp
import Derived.Lib.Split
set_option linter.unusedVariables false
set_option linter.unusedSimpArgs false
namespace Go.Proofs.YtdamgdmipfoalaaGreatDoor.L
open Go.RowKit

/-- Cut at all bytes c. -/
def splitC (c : UInt8) : List UInt8 → List (List UInt8)
  | [] => [[]]
  | x :: r => if x = c then [] :: splitC c r else match splitC c r with
    | y :: ys => (x :: y) :: ys
    | [] => [[x]]
theorem splitC_ne (c : UInt8) (l : List UInt8) : splitC c l ≠ [] := by
  cases l with
  | nil => simp [splitC]
  | cons x r =>
    rw [splitC]
    split
    · simp
    · split <;> simp
theorem splitC_no (c : UInt8) (l : List UInt8) (h : c ∉ l) : splitC c l = [l] := by
  induction l with
  | nil => rfl
  | cons x r ih =>
    rw [List.mem_cons, not_or] at h
    rw [splitC, if_neg (fun e => h.1 e.symm), ih h.2]
theorem splitC_at (c : UInt8) (a b : List UInt8) (h : c ∉ a) : splitC c (a ++ c :: b) = a :: splitC c b := by
  induction a with
  | nil => rw [List.nil_append, splitC, if_pos rfl]
  | cons x r ih =>
    rw [List.mem_cons, not_or] at h
    rw [List.cons_append, splitC, if_neg (fun e => h.1 e.symm), ih h.2]
theorem splitC_len (c : UInt8) (l : List UInt8) : (splitC c l).length = l.count c + 1 := by
  induction l with
  | nil => rfl
  | cons x r ih =>
    rw [splitC]
    split
    · rename_i h
      rw [h, List.count_cons_self, List.length_cons, ih]
    · rename_i h
      rw [List.count_cons_of_ne h]
      split
      · rename_i y ys hy
        rw [hy] at ih
        exact ih
      · rename_i hy
        exact absurd hy (splitC_ne c r)
theorem splitC_mem (c : UInt8) (l : List UInt8) : ∀ x ∈ splitC c l, c ∉ x := by
  induction l with
  | nil => simp [splitC]
  | cons x r ih =>
    rw [splitC]
    split
    · intro y hy
      rcases List.mem_cons.1 hy with rfl | hy
      · simp
      · exact ih y hy
    · rename_i hx
      split
      · rename_i y ys hy
        rw [hy] at ih
        intro z hz
        rcases List.mem_cons.1 hz with rfl | hz
        · rw [List.mem_cons, not_or]
          exact ⟨fun e => hx e.symm, ih y (by simp)⟩
        · exact ih z (by simp [hz])
      · rename_i hy
        exact absurd hy (splitC_ne c r)
/-- Joined by c. -/
def joinC (c : UInt8) : List (List UInt8) → List UInt8
  | [] => []
  | [x] => x
  | x :: y :: r => x ++ c :: joinC c (y :: r)
theorem joinC_splitC (c : UInt8) (l : List UInt8) : joinC c (splitC c l) = l := by
  induction l with
  | nil => rfl
  | cons x r ih =>
    rw [splitC]
    split
    · rename_i hx
      cases h : splitC c r with
      | nil => exact absurd h (splitC_ne c r)
      | cons y ys =>
        rw [h] at ih
        rw [joinC, ih, hx]
        rfl
    · split
      · rename_i y ys hy
        rw [hy] at ih
        cases ys with
        | nil =>
          simp only [joinC] at ih ⊢
          rw [ih]
        | cons z zs =>
          simp only [joinC] at ih ⊢
          rw [← ih]
          rfl
      · rename_i hy
        exact absurd hy (splitC_ne c r)
/-- The library's split at one byte. -/
theorem split_fuel (c : UInt8) (k : Nat) (l : List UInt8) (h : l.count c ≤ k) : Lib.splitK [c] 0 k l = splitC c l := by
  induction k generalizing l with
  | zero =>
    have h0 : c ∉ l := fun hm => by have := List.count_pos_iff.2 hm; omega
    rw [splitC_no c l h0]
    rfl
  | succ k ih =>
    unfold Lib.splitK
    rcases cutC_cases c l with ⟨h1, -⟩ | ⟨a, b, rfl, h2, -⟩
    · rw [index_one_no l c h1, if_pos (by decide), splitC_no c l h1]
    · rw [index_one_at a b c h2, splitC_at c a b h2, if_neg (by rw [beq_iff_eq]; omega)]
      have hb : b.count c ≤ k := by
        rw [List.count_append, List.count_cons_self] at h
        omega
      have e1 : (a ++ c :: b).drop (((a.length : Int)).toNat + [c].length) = b := by simp
      have e2 : (a ++ c :: b).take (((a.length : Int)).toNat + 0) = a := by simp
      rw [e1, e2, ih b hb]
theorem count_one (l : List UInt8) (c : UInt8) (k : Nat) (h : l.length < k) : Lib.countFrom [c] k l = l.count c := by
  induction k generalizing l with
  | zero => omega
  | succ k ih =>
    unfold Lib.countFrom
    rcases cutC_cases c l with ⟨h1, -⟩ | ⟨a, b, rfl, h2, -⟩
    · rw [index_one_no l c h1, if_pos (by decide), List.count_eq_zero.2 h1]
    · rw [index_one_at a b c h2, if_neg (by rw [beq_iff_eq]; omega)]
      have e1 : (a ++ c :: b).drop (((a.length : Int)).toNat + [c].length) = b := by simp
      rw [e1, ih b (by simp at h; omega), List.count_append, List.count_cons_self, List.count_eq_zero.2 h2]
      omega
theorem split_one (l : List UInt8) (c : UInt8) : Lib.split l [c] = splitC c l :=
  split_fuel c _ l (by
    unfold Lib.count
    rw [count_one l c _ (by omega)]
    exact Nat.le_refl _)

def olderL : List UInt8 := [72, 84, 84, 80, 47, 49, 46, 48]
def newerL : List UInt8 := [72, 84, 84, 80, 47, 49, 46, 49]
def httpL : List UInt8 := [104, 116, 116, 112, 58, 47, 47]
def connectL : List UInt8 := [67, 79, 78, 78, 69, 67, 84]
/-- What is wrong of a method and a target. -/
def wrongS (m t : List UInt8) : Int := if allS tokR m = false ∨ 32 < m.length then 11 else if allS visR t = false then 3 else if 8000 < t.length then 6 else 0
structure Rq where
  m : List UInt8
  t : List UInt8
  n : Int
deriving DecidableEq
def Rq.none : Rq := ⟨[], [], 0⟩
/-- The request of three parts. -/
def threeS (m t v : List UInt8) : Rq × Int := if wrongS m t ≠ 0 then (Rq.none, wrongS m t) else if v = olderL then (⟨m, t, 0⟩, 0) else if v = newerL then (⟨m, t, 1⟩, 0) else (Rq.none, 5)
def parseRq (l : List UInt8) : Rq × Int := match splitC 32 l with
  | [m, t, v] => threeS m t v
  | _ => (Rq.none, 3)
def lineRq (r : Rq) : List UInt8 := r.m ++ 32 :: (r.t ++ 32 :: (if r.n = 0 then olderL else newerL))
def okRq (r : Rq) : Prop := (r.n = 0 ∨ r.n = 1) ∧ wrongS r.m r.t = 0
instance (r : Rq) : Decidable (okRq r) := by unfold okRq; infer_instance
def printRq (r : Rq) : List UInt8 × Bool := if okRq r then (lineRq r, true) else ([], false)
theorem wrong_parts {m t : List UInt8} (h : wrongS m t = 0) : allS tokR m = true ∧ m.length ≤ 32 ∧ allS visR t = true ∧ t.length ≤ 8000 := by
  unfold wrongS at h
  split at h
  · cases h
  · rename_i h1
    split at h
    · cases h
    · rename_i h2
      split at h
      · cases h
      · rename_i h3
        rw [not_or] at h1
        exact ⟨by simpa using h1.1, by omega, by simpa using h2, by omega⟩
theorem vis_no32 (l : List UInt8) (h : allS visR l = true) : (32 : UInt8) ∉ l := by
  intro hm
  unfold allS at h
  rw [Bool.and_eq_true, List.all_eq_true] at h
  have := h.1 32 hm
  revert this
  decide
theorem tok_no32 (l : List UInt8) (h : allS tokR l = true) : (32 : UInt8) ∉ l := vis_no32 l (tok_vis l h)
theorem split3 (m t v : List UInt8) (hm : (32 : UInt8) ∉ m) (ht : (32 : UInt8) ∉ t) (hv : (32 : UInt8) ∉ v) : splitC 32 (m ++ 32 :: (t ++ 32 :: v)) = [m, t, v] := by
  rw [splitC_at 32 m _ hm, splitC_at 32 t _ ht, splitC_no 32 v hv]
theorem ver_no32 (n : Int) : (32 : UInt8) ∉ (if n = 0 then olderL else newerL) := by
  split <;> decide
theorem three_ver (m t : List UInt8) (n : Int) (hw : wrongS m t = 0) (hn : n = 0 ∨ n = 1) : threeS m t (if n = 0 then olderL else newerL) = (⟨m, t, n⟩, 0) := by
  unfold threeS
  rw [if_neg (by rw [hw]; decide)]
  rcases hn with rfl | rfl
  · rw [if_pos rfl, if_pos rfl]
  · rw [if_neg (by decide : ¬ (1 : Int) = 0), if_neg (by decide), if_pos rfl]
theorem parse_lineRq (r : Rq) (h : okRq r) : parseRq (lineRq r) = (r, 0) := by
  obtain ⟨hn, hw⟩ := h
  obtain ⟨h1, -, h3, -⟩ := wrong_parts hw
  unfold parseRq lineRq
  rw [split3 _ _ _ (tok_no32 _ h1) (vis_no32 _ h3) (ver_no32 _)]
  exact three_ver r.m r.t r.n hw hn
theorem three_ok {m t v : List UInt8} {r : Rq} (h : threeS m t v = (r, 0)) : okRq r ∧ r.m = m ∧ r.t = t ∧ v = if r.n = 0 then olderL else newerL := by
  unfold threeS at h
  by_cases hw : wrongS m t = 0
  · rw [if_neg (by rw [hw]; decide)] at h
    by_cases h1 : v = olderL
    · rw [if_pos h1] at h
      obtain ⟨rfl, -⟩ := Prod.mk.inj h
      exact ⟨⟨.inl rfl, hw⟩, rfl, rfl, by rw [if_pos rfl]; exact h1⟩
    · rw [if_neg h1] at h
      by_cases h2 : v = newerL
      · rw [if_pos h2] at h
        obtain ⟨rfl, -⟩ := Prod.mk.inj h
        exact ⟨⟨.inr rfl, hw⟩, rfl, rfl, by rw [if_neg (show ¬ (1 : Int) = 0 by decide)]; exact h2⟩
      · rw [if_neg h2] at h
        cases h
  · rw [if_pos hw] at h
    exact absurd (Prod.mk.inj h).2 hw
theorem parseRq_ok {l : List UInt8} {r : Rq} (h : parseRq l = (r, 0)) : okRq r ∧ lineRq r = l := by
  unfold parseRq at h
  split at h
  · rename_i m t v hs
    obtain ⟨h1, rfl, rfl, h4⟩ := three_ok h
    refine ⟨h1, ?_⟩
    have := joinC_splitC 32 l
    rw [hs] at this
    unfold lineRq
    rw [← h4, ← this]
    rfl
  · cases h
theorem parseRq_err (l : List UInt8) (h : (parseRq l).2 ≠ 0) : (parseRq l).1 = Rq.none := by
  unfold parseRq at h ⊢
  split
  · rename_i m t v hs
    rw [hs] at h
    simp only at h
    unfold threeS at h ⊢
    split
    · rfl
    · rename_i h1
      rw [if_neg h1] at h
      split
      · rename_i h2
        rw [if_pos h2] at h
        exact absurd rfl h
      · rename_i h2
        rw [if_neg h2] at h
        split
        · rename_i h3
          rw [if_pos h3] at h
          exact absurd rfl h
        · rfl
  · rfl
theorem printRq_alt (r : Rq) : printRq r = if parseRq (lineRq r) = (r, 0) then (lineRq r, true) else ([], false) := by
  unfold printRq
  by_cases h : okRq r
  · rw [if_pos h, if_pos (parse_lineRq r h)]
  · rw [if_neg h, if_neg (fun e => h (parseRq_ok e).1)]

/-- Up to the first of / ? #. -/
def isEnd (c : UInt8) : Bool := c == 47 || c == 63 || c == 35
def uptoEnd (l : List UInt8) : List UInt8 := l.takeWhile (fun c => !isEnd c)
/-- What stands behind a scheme. -/
def authS (l : List UInt8) : List UInt8 × Bool := if 7 ≤ l.length ∧ lowS (l.take 7) = httpL then (uptoEnd (l.drop 7), true) else ([], false)
/-- The form of a request's target. -/
def formS (m t : List UInt8) : Int := if m = connectL then 4 else if t = [42] then 3 else if t[0]? = some 47 then 1 else if (authS t).2 = true then 2 else 0
theorem upto_at (a b : List UInt8) (ha : a.all (fun c => !isEnd c) = true) (hb : ∀ c, b[0]? = some c → isEnd c = true) : uptoEnd (a ++ b) = a := by
  unfold uptoEnd
  rw [List.takeWhile_append_of_pos (by simpa using ha)]
  cases b with
  | nil => simp
  | cons c b =>
    rw [List.takeWhile_cons, if_neg (by rw [hb c rfl]; decide), List.append_nil]
theorem auth_at (p l : List UInt8) (hp : p.length = 7) (hl : lowS p = httpL) : authS (p ++ l) = (uptoEnd l, true) := by
  unfold authS
  rw [if_pos ⟨by simp; omega, by rw [List.take_left' hp]; exact hl⟩, List.drop_left' hp]
end Go.Proofs.YtdamgdmipfoalaaGreatDoor.L
