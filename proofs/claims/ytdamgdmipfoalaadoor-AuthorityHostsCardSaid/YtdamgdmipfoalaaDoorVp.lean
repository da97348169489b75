/- Layer 13, plain: texts of addresses, and that an address is read as it was printed. No function of the program. -/
import Derived.Test.YtdamgdmipfoalaaDoorRp
import Derived.Lib.ItoaLen
set_option linter.unusedVariables false
set_option linter.unusedSimpArgs false
namespace Go.Proofs.YtdamgdmipfoalaaDoor.L
open Go.RowKit

/-- One number of a dotted text. -/
def octS (l : List UInt8) : Option UInt8 := if (numS l 255).2 = true then some (UInt8.ofNat (numS l 255).1.toNat) else none
def octsA (acc : List UInt8) : List (List UInt8) → Option (List UInt8)
  | [] => some acc
  | x :: r => match octS x with
    | some b => octsA (acc ++ [b]) r
    | none => none
/-- Four numbers. -/
def dotS (l : List UInt8) : Option (List UInt8) := if (splitC 46 l).length = 4 then octsA [] (splitC 46 l) else none
/-- One group: two bytes, or four. -/
def grpS (may : Bool) (x : List UInt8) : Option (List UInt8) :=
  if (hexS x).2 = true then some [UInt8.ofNat ((hexS x).1.toNat / 256), UInt8.ofNat ((hexS x).1.toNat % 256)] else if may = true then dotS x else none
def grpsA (may : Bool) (acc : List UInt8) : List (List UInt8) → Option (List UInt8)
  | [] => some acc
  | x :: r => match grpS (may && r.isEmpty) x with
    | some b => grpsA may (acc ++ b) r
    | none => none
/-- A row of groups. -/
def readS (may : Bool) (l : List UInt8) : Option (List UInt8) := if l = [] then some [] else grpsA may [] (splitC 58 l)
/-- What stands ahead of, and behind the first two colons. -/
def gapS : List UInt8 → Option (List UInt8 × List UInt8)
  | [] => none
  | c :: r => if c = 58 ∧ r[0]? = some 58 then some ([], r.drop 1) else match gapS r with
    | some (x, y) => some (c :: x, y)
    | none => none
def zerosL (n : Nat) : List UInt8 := List.replicate n 0
def aheadL : List UInt8 := [0, 0, 0, 0, 0, 0, 0, 0, 0, 0, 255, 255]
/-- The address of a text. -/
def parseA (l : List UInt8) : Option (List UInt8) :=
  match dotS l with
  | some d => some (aheadL ++ d)
  | none => match gapS l with
    | none => match readS true l with
      | some b => if b.length = 16 then some b else none
      | none => none
    | some (x, y) => match readS false x, readS true y with
      | some a, some b => if a.length + b.length ≤ 14 then some (a ++ zerosL (16 - a.length - b.length) ++ b) else none
      | _, _ => none

/-! ### printed -/
def hxC (d : Nat) : UInt8 := if d < 10 then UInt8.ofNat (48 + d) else UInt8.ofNat (87 + d)
def hxT (n : Nat) : List UInt8 := if h : n < 16 then [hxC n] else hxT (n / 16) ++ [hxC (n % 16)]
termination_by n
decreasing_by omega
/-- The groups of an address. -/
def pairsN : List UInt8 → List Nat
  | a :: b :: r => (256 * a.toNat + b.toNat) :: pairsN r
  | _ => []
def bytesN : List Nat → List UInt8
  | [] => []
  | n :: r => UInt8.ofNat (n / 256) :: UInt8.ofNat (n % 256) :: bytesN r
/-- How many zeros stand ahead. -/
def zrun : List Nat → Nat
  | 0 :: r => zrun r + 1
  | _ => 0
/-- The longest row of zeros from k on: (from, n), of more than n. -/
def rowA (k from_ n : Nat) : List Nat → Nat × Nat
  | [] => (from_, n)
  | x :: r => if n < zrun (x :: r) then rowA (k + 1) k (zrun (x :: r)) r else rowA (k + 1) from_ n r
def rowS (l : List Nat) : Nat × Nat := rowA 0 8 1 l
def joinH (l : List Nat) : List UInt8 := joinC 58 (l.map hxT)
def fourB (a : List UInt8) : Bool := decide (a.take 12 = aheadL)
def print6 (l : List Nat) : List UInt8 := if (rowS l).1 = 8 then joinH l else joinH (l.take (rowS l).1) ++ [58, 58] ++ joinH (l.drop ((rowS l).1 + (rowS l).2))
def print4 (l : List UInt8) : List UInt8 := joinC 46 (l.map fun c => Lib.decDigits c.toNat)
def printA (a : List UInt8) : List UInt8 := if fourB a = true then print4 (a.drop 12) else print6 (pairsN a)

/-! ### a group is read as it was printed -/
theorem hxC_all : ∀ d : Fin 16, hexB (hxC d.1) = some d.1 ∧ hxC d.1 ≠ 58 ∧ hxC d.1 ≠ 46 ∧ visR (hxC d.1).toNat = true ∧ hxC d.1 ≠ 93 ∧ hxC d.1 ≠ 64 ∧ hxC d.1 ≠ 91 := by decide
theorem hxC_is (d : Nat) (h : d < 16) : hexB (hxC d) = some d ∧ hxC d ≠ 58 ∧ hxC d ≠ 46 ∧ visR (hxC d).toNat = true ∧ hxC d ≠ 93 ∧ hxC d ≠ 64 ∧ hxC d ≠ 91 := hxC_all ⟨d, h⟩
theorem hxT_from (n : Nat) : hexFrom 0 (hxT n) = some n := by
  induction n using Nat.strongRecOn with
  | ind n ih =>
    rw [hxT]
    split
    · rename_i h
      rw [hexFrom, (hxC_is n h).1]
      simp [hexFrom]
    · rename_i h
      rw [hexFrom_append, ih (n / 16) (by omega)]
      simp only [Option.bind_some, hexFrom, (hxC_is (n % 16) (by omega)).1]
      congr 1
      omega
theorem hxT_ne (n : Nat) : hxT n ≠ [] := by
  rw [hxT]
  split <;> simp
theorem hxT_len (n k : Nat) (h : n < 16 ^ (k + 1)) : (hxT n).length ≤ k + 1 := by
  induction k generalizing n with
  | zero =>
    rw [hxT, dif_pos (by omega)]
    simp
  | succ k ih =>
    rw [hxT]
    split
    · simp
    · have := ih (n / 16) (by rw [Nat.pow_succ] at h; omega)
      simp
      omega
theorem hxT_mem (n : Nat) : ∀ c ∈ hxT n, c ≠ 58 ∧ c ≠ 46 ∧ visR c.toNat = true ∧ c ≠ 93 ∧ c ≠ 64 ∧ c ≠ 91 := by
  induction n using Nat.strongRecOn with
  | ind n ih =>
    rw [hxT]
    split
    · rename_i h
      intro c hc
      rw [List.mem_singleton] at hc
      rw [hc]
      exact (hxC_is n h).2
    · rename_i h
      intro c hc
      rcases List.mem_append.1 hc with hc | hc
      · exact ih (n / 16) (by omega) c hc
      · rw [List.mem_singleton] at hc
        rw [hc]
        exact (hxC_is (n % 16) (by omega)).2
theorem hexS_hxT (n : Nat) (h : n < 65536) : hexS (hxT n) = ((n : Int), true) := by
  have hl := hxT_len n 3 (by omega)
  have h0 : (hxT n).length ≠ 0 := fun e => hxT_ne n (List.length_eq_zero_iff.1 e)
  unfold hexS
  rw [if_neg (by omega), hxT_from]
theorem grpS_hxT (may : Bool) (n : Nat) (h : n < 65536) : grpS may (hxT n) = some [UInt8.ofNat (n / 256), UInt8.ofNat (n % 256)] := by
  unfold grpS
  rw [hexS_hxT n h]
  rfl
theorem grpsA_hxT (may : Bool) (acc : List UInt8) (l : List Nat) (h : ∀ n ∈ l, n < 65536) : grpsA may acc (l.map hxT) = some (acc ++ bytesN l) := by
  induction l generalizing acc with
  | nil => simp [grpsA, bytesN]
  | cons n r ih =>
    rw [List.map_cons, grpsA, grpS_hxT _ n (h n (by simp))]
    simp only
    rw [ih _ (fun m hm => h m (by simp [hm])), bytesN]
    simp
theorem splitC_joinC (c : UInt8) (xs : List (List UInt8)) (h : ∀ x ∈ xs, c ∉ x) (hne : xs ≠ []) : splitC c (joinC c xs) = xs := by
  induction xs with
  | nil => exact absurd rfl hne
  | cons x r ih =>
    cases r with
    | nil => exact splitC_no c x (h x (by simp))
    | cons y r =>
      rw [joinC, splitC_at c x _ (h x (by simp)), ih (fun z hz => h z (by simp [hz])) (by simp)]
theorem joinH_ne (l : List Nat) (h : l ≠ []) : joinH l ≠ [] := by
  cases l with
  | nil => exact absurd rfl h
  | cons n r =>
    unfold joinH
    cases r with
    | nil => exact hxT_ne n
    | cons m r =>
      simp only [List.map_cons, joinC]
      intro e
      have := congrArg List.length e
      simp at this
theorem readS_joinH (may : Bool) (l : List Nat) (h : ∀ n ∈ l, n < 65536) : readS may (joinH l) = some (bytesN l) := by
  unfold readS
  by_cases hl : l = []
  · rw [hl]
    rfl
  · rw [if_neg (joinH_ne l hl)]
    unfold joinH
    rw [splitC_joinC 58 _ (fun x hx => by
      obtain ⟨n, -, rfl⟩ := List.mem_map.1 hx
      exact fun hm => (hxT_mem n 58 hm).1 rfl) (by simpa using hl)]
    rw [grpsA_hxT may [] l h, List.nil_append]
theorem bytesN_pairsN (a : List UInt8) (k : Nat) (h : a.length = 2 * k) : bytesN (pairsN a) = a ∧ (pairsN a).length = k ∧ ∀ n ∈ pairsN a, n < 65536 := by
  induction k generalizing a with
  | zero =>
    have : a = [] := List.length_eq_zero_iff.1 (by omega)
    rw [this]
    exact ⟨rfl, rfl, fun n hn => by cases hn⟩
  | succ k ih =>
    match a, h with
    | x :: y :: r, h =>
      obtain ⟨h1, h2, h3⟩ := ih r (by simp at h; omega)
      have hx := UInt8.toNat_lt x
      have hy := UInt8.toNat_lt y
      refine ⟨?_, by rw [pairsN, List.length_cons, h2], ?_⟩
      · rw [pairsN, bytesN, h1]
        have e1 : (256 * x.toNat + y.toNat) / 256 = x.toNat := by omega
        have e2 : (256 * x.toNat + y.toNat) % 256 = y.toNat := by omega
        rw [e1, e2, UInt8.ofNat_toNat, UInt8.ofNat_toNat]
      · intro n hn
        rcases List.mem_cons.1 hn with rfl | hn
        · omega
        · exact h3 n hn
    | [x], h => simp at h; omega
    | [], h => simp at h
theorem bytesN_len (l : List Nat) : (bytesN l).length = 2 * l.length := by
  induction l with
  | nil => rfl
  | cons n r ih =>
    rw [bytesN, List.length_cons, List.length_cons, List.length_cons, ih]
    omega
theorem bytesN_append (l r : List Nat) : bytesN (l ++ r) = bytesN l ++ bytesN r := by
  induction l with
  | nil => rfl
  | cons n l ih => rw [List.cons_append, bytesN, bytesN, ih]; rfl
theorem bytesN_zeros (k : Nat) : bytesN (List.replicate k 0) = zerosL (2 * k) := by
  induction k with
  | zero => rfl
  | succ k ih =>
    rw [List.replicate_succ, bytesN, ih]
    show _ = List.replicate (2 * k + 1 + 1) 0
    rw [List.replicate_succ, List.replicate_succ]
    rfl

/-! ### the longest row -/
theorem zrun_le (l : List Nat) : zrun l ≤ l.length ∧ l.take (zrun l) = List.replicate (zrun l) 0 := by
  induction l with
  | nil => exact ⟨Nat.le_refl _, rfl⟩
  | cons x r ih =>
    cases x with
    | zero =>
      rw [zrun]
      refine ⟨by simp; exact ih.1, ?_⟩
      rw [List.take_succ_cons, ih.2, List.replicate_succ]
    | succ x => exact ⟨Nat.zero_le _, rfl⟩
theorem rowA_is (L l : List Nat) (k f n : Nat) (hl : l = L.drop k) (hk : k ≤ L.length) (h : f = L.length ∨ (f + n ≤ L.length ∧ f < L.length ∧ 2 ≤ n ∧ (L.drop f).take n = List.replicate n 0)) (h1 : 1 ≤ n) :
    ∃ f' n', rowA k f n l = (f', n') ∧ (f' = L.length ∨ (f' + n' ≤ L.length ∧ f' < L.length ∧ 2 ≤ n' ∧ (L.drop f').take n' = List.replicate n' 0)) := by
  induction l generalizing k f n with
  | nil => exact ⟨f, n, rfl, h⟩
  | cons x r ih =>
    have hkl : k < L.length := by
      have := congrArg List.length hl
      rw [List.length_drop, List.length_cons] at this
      omega
    have hr : r = L.drop (k + 1) := by
      rw [List.drop_eq_getElem_cons hkl] at hl
      exact (List.cons.inj hl).2
    rw [rowA]
    split
    · rename_i hz
      obtain ⟨z1, z2⟩ := zrun_le (x :: r)
      refine ih (k + 1) k _ hr hkl (Or.inr ⟨?_, hkl, by omega, by rw [← hl]; exact z2⟩) (by omega)
      have := congrArg List.length hl
      rw [List.length_drop] at this
      omega
    · exact ih (k + 1) f n hr hkl h h1
theorem rowS_is (l : List Nat) (h : l.length = 8) : (rowS l).1 = 8 ∨ ((rowS l).1 + (rowS l).2 ≤ 8 ∧ (rowS l).1 < 8 ∧ 2 ≤ (rowS l).2 ∧ (l.drop (rowS l).1).take (rowS l).2 = List.replicate (rowS l).2 0) := by
  obtain ⟨f, n, hr, hh⟩ := rowA_is l l 0 8 1 rfl (Nat.zero_le _) (Or.inl h.symm) (Nat.le_refl _)
  unfold rowS
  rw [hr]
  rw [h] at hh
  exact hh

/-! ### no gap but the one -/
theorem gapS_no (l : List UInt8) (h : ∀ j : Nat, l[j]? = some 58 → l[j + 1]? ≠ some 58) : gapS l = none := by
  induction l with
  | nil => rfl
  | cons c r ih =>
    rw [gapS, if_neg, ih (fun j hj => h (j + 1) (by simpa using hj))]
    rintro ⟨rfl, h2⟩
    exact h 0 rfl (by simpa using h2)
theorem gapS_at (x y : List UInt8) (h : ∀ j : Nat, (x ++ [58])[j]? = some 58 → (x ++ [58])[j + 1]? ≠ some 58) : gapS (x ++ [58, 58] ++ y) = some (x, y) := by
  induction x with
  | nil => simp [gapS]
  | cons c r ih =>
    rw [List.cons_append, List.cons_append, gapS, if_neg, ih (fun j hj => by
      have := h (j + 1) (by simpa using hj)
      simpa using this)]
    rintro ⟨rfl, h2⟩
    refine h 0 rfl ?_
    cases r with
    | nil => simp
    | cons d r => simpa using h2
theorem joinH_lone (l : List Nat) : (joinH l)[0]? ≠ some 58 ∧ ∀ j : Nat, (joinH l ++ [58])[j]? = some 58 → (l ≠ [] → (joinH l ++ [58])[j + 1]? ≠ some 58) := by
  have key : ∀ (x : List UInt8) (t : List UInt8), x ≠ [] → (58 : UInt8) ∉ x → t[0]? ≠ some 58 → (∀ j : Nat, (t ++ [58])[j]? = some 58 → (t ++ [58])[j + 1]? ≠ some 58) →
      ∀ j : Nat, (x ++ 58 :: (t ++ [58]))[j]? = some 58 → t ≠ [] → (x ++ 58 :: (t ++ [58]))[j + 1]? ≠ some 58 := by
    intro x t hx hx2 ht0 ht j hj htn
    by_cases h1 : j < x.length
    · rw [List.getElem?_append_left h1] at hj
      exact absurd (List.mem_of_getElem? hj) hx2
    · rw [List.getElem?_append_right (by omega)]
      rw [List.getElem?_append_right (by omega)] at hj
      by_cases h2 : j = x.length
      · rw [show j + 1 - x.length = 0 + 1 by omega, List.getElem?_cons_succ]
        cases t with
        | nil => exact absurd rfl htn
        | cons c r => exact ht0
      · obtain ⟨m, hm⟩ : ∃ m, j - x.length = m + 1 := ⟨j - x.length - 1, by omega⟩
        rw [show j + 1 - x.length = (m + 1) + 1 by omega, List.getElem?_cons_succ]
        rw [hm, List.getElem?_cons_succ] at hj
        exact ht m hj
  induction l with
  | nil => exact ⟨by simp [joinH, joinC], fun j hj h => absurd rfl h⟩
  | cons n r ih =>
    have hn : (58 : UInt8) ∉ hxT n := fun hm => (hxT_mem n 58 hm).1 rfl
    have h0 : ∀ t : List UInt8, (hxT n ++ t)[0]? ≠ some 58 := by
      intro t
      cases hx : hxT n with
      | nil => exact absurd hx (hxT_ne n)
      | cons c s =>
        rw [hx] at hn
        simp at hn ⊢
        exact fun e => hn.1 e.symm
    cases r with
    | nil =>
      refine ⟨by have := h0 []; rw [List.append_nil] at this; exact this, fun j hj _ => ?_⟩
      show (hxT n ++ [58])[j + 1]? ≠ some 58
      have hj' : (hxT n ++ [58])[j]? = some 58 := hj
      by_cases h1 : j < (hxT n).length
      · rw [List.getElem?_append_left h1] at hj'
        exact absurd (List.mem_of_getElem? hj') hn
      · rw [List.getElem?_eq_none (by simp; omega)]
        simp
    | cons m r =>
      have hj1 : joinH (n :: m :: r) = hxT n ++ 58 :: joinH (m :: r) := rfl
      rw [hj1]
      refine ⟨h0 _, fun j hj _ => ?_⟩
      rw [List.append_assoc, List.cons_append] at hj ⊢
      exact key (hxT n) (joinH (m :: r)) (hxT_ne n) hn ih.1 (fun i hi => ih.2 i hi (by simp)) j hj (joinH_ne _ (by simp))
theorem joinH_mem (l : List Nat) : ∀ c ∈ joinH l, c = 58 ∨ ∃ n, c ∈ hxT n := by
  induction l with
  | nil => intro c hc; cases hc
  | cons n r ih =>
    cases r with
    | nil => intro c hc; exact Or.inr ⟨n, hc⟩
    | cons m r =>
      have hj1 : joinH (n :: m :: r) = hxT n ++ 58 :: joinH (m :: r) := rfl
      rw [hj1]
      intro c hc
      rcases List.mem_append.1 hc with hc | hc
      · exact Or.inr ⟨n, hc⟩
      · rcases List.mem_cons.1 hc with rfl | hc
        · exact Or.inl rfl
        · exact ih c hc
theorem print6_mem (l : List Nat) : ∀ c ∈ print6 l, c = 58 ∨ ∃ n, c ∈ hxT n := by
  unfold print6
  split
  · exact joinH_mem l
  · intro c hc
    rcases List.mem_append.1 hc with hc | hc
    · rcases List.mem_append.1 hc with hc | hc
      · exact joinH_mem _ c hc
      · refine Or.inl ?_
        simpa using hc
    · exact joinH_mem _ c hc
theorem print6_no (l : List Nat) : (46 : UInt8) ∉ print6 l := fun hm => by
  rcases print6_mem l _ hm with h | ⟨n, h⟩
  · exact absurd h (by decide)
  · exact (hxT_mem n _ h).2.1 rfl
/-- What is printed of an address that is not of four is read as that address. -/
theorem parse_print6 (a : List UInt8) (h : a.length = 16) : parseA (print6 (pairsN a)) = some a := by
  obtain ⟨hb, hl, hn⟩ := bytesN_pairsN a 8 h
  have hd : dotS (print6 (pairsN a)) = none := by
    unfold dotS
    rw [splitC_no 46 _ (print6_no _)]
    rfl
  unfold parseA
  rw [hd]
  simp only
  have hr := rowS_is (pairsN a) hl
  unfold print6
  by_cases h8 : (rowS (pairsN a)).1 = 8
  · rw [if_pos h8]
    have hne : pairsN a ≠ [] := fun e => by rw [e] at hl; simp at hl
    have hj := joinH_lone (pairsN a)
    rw [gapS_no _ (fun j hj1 hj2 => by
      have l1 := (List.getElem?_eq_some_iff.1 hj1).1
      have l2 := (List.getElem?_eq_some_iff.1 hj2).1
      refine hj.2 j ?_ hne ?_
      · rw [List.getElem?_append_left l1]
        exact hj1
      · rw [List.getElem?_append_left l2]
        exact hj2)]
    simp only
    rw [readS_joinH true _ hn, hb]
    simp only
    rw [if_pos h]
  · rcases hr with hr | ⟨r1, r2, r3, r4⟩
    · exact absurd hr h8
    · rw [if_neg h8]
      obtain ⟨f, hf⟩ : ∃ f, f = (rowS (pairsN a)).1 := ⟨_, rfl⟩
      obtain ⟨n, hnn⟩ : ∃ n, n = (rowS (pairsN a)).2 := ⟨_, rfl⟩
      rw [← hf, ← hnn] at r1 r4 ⊢
      rw [← hf] at r2
      rw [← hnn] at r3
      have hj := joinH_lone ((pairsN a).take f)
      have hg : gapS (joinH ((pairsN a).take f) ++ [58, 58] ++ joinH ((pairsN a).drop (f + n))) = some (joinH ((pairsN a).take f), joinH ((pairsN a).drop (f + n))) := by
        refine gapS_at _ _ fun j hj1 => ?_
        by_cases hf0 : f = 0
        · rw [hf0] at hj1 ⊢
          simp [joinH, joinC] at hj1 ⊢
        · refine hj.2 j hj1 fun e => ?_
          have := congrArg List.length e
          rw [List.length_take, hl, List.length_nil] at this
          omega
      rw [hg]
      simp only
      rw [readS_joinH false _ (fun m hm => hn m (List.mem_of_mem_take hm)), readS_joinH true _ (fun m hm => hn m (List.mem_of_mem_drop hm))]
      simp only
      have e1 : (bytesN ((pairsN a).take f)).length = 2 * f := by rw [bytesN_len, List.length_take]; omega
      have e2 : (bytesN ((pairsN a).drop (f + n))).length = 2 * (8 - (f + n)) := by rw [bytesN_len, List.length_drop]; omega
      rw [if_pos (by omega)]
      congr 1
      rw [e1, e2, show 16 - 2 * f - 2 * (8 - (f + n)) = 2 * n by omega, ← bytesN_zeros, ← r4, ← bytesN_append, ← bytesN_append]
      have : (pairsN a).take f ++ ((pairsN a).drop f).take n ++ (pairsN a).drop (f + n) = pairsN a := by
        rw [List.append_assoc, ← List.drop_drop, List.take_append_drop, List.take_append_drop]
      rw [this, hb]
end Go.Proofs.YtdamgdmipfoalaaDoor.L
