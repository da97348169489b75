/- Layer 13, plain: texts of addresses, and that an address is read as it was printed. No function of the program. -/
import Derived.Test.YtdamgdmipfoalaaGreatDoorRp
import Derived.Lib.ItoaLen
import Derived.Lib.Join
set_option linter.unusedVariables false
set_option linter.unusedSimpArgs false
namespace Go.Proofs.YtdamgdmipfoalaaGreatDoor.L
open Go.RowKit

/-- One number of a dotted text. -/
def octS (l : List UInt8) : Option UInt8 := if (numS l 255).2 = true then some (UInt8.ofNat (numS l 255).1.toNat) else none
def octsA (acc : List UInt8) : List (List UInt8) → Option (List UInt8)
  | [] => some acc
  | x :: r => match octS x with
    | some b => octsA (acc ++ [b]) r
    | none => none
/-- Four numbers. -/
def dotS (l : List UInt8) : Option (List UInt8) := if (splitC 46 l).length = 4 then octsA [] (splitC 46 l) else none
/-- One group: two bytes, or four. -/
def grpS (may : Bool) (x : List UInt8) : Option (List UInt8) :=
  if (hexS x).2 = true then some [UInt8.ofNat ((hexS x).1.toNat / 256), UInt8.ofNat ((hexS x).1.toNat % 256)] else if may = true then dotS x else none
def grpsA (may : Bool) (acc : List UInt8) : List (List UInt8) → Option (List UInt8)
  | [] => some acc
  | x :: r => match grpS (may && r.isEmpty) x with
    | some b => grpsA may (acc ++ b) r
    | none => none
/-- A row of groups. -/
def readS (may : Bool) (l : List UInt8) : Option (List UInt8) := if l = [] then some [] else grpsA may [] (splitC 58 l)
/-- What stands ahead of, and behind the first two colons. -/
def gapS : List UInt8 → Option (List UInt8 × List UInt8)
  | [] => none
  | c :: r => if c = 58 ∧ r[0]? = some 58 then some ([], r.drop 1) else match gapS r with
    | some (x, y) => some (c :: x, y)
    | none => none
def zerosL (n : Nat) : List UInt8 := List.replicate n 0
def aheadL : List UInt8 := [0, 0, 0, 0, 0, 0, 0, 0, 0, 0, 255, 255]
/-- The address of a text. -/
def parseA (l : List UInt8) : Option (List UInt8) :=
  match dotS l with
  | some d => some (aheadL ++ d)
  | none => match gapS l with
    | none => match readS true l with
      | some b => if b.length = 16 then some b else none
      | none => none
    | some (x, y) => match readS false x, readS true y with
      | some a, some b => if a.length + b.length ≤ 14 then some (a ++ zerosL (16 - a.length - b.length) ++ b) else none
      | _, _ => none

/-! ### printed -/
def hxC (d : Nat) : UInt8 := if d < 10 then UInt8.ofNat (48 + d) else UInt8.ofNat (87 + d)
def hxT (n : Nat) : List UInt8 := if h : n < 16 then [hxC n] else hxT (n / 16) ++ [hxC (n % 16)]
termination_by n
decreasing_by omega
/-- The groups of an address. -/
def pairsN : List UInt8 → List Nat
  | a :: b :: r => (256 * a.toNat + b.toNat) :: pairsN r
  | _ => []
def bytesN : List Nat → List UInt8
  | [] => []
  | n :: r => UInt8.ofNat (n / 256) :: UInt8.ofNat (n % 256) :: bytesN r
/-- How many zeros stand ahead. -/
def zrun : List Nat → Nat
  | 0 :: r => zrun r + 1
  | _ => 0
/-- The longest row of zeros from k on: (from, n), of more than n. -/
def rowA (k from_ n : Nat) : List Nat → Nat × Nat
  | [] => (from_, n)
  | x :: r => if n < zrun (x :: r) then rowA (k + 1) k (zrun (x :: r)) r else rowA (k + 1) from_ n r
def rowS (l : List Nat) : Nat × Nat := rowA 0 8 1 l
def joinH (l : List Nat) : List UInt8 := joinC 58 (l.map hxT)
def fourB (a : List UInt8) : Bool := decide (a.take 12 = aheadL)
def print6 (l : List Nat) : List UInt8 := if (rowS l).1 = 8 then joinH l else joinH (l.take (rowS l).1) ++ [58, 58] ++ joinH (l.drop ((rowS l).1 + (rowS l).2))
def print4 (l : List UInt8) : List UInt8 := joinC 46 (l.map fun c => Lib.decDigits c.toNat)
def printA (a : List UInt8) : List UInt8 := if fourB a = true then print4 (a.drop 12) else print6 (pairsN a)

/-! ### a group is read as it was printed -/
theorem hxC_all : ∀ d : Fin 16, hexB (hxC d.1) = some d.1 ∧ hxC d.1 ≠ 58 ∧ hxC d.1 ≠ 46 ∧ visR (hxC d.1).toNat = true ∧ hxC d.1 ≠ 93 ∧ hxC d.1 ≠ 64 ∧ hxC d.1 ≠ 91 := by decide
theorem hxC_is (d : Nat) (h : d < 16) : hexB (hxC d) = some d ∧ hxC d ≠ 58 ∧ hxC d ≠ 46 ∧ visR (hxC d).toNat = true ∧ hxC d ≠ 93 ∧ hxC d ≠ 64 ∧ hxC d ≠ 91 := hxC_all ⟨d, h⟩
theorem hxT_from (n : Nat) : hexFrom 0 (hxT n) = some n := by
  induction n using Nat.strongRecOn with
  | ind n ih =>
    rw [hxT]
    split
    · rename_i h
      rw [hexFrom, (hxC_is n h).1]
      simp [hexFrom]
    · rename_i h
      rw [hexFrom_append, ih (n / 16) (by omega)]
      simp only [Option.bind_some, hexFrom, (hxC_is (n % 16) (by omega)).1]
      congr 1
      omega
theorem hxT_ne (n : Nat) : hxT n ≠ [] := by
  rw [hxT]
  split <;> simp
theorem hxT_len (n k : Nat) (h : n < 16 ^ (k + 1)) : (hxT n).length ≤ k + 1 := by
  induction k generalizing n with
  | zero =>
    rw [hxT, dif_pos (by omega)]
    simp
  | succ k ih =>
    rw [hxT]
    split
    · simp
    · have := ih (n / 16) (by rw [Nat.pow_succ] at h; omega)
      simp
      omega
theorem hxT_mem (n : Nat) : ∀ c ∈ hxT n, c ≠ 58 ∧ c ≠ 46 ∧ visR c.toNat = true ∧ c ≠ 93 ∧ c ≠ 64 ∧ c ≠ 91 := by
  induction n using Nat.strongRecOn with
  | ind n ih =>
    rw [hxT]
    split
    · rename_i h
      intro c hc
      rw [List.mem_singleton] at hc
      rw [hc]
      exact (hxC_is n h).2
    · rename_i h
      intro c hc
      rcases List.mem_append.1 hc with hc | hc
      · exact ih (n / 16) (by omega) c hc
      · rw [List.mem_singleton] at hc
        rw [hc]
        exact (hxC_is (n % 16) (by omega)).2
theorem hexS_hxT (n : Nat) (h : n < 65536) : hexS (hxT n) = ((n : Int), true) := by
  have hl := hxT_len n 3 (by omega)
  have h0 : (hxT n).length ≠ 0 := fun e => hxT_ne n (List.length_eq_zero_iff.1 e)
  unfold hexS
  rw [if_neg (by omega), hxT_from]
theorem grpS_hxT (may : Bool) (n : Nat) (h : n < 65536) : grpS may (hxT n) = some [UInt8.ofNat (n / 256), UInt8.ofNat (n % 256)] := by
  unfold grpS
  rw [hexS_hxT n h]
  rfl
theorem grpsA_hxT (may : Bool) (acc : List UInt8) (l : List Nat) (h : ∀ n ∈ l, n < 65536) : grpsA may acc (l.map hxT) = some (acc ++ bytesN l) := by
  induction l generalizing acc with
  | nil => simp [grpsA, bytesN]
  | cons n r ih =>
    rw [List.map_cons, grpsA, grpS_hxT _ n (h n (by simp))]
    simp only
    rw [ih _ (fun m hm => h m (by simp [hm])), bytesN]
    simp
theorem splitC_joinC (c : UInt8) (xs : List (List UInt8)) (h : ∀ x ∈ xs, c ∉ x) (hne : xs ≠ []) : splitC c (joinC c xs) = xs := by
  induction xs with
  | nil => exact absurd rfl hne
  | cons x r ih =>
    cases r with
    | nil => exact splitC_no c x (h x (by simp))
    | cons y r =>
      rw [joinC, splitC_at c x _ (h x (by simp)), ih (fun z hz => h z (by simp [hz])) (by simp)]
theorem joinH_ne (l : List Nat) (h : l ≠ []) : joinH l ≠ [] := by
  cases l with
  | nil => exact absurd rfl h
  | cons n r =>
    unfold joinH
    cases r with
    | nil => exact hxT_ne n
    | cons m r =>
      simp only [List.map_cons, joinC]
      intro e
      have := congrArg List.length e
      simp at this
theorem readS_joinH (may : Bool) (l : List Nat) (h : ∀ n ∈ l, n < 65536) : readS may (joinH l) = some (bytesN l) := by
  unfold readS
  by_cases hl : l = []
  · rw [hl]
    rfl
  · rw [if_neg (joinH_ne l hl)]
    unfold joinH
    rw [splitC_joinC 58 _ (fun x hx => by
      obtain ⟨n, -, rfl⟩ := List.mem_map.1 hx
      exact fun hm => (hxT_mem n 58 hm).1 rfl) (by simpa using hl)]
    rw [grpsA_hxT may [] l h, List.nil_append]
theorem bytesN_pairsN (a : List UInt8) (k : Nat) (h : a.length = 2 * k) : bytesN (pairsN a) = a ∧ (pairsN a).length = k ∧ ∀ n ∈ pairsN a, n < 65536 := by
  induction k generalizing a with
  | zero =>
    have : a = [] := List.length_eq_zero_iff.1 (by omega)
    rw [this]
    exact ⟨rfl, rfl, fun n hn => by cases hn⟩
  | succ k ih =>
    match a, h with
    | x :: y :: r, h =>
      obtain ⟨h1, h2, h3⟩ := ih r (by simp at h; omega)
      have hx := UInt8.toNat_lt x
      have hy := UInt8.toNat_lt y
      refine ⟨?_, by rw [pairsN, List.length_cons, h2], ?_⟩
      · rw [pairsN, bytesN, h1]
        have e1 : (256 * x.toNat + y.toNat) / 256 = x.toNat := by omega
        have e2 : (256 * x.toNat + y.toNat) % 256 = y.toNat := by omega
        rw [e1, e2, UInt8.ofNat_toNat, UInt8.ofNat_toNat]
      · intro n hn
        rcases List.mem_cons.1 hn with rfl | hn
        · omega
        · exact h3 n hn
    | [x], h => simp at h; omega
    | [], h => simp at h
theorem bytesN_len (l : List Nat) : (bytesN l).length = 2 * l.length := by
  induction l with
  | nil => rfl
  | cons n r ih =>
    rw [bytesN, List.length_cons, List.length_cons, List.length_cons, ih]
    omega
theorem bytesN_append (l r : List Nat) : bytesN (l ++ r) = bytesN l ++ bytesN r := by
  induction l with
  | nil => rfl
  | cons n l ih => rw [List.cons_append, bytesN, bytesN, ih]; rfl
theorem bytesN_zeros (k : Nat) : bytesN (List.replicate k 0) = zerosL (2 * k) := by
  induction k with
  | zero => rfl
  | succ k ih =>
    rw [List.replicate_succ, bytesN, ih]
    show _ = List.replicate (2 * k + 1 + 1) 0
    rw [List.replicate_succ, List.replicate_succ]
    rfl

/-! ### the longest row -/
theorem zrun_le (l : List Nat) : zrun l ≤ l.length ∧ l.take (zrun l) = List.replicate (zrun l) 0 := by
  induction l with
  | nil => exact ⟨Nat.le_refl _, rfl⟩
  | cons x r ih =>
    cases x with
    | zero =>
      rw [zrun]
      refine ⟨by simp; exact ih.1, ?_⟩
      rw [List.take_succ_cons, ih.2, List.replicate_succ]
    | succ x => exact ⟨Nat.zero_le _, rfl⟩
theorem rowA_is (L l : List Nat) (k f n : Nat) (hl : l = L.drop k) (hk : k ≤ L.length) (h : f = L.length ∨ (f + n ≤ L.length ∧ f < L.length ∧ 2 ≤ n ∧ (L.drop f).take n = List.replicate n 0)) (h1 : 1 ≤ n) :
    ∃ f' n', rowA k f n l = (f', n') ∧ (f' = L.length ∨ (f' + n' ≤ L.length ∧ f' < L.length ∧ 2 ≤ n' ∧ (L.drop f').take n' = List.replicate n' 0)) := by
  induction l generalizing k f n with
  | nil => exact ⟨f, n, rfl, h⟩
  | cons x r ih =>
    have hkl : k < L.length := by
      have := congrArg List.length hl
      rw [List.length_drop, List.length_cons] at this
      omega
    have hr : r = L.drop (k + 1) := by
      rw [List.drop_eq_getElem_cons hkl] at hl
      exact (List.cons.inj hl).2
    rw [rowA]
    split
    · rename_i hz
      obtain ⟨z1, z2⟩ := zrun_le (x :: r)
      refine ih (k + 1) k _ hr hkl (Or.inr ⟨?_, hkl, by omega, by rw [← hl]; exact z2⟩) (by omega)
      have := congrArg List.length hl
      rw [List.length_drop] at this
      omega
    · exact ih (k + 1) f n hr hkl h h1
theorem rowS_is (l : List Nat) (h : l.length = 8) : (rowS l).1 = 8 ∨ ((rowS l).1 + (rowS l).2 ≤ 8 ∧ (rowS l).1 < 8 ∧ 2 ≤ (rowS l).2 ∧ (l.drop (rowS l).1).take (rowS l).2 = List.replicate (rowS l).2 0) := by
  obtain ⟨f, n, hr, hh⟩ := rowA_is l l 0 8 1 rfl (Nat.zero_le _) (Or.inl h.symm) (Nat.le_refl _)
  unfold rowS
  rw [hr]
  rw [h] at hh
  exact hh

/-! ### no gap but the one -/
theorem gapS_no (l : List UInt8) (h : ∀ j : Nat, l[j]? = some 58 → l[j + 1]? ≠ some 58) : gapS l = none := by
  induction l with
  | nil => rfl
  | cons c r ih =>
    rw [gapS, if_neg, ih (fun j hj => h (j + 1) (by simpa using hj))]
    rintro ⟨rfl, h2⟩
    exact h 0 rfl (by simpa using h2)
theorem gapS_at (x y : List UInt8) (h : ∀ j : Nat, (x ++ [58])[j]? = some 58 → (x ++ [58])[j + 1]? ≠ some 58) : gapS (x ++ [58, 58] ++ y) = some (x, y) := by
  induction x with
  | nil => simp [gapS]
  | cons c r ih =>
    rw [List.cons_append, List.cons_append, gapS, if_neg, ih (fun j hj => by
      have := h (j + 1) (by simpa using hj)
      simpa using this)]
    rintro ⟨rfl, h2⟩
    refine h 0 rfl ?_
    cases r with
    | nil => simp
    | cons d r => simpa using h2
theorem joinH_lone (l : List Nat) : (joinH l)[0]? ≠ some 58 ∧ ∀ j : Nat, (joinH l ++ [58])[j]? = some 58 → (l ≠ [] → (joinH l ++ [58])[j + 1]? ≠ some 58) := by
  have key : ∀ (x : List UInt8) (t : List UInt8), x ≠ [] → (58 : UInt8) ∉ x → t[0]? ≠ some 58 → (∀ j : Nat, (t ++ [58])[j]? = some 58 → (t ++ [58])[j + 1]? ≠ some 58) →
      ∀ j : Nat, (x ++ 58 :: (t ++ [58]))[j]? = some 58 → t ≠ [] → (x ++ 58 :: (t ++ [58]))[j + 1]? ≠ some 58 := by
    intro x t hx hx2 ht0 ht j hj htn
    by_cases h1 : j < x.length
    · rw [List.getElem?_append_left h1] at hj
      exact absurd (List.mem_of_getElem? hj) hx2
    · rw [List.getElem?_append_right (by omega)]
      rw [List.getElem?_append_right (by omega)] at hj
      by_cases h2 : j = x.length
      · rw [show j + 1 - x.length = 0 + 1 by omega, List.getElem?_cons_succ]
        cases t with
        | nil => exact absurd rfl htn
        | cons c r => exact ht0
      · obtain ⟨m, hm⟩ : ∃ m, j - x.length = m + 1 := ⟨j - x.length - 1, by omega⟩
        rw [show j + 1 - x.length = (m + 1) + 1 by omega, List.getElem?_cons_succ]
        rw [hm, List.getElem?_cons_succ] at hj
        exact ht m hj
  induction l with
  | nil => exact ⟨by simp [joinH, joinC], fun j hj h => absurd rfl h⟩
  | cons n r ih =>
    have hn : (58 : UInt8) ∉ hxT n := fun hm => (hxT_mem n 58 hm).1 rfl
    have h0 : ∀ t : List UInt8, (hxT n ++ t)[0]? ≠ some 58 := by
      intro t
      cases hx : hxT n with
      | nil => exact absurd hx (hxT_ne n)
      | cons c s =>
        rw [hx] at hn
        simp at hn ⊢
        exact fun e => hn.1 e.symm
    cases r with
    | nil =>
      refine ⟨by have := h0 []; rw [List.append_nil] at this; exact this, fun j hj _ => ?_⟩
      show (hxT n ++ [58])[j + 1]? ≠ some 58
      have hj' : (hxT n ++ [58])[j]? = some 58 := hj
      by_cases h1 : j < (hxT n).length
      · rw [List.getElem?_append_left h1] at hj'
        exact absurd (List.mem_of_getElem? hj') hn
      · rw [List.getElem?_eq_none (by simp; omega)]
        simp
    | cons m r =>
      have hj1 : joinH (n :: m :: r) = hxT n ++ 58 :: joinH (m :: r) := rfl
      rw [hj1]
      refine ⟨h0 _, fun j hj _ => ?_⟩
      rw [List.append_assoc, List.cons_append] at hj ⊢
      exact key (hxT n) (joinH (m :: r)) (hxT_ne n) hn ih.1 (fun i hi => ih.2 i hi (by simp)) j hj (joinH_ne _ (by simp))
theorem joinH_mem (l : List Nat) : ∀ c ∈ joinH l, c = 58 ∨ ∃ n, c ∈ hxT n := by
  induction l with
  | nil => intro c hc; cases hc
  | cons n r ih =>
    cases r with
    | nil => intro c hc; exact Or.inr ⟨n, hc⟩
    | cons m r =>
      have hj1 : joinH (n :: m :: r) = hxT n ++ 58 :: joinH (m :: r) := rfl
      rw [hj1]
      intro c hc
      rcases List.mem_append.1 hc with hc | hc
      · exact Or.inr ⟨n, hc⟩
      · rcases List.mem_cons.1 hc with rfl | hc
        · exact Or.inl rfl
        · exact ih c hc
theorem print6_mem (l : List Nat) : ∀ c ∈ print6 l, c = 58 ∨ ∃ n, c ∈ hxT n := by
  unfold print6
  split
  · exact joinH_mem l
  · intro c hc
    rcases List.mem_append.1 hc with hc | hc
    · rcases List.mem_append.1 hc with hc | hc
      · exact joinH_mem _ c hc
      · refine Or.inl ?_
        simpa using hc
    · exact joinH_mem _ c hc
theorem print6_no (l : List Nat) : (46 : UInt8) ∉ print6 l := fun hm => by
  rcases print6_mem l _ hm with h | ⟨n, h⟩
  · exact absurd h (by decide)
  · exact (hxT_mem n _ h).2.1 rfl
/-- What is printed of an address that is not of four is read as that address. -/
theorem parse_print6 (a : List UInt8) (h : a.length = 16) : parseA (print6 (pairsN a)) = some a := by
  obtain ⟨hb, hl, hn⟩ := bytesN_pairsN a 8 h
  have hd : dotS (print6 (pairsN a)) = none := by
    unfold dotS
    rw [splitC_no 46 _ (print6_no _)]
    rfl
  unfold parseA
  rw [hd]
  simp only
  have hr := rowS_is (pairsN a) hl
  unfold print6
  by_cases h8 : (rowS (pairsN a)).1 = 8
  · rw [if_pos h8]
    have hne : pairsN a ≠ [] := fun e => by rw [e] at hl; simp at hl
    have hj := joinH_lone (pairsN a)
    rw [gapS_no _ (fun j hj1 hj2 => by
      have l1 := (List.getElem?_eq_some_iff.1 hj1).1
      have l2 := (List.getElem?_eq_some_iff.1 hj2).1
      refine hj.2 j ?_ hne ?_
      · rw [List.getElem?_append_left l1]
        exact hj1
      · rw [List.getElem?_append_left l2]
        exact hj2)]
    simp only
    rw [readS_joinH true _ hn, hb]
    simp only
    rw [if_pos h]
  · rcases hr with hr | ⟨r1, r2, r3, r4⟩
    · exact absurd hr h8
    · rw [if_neg h8]
      obtain ⟨f, hf⟩ : ∃ f, f = (rowS (pairsN a)).1 := ⟨_, rfl⟩
      obtain ⟨n, hnn⟩ : ∃ n, n = (rowS (pairsN a)).2 := ⟨_, rfl⟩
      rw [← hf, ← hnn] at r1 r4 ⊢
      rw [← hf] at r2
      rw [← hnn] at r3
      have hj := joinH_lone ((pairsN a).take f)
      have hg : gapS (joinH ((pairsN a).take f) ++ [58, 58] ++ joinH ((pairsN a).drop (f + n))) = some (joinH ((pairsN a).take f), joinH ((pairsN a).drop (f + n))) := by
        refine gapS_at _ _ fun j hj1 => ?_
        by_cases hf0 : f = 0
        · rw [hf0] at hj1 ⊢
          simp [joinH, joinC] at hj1 ⊢
        · refine hj.2 j hj1 fun e => ?_
          have := congrArg List.length e
          rw [List.length_take, hl, List.length_nil] at this
          omega
      rw [hg]
      simp only
      rw [readS_joinH false _ (fun m hm => hn m (List.mem_of_mem_take hm)), readS_joinH true _ (fun m hm => hn m (List.mem_of_mem_drop hm))]
      simp only
      have e1 : (bytesN ((pairsN a).take f)).length = 2 * f := by rw [bytesN_len, List.length_take]; omega
      have e2 : (bytesN ((pairsN a).drop (f + n))).length = 2 * (8 - (f + n)) := by rw [bytesN_len, List.length_drop]; omega
      rw [if_pos (by omega)]
      congr 1
      rw [e1, e2, show 16 - 2 * f - 2 * (8 - (f + n)) = 2 * n by omega, ← bytesN_zeros, ← r4, ← bytesN_append, ← bytesN_append]
      have : (pairsN a).take f ++ ((pairsN a).drop f).take n ++ (pairsN a).drop (f + n) = pairsN a := by
        rw [List.append_assoc, ← List.drop_drop, List.take_append_drop, List.take_append_drop]
      rw [this, hb]
end Go.Proofs.YtdamgdmipfoalaaGreatDoor.L

/-! Layer 13, plain: authorities. No function of the program. -/
namespace Go.Proofs.YtdamgdmipfoalaaGreatDoor.L
open Go.RowKit

/-- What is ahead of the first c, and what is from there on. -/
def untilC (c : UInt8) : List UInt8 → List UInt8 × List UInt8
  | [] => ([], [])
  | x :: r => if x = c then ([], x :: r) else (x :: (untilC c r).1, (untilC c r).2)
theorem untilC_no (c : UInt8) (l : List UInt8) (h : c ∉ l) : untilC c l = (l, []) := by
  induction l with
  | nil => rfl
  | cons x r ih =>
    rw [List.mem_cons, not_or] at h
    rw [untilC, if_neg (fun e => h.1 e.symm), ih h.2]
theorem untilC_at (c : UInt8) (a b : List UInt8) (h : c ∉ a) : untilC c (a ++ c :: b) = (a, c :: b) := by
  induction a with
  | nil => rw [List.nil_append, untilC, if_pos rfl]
  | cons x r ih =>
    rw [List.mem_cons, not_or] at h
    rw [List.cons_append, untilC, if_neg (fun e => h.1 e.symm), ih h.2]
theorem untilC_cases (c : UInt8) (l : List UInt8) : (c ∉ l ∧ untilC c l = (l, [])) ∨ ∃ a b, l = a ++ c :: b ∧ c ∉ a ∧ untilC c l = (a, c :: b) := by
  rcases cutC_cases c l with ⟨h, -⟩ | ⟨a, b, rfl, h, -⟩
  · exact Or.inl ⟨h, untilC_no c l h⟩
  · exact Or.inr ⟨a, b, rfl, h, untilC_at c a b h⟩

/-- A host, and what is behind it. -/
def splitH (s : List UInt8) : List UInt8 × List UInt8 × Int :=
  if s = [] ∨ s[0]? = some 58 then ([], [], 8)
  else if allS visR s = false ∨ (64 : UInt8) ∈ s then ([], [], 3)
  else if s[0]? ≠ some 91 then ((untilC 58 s).1, (untilC 58 s).2, 0)
  else match parseA (untilC 93 (s.drop 1)).1 with
    | some a => if (untilC 93 (s.drop 1)).2 = [] ∨ (58 : UInt8) ∉ (untilC 93 (s.drop 1)).1 then ([], [], 3) else (printA a, (untilC 93 (s.drop 1)).2.drop 1, 0)
    | none => ([], [], 3)
/-- A host, and a port. -/
def tailH (h r : List UInt8) : List UInt8 × Int × Int :=
  if r = [] then (h, 0, 0) else if r[0]? ≠ some 58 then ([], 0, 3) else if (numS (r.drop 1) 65535).2 = false ∨ (numS (r.drop 1) 65535).1 = 0 then ([], 0, 10) else (h, (numS (r.drop 1) 65535).1, 0)
def hpS (s : List UInt8) : List UInt8 × Int × Int :=
  if (splitH s).2.2 ≠ 0 then ([], 0, (splitH s).2.2) else tailH (splitH s).1 (splitH s).2.1
/-- As it is printed. -/
def formH (h : List UInt8) : List UInt8 := if (58 : UInt8) ∈ h then 91 :: (h ++ [93]) else h
def portT (p : Int) : List UInt8 := if p = 0 then [] else 58 :: Lib.itoa p
def lineH (h : List UInt8) (p : Int) : List UInt8 := formH h ++ portT p
def printH3 (h : List UInt8) (p : Int) : List UInt8 × Bool := if hpS (lineH h p) = (h, p, 0) then (lineH h p, true) else ([], false)
def hostL : List UInt8 := [104, 111, 115, 116]
def ofS (m t : List UInt8) (xs : List (List UInt8 × List UInt8)) : List UInt8 × Int × Int :=
  if formS m t = 4 then ([], 0, 11) else if formS m t = 0 then ([], 0, 3) else if 1 < (findF hostL xs).2 then ([], 0, 7)
  else if formS m t = 2 then hpS (authS t).1 else if (findF hostL xs).2 = 0 then ([], 0, 8) else hpS (findF hostL xs).1

/-! ### addresses have sixteen bytes -/
theorem octsA_len (acc : List UInt8) (xs : List (List UInt8)) (b : List UInt8) (h : octsA acc xs = some b) : b.length = acc.length + xs.length := by
  induction xs generalizing acc with
  | nil =>
    rw [octsA] at h
    injection h with h
    rw [h]
    rfl
  | cons x r ih =>
    rw [octsA] at h
    split at h
    · rename_i c hc
      have := ih _ h
      simp at this ⊢
      omega
    · cases h
theorem dotS_len (l b : List UInt8) (h : dotS l = some b) : b.length = 4 := by
  unfold dotS at h
  split at h
  · rename_i h4
    rw [octsA_len _ _ _ h, h4]
    rfl
  · cases h
theorem parseA_len (l a : List UInt8) (h : parseA l = some a) : a.length = 16 := by
  unfold parseA at h
  split at h
  · rename_i d hd
    injection h with h
    rw [← h, List.length_append, dotS_len l d hd]
    rfl
  · split at h
    · split at h
      · split at h
        · rename_i b hb h16
          injection h with h
          rw [← h]
          exact h16
        · cases h
      · cases h
    · split at h
      · split at h
        · rename_i x y hxy a b ha hb hle
          injection h with h
          rw [← h]
          simp [zerosL]
          omega
        · cases h
      · cases h

/-! ### what hosts are -/
def fineH (c : UInt8) : Prop := visR c.toNat = true ∧ c ≠ 64
theorem digit_fine : ∀ d : Fin 10, visR (UInt8.ofNat (48 + d.1)).toNat = true ∧ UInt8.ofNat (48 + d.1) ≠ 64 ∧ UInt8.ofNat (48 + d.1) ≠ 58 ∧ UInt8.ofNat (48 + d.1) ≠ 91 := by decide
theorem digits_mem (n : Nat) : ∀ c ∈ Lib.decDigits n, visR c.toNat = true ∧ c ≠ 64 ∧ c ≠ 58 ∧ c ≠ 91 := by
  induction n using Nat.strongRecOn with
  | ind n ih =>
    rw [Lib.decDigits]
    split
    · rename_i h
      intro c hc
      rw [List.mem_singleton] at hc
      rw [hc]
      exact digit_fine ⟨n, h⟩
    · rename_i h
      intro c hc
      rcases List.mem_append.1 hc with hc | hc
      · exact ih _ (by omega) c hc
      · rw [List.mem_singleton] at hc
        rw [hc]
        exact digit_fine ⟨n % 10, Nat.mod_lt _ (by omega)⟩
theorem allS_iff (p : Nat → Bool) (l : List UInt8) : allS p l = true ↔ l ≠ [] ∧ ∀ c ∈ l, p c.toNat = true := by
  unfold allS
  rw [Bool.and_eq_true, List.all_eq_true]
  constructor
  · rintro ⟨h1, h2⟩
    refine ⟨?_, h1⟩
    rintro rfl
    simp at h2
  · rintro ⟨h1, h2⟩
    refine ⟨h2, ?_⟩
    cases l with
    | nil => exact absurd rfl h1
    | cons x r => rfl
theorem print4_mem (l : List UInt8) : ∀ c ∈ print4 l, c = 46 ∨ ∃ n, c ∈ Lib.decDigits n := by
  unfold print4
  induction l with
  | nil => intro c hc; cases hc
  | cons n r ih =>
    cases r with
    | nil => intro c hc; exact Or.inr ⟨_, hc⟩
    | cons m r =>
      intro c hc
      simp only [List.map_cons, joinC] at hc ih
      rcases List.mem_append.1 hc with hc | hc
      · exact Or.inr ⟨_, hc⟩
      · rcases List.mem_cons.1 hc with rfl | hc
        · exact Or.inl rfl
        · exact ih c hc
theorem print4_ne (l : List UInt8) (h : l ≠ []) : print4 l ≠ [] := by
  unfold print4
  cases l with
  | nil => exact absurd rfl h
  | cons n r =>
    cases r with
    | nil => exact decDigits_ne _
    | cons m r =>
      simp only [List.map_cons, joinC]
      intro e
      have := congrArg List.length e
      simp at this
/-- A host that is split off, put into its one form, is split off again, with nothing behind. -/
theorem plain_form (h : List UInt8) (hne : h ≠ []) (h58 : (58 : UInt8) ∉ h) (hv : ∀ c ∈ h, visR c.toNat = true) (h64 : (64 : UInt8) ∉ h) (h91 : h[0]? ≠ some 91) : splitH (formH h) = (h, [], 0) := by
  unfold formH
  rw [if_neg h58]
  unfold splitH
  rw [if_neg, if_neg, if_pos h91, untilC_no 58 h h58]
  · rintro (e | e)
    · rw [(allS_iff visR h).2 ⟨hne, hv⟩] at e
      cases e
    · exact h64 e
  · rintro (e | e)
    · exact hne e
    · exact h58 (List.mem_of_getElem? e)
theorem print6_colon (l : List Nat) (h : l.length = 8) : (58 : UInt8) ∈ print6 l := by
  unfold print6
  split
  · match l, h with
    | a :: b :: r, h =>
      show (58 : UInt8) ∈ hxT a ++ 58 :: joinH (b :: r)
      simp
    | [a], h => simp at h
    | [], h => simp at h
  · simp
theorem split_form (s b r : List UInt8) (h : splitH s = (b, r, 0)) : splitH (formH b) = (b, [], 0) := by
  unfold splitH at h
  split at h
  · simp at h
  · rename_i h0
    rw [not_or] at h0
    split at h
    · simp at h
    · rename_i h1
      rw [not_or] at h1
      have hv := (allS_iff visR s).1 (by simpa using h1.1)
      split at h
      · rename_i h91
        injection h with e1 e2
        rcases untilC_cases 58 s with ⟨hn, hu⟩ | ⟨x, y, rfl, hn, hu⟩
        · rw [hu] at e1
          subst e1
          exact plain_form _ h0.1 hn hv.2 h1.2 h91
        · rw [hu] at e1
          subst e1
          refine plain_form _ ?_ hn (fun c hc => hv.2 c (by simp [hc])) (fun hm => h1.2 (by simp [hm])) ?_
          · rintro rfl
            exact h0.2 rfl
          · cases x with
            | nil => simp
            | cons c x => simpa using h91
      · split at h
        · rename_i a ha
          split at h
          · simp at h
          · have hlen := parseA_len _ _ ha
            injection h with e1 e2
            subst e1
            unfold printA
            cases hf : fourB a with
            | true =>
              rw [if_pos rfl]
              have hd : a.drop 12 ≠ [] := fun e => by
                have := congrArg List.length e
                simp at this
                omega
              have hm : ∀ c ∈ print4 (a.drop 12), visR c.toNat = true ∧ c ≠ 64 ∧ c ≠ 58 ∧ c ≠ 91 := by
                intro c hc
                rcases print4_mem _ c hc with rfl | ⟨n, hc⟩
                · decide
                · exact digits_mem n c hc
              exact plain_form _ (print4_ne _ hd) (fun h => (hm _ h).2.2.1 rfl) (fun c hc => (hm c hc).1) (fun h => (hm _ h).2.1 rfl) (fun h => (hm _ (List.mem_of_getElem? h)).2.2.2 rfl)
            | false =>
              rw [if_neg (by decide)]
              have hb := bytesN_pairsN a 8 hlen
              have hcol := print6_colon (pairsN a) hb.2.1
              have hm : ∀ c ∈ print6 (pairsN a), visR c.toNat = true ∧ c ≠ 64 ∧ c ≠ 93 := by
                intro c hc
                rcases print6_mem _ c hc with rfl | ⟨n, hc⟩
                · decide
                · have := hxT_mem n c hc
                  exact ⟨this.2.2.1, this.2.2.2.2.1, this.2.2.2.1⟩
              have h93 : (93 : UInt8) ∉ print6 (pairsN a) := fun h => (hm _ h).2.2 rfl
              have hp := parse_print6 a hlen
              have hpa : printA a = print6 (pairsN a) := by
                unfold printA
                rw [hf, if_neg (by decide)]
              unfold formH
              rw [if_pos hcol]
              obtain ⟨P, hP⟩ : ∃ P, P = print6 (pairsN a) := ⟨_, rfl⟩
              rw [← hP] at hcol hm h93 hp hpa ⊢
              unfold splitH
              rw [if_neg (by simp), if_neg, if_neg (by simp)]
              · rw [List.drop_succ_cons, List.drop_zero, untilC_at 93 P [] h93]
                simp only
                rw [hp]
                simp only
                rw [if_neg (by simp [hcol]), hpa]
                rfl
              · rintro (e | e)
                · rw [(allS_iff visR _).2 ⟨by simp, fun c hc => by
                    rcases List.mem_cons.1 hc with rfl | hc
                    · decide
                    · rcases List.mem_append.1 hc with hc | hc
                      · exact (hm c hc).1
                      · rw [List.mem_singleton] at hc
                        rw [hc]
                        decide⟩] at e
                  cases e
                · rcases List.mem_cons.1 e with e | e
                  · exact absurd e (by decide)
                  · rcases List.mem_append.1 e with e | e
                    · exact (hm _ e).2.1 rfl
                    · rw [List.mem_singleton] at e
                      exact absurd e (by decide)
        · simp at h
/-- More may stand behind. -/
theorem split_more (s b t : List UInt8) (h : splitH s = (b, [], 0)) (ht : ∀ c ∈ t, visR c.toNat = true ∧ c ≠ 64) : splitH (s ++ 58 :: t) = (b, 58 :: t, 0) := by
  unfold splitH at h
  split at h
  · simp at h
  · rename_i h0
    rw [not_or] at h0
    split at h
    · simp at h
    · rename_i h1
      rw [not_or] at h1
      have hv := (allS_iff visR s).1 (by simpa using h1.1)
      have hs0 : (s ++ 58 :: t)[0]? = s[0]? := by
        cases s with
        | nil => exact absurd rfl h0.1
        | cons c r => rfl
      have hd1 : (s ++ 58 :: t).drop 1 = s.drop 1 ++ 58 :: t := by
        cases s with
        | nil => exact absurd rfl h0.1
        | cons c r => rfl
      unfold splitH
      rw [hs0, hd1]
      rw [if_neg (c := _ ∨ s[0]? = some 58), if_neg]
      · split at h
        · rename_i h91
          rw [if_pos h91]
          injection h with e1 e2
          injection e2 with e2 e3
          rcases untilC_cases 58 s with ⟨hn, hu⟩ | ⟨x, y, hxy, hn, hu⟩
          · rw [hu] at e1
            rw [untilC_at 58 s t hn, ← e1]
          · rw [hu] at e2
            cases e2
        · rename_i h91
          rw [if_neg h91]
          split at h
          · rename_i a ha
            split at h
            · simp at h
            · rename_i hq
              rw [not_or] at hq
              injection h with e1 e2
              injection e2 with e2 e3
              rcases untilC_cases 93 (s.drop 1) with ⟨hn, hu⟩ | ⟨x, y, hxy, hn, hu⟩
              · rw [hu] at hq
                exact absurd rfl hq.1
              · rw [hu] at e2 ha hq
                have hy : y = [] := e2
                subst hy
                rw [hxy, List.append_assoc, List.cons_append, List.nil_append, untilC_at 93 x _ hn]
                simp only
                rw [ha]
                simp only
                rw [if_neg (by simpa using hq.2), e1]
                rfl
          · simp at h
      · rintro (e | e)
        · rw [(allS_iff visR _).2 ⟨by simp, fun c hc => by
            rcases List.mem_append.1 hc with hc | hc
            · exact hv.2 c hc
            · rcases List.mem_cons.1 hc with rfl | hc
              · decide
              · exact (ht c hc).1⟩] at e
          cases e
        · rcases List.mem_append.1 e with e | e
          · exact h1.2 e
          · rcases List.mem_cons.1 e with e | e
            · exact absurd e (by decide)
            · exact (ht _ e).2 rfl
      · rintro (e | e)
        · simp at e
        · exact h0.2 e
theorem numS_pos (l : List UInt8) (most : Int) (h : (numS l most).2 = true) : ∃ n : Nat, (numS l most).1 = n ∧ (n : Int) ≤ most := by
  unfold numS at h ⊢
  split at h
  · rename_i n hn
    split at h
    · rename_i hc
      exact ⟨n, by rw [if_pos hc], hc.2.2⟩
    · cases h
  · cases h
/-- The parts of what is parsed. -/
theorem hp_parts (s b : List UInt8) (q : Int) (h : hpS s = (b, q, 0)) : ∃ r, splitH s = (b, r, 0) ∧ ∃ n : Nat, q = n ∧ n ≤ 65535 ∧ (n = 0 → r = []) := by
  unfold hpS at h
  split at h
  · rename_i he
    injection h with e1 e2
    injection e2 with e2 e3
    exact absurd e3 he
  · rename_i he
    have he' : (splitH s).2.2 = 0 := Decidable.of_not_not he
    unfold tailH at h
    have hh : splitH s = ((splitH s).1, (splitH s).2.1, 0) := by rw [← he']
    split at h
    · rename_i hr
      injection h with e1 e2
      injection e2 with e2 e3
      refine ⟨_, by rw [hh, e1], 0, by rw [← e2]; rfl, by omega, fun _ => by rw [← hr]⟩
    · split at h
      · simp at h
      · split at h
        · simp at h
        · rename_i hz
          rw [not_or] at hz
          obtain ⟨n, hn, hle⟩ := numS_pos ((splitH s).2.1.drop 1) 65535 (by simpa using hz.1)
          injection h with e1 e2
          injection e2 with e2 e3
          refine ⟨_, by rw [hh, e1], n, by rw [← e2, hn], by omega, fun h0 => ?_⟩
          rw [h0] at hn
          exact absurd hn hz.2
theorem hp_err (s : List UInt8) (h : (hpS s).2.2 ≠ 0) : (hpS s).1 = [] ∧ (hpS s).2.1 = 0 := by
  unfold hpS at h ⊢
  split
  · exact ⟨rfl, rfl⟩
  · rename_i he
    rw [if_neg he] at h
    unfold tailH at h ⊢
    split
    · rename_i hr
      rw [if_pos hr] at h
      exact absurd rfl h
    · rename_i hr
      rw [if_neg hr] at h
      split
      · exact ⟨rfl, rfl⟩
      · rename_i hc
        rw [if_neg hc] at h
        split
        · exact ⟨rfl, rfl⟩
        · rename_i hz
          rw [if_neg hz] at h
          exact absurd rfl h
/-- A port stands behind a host that is alone. -/
theorem hp_port (s b : List UInt8) (n : Nat) (h : splitH s = (b, [], 0)) : hpS (s ++ 58 :: Lib.decDigits n) = if 1 ≤ n ∧ n ≤ 65535 then (b, (n : Int), 0) else ([], 0, 10) := by
  have hs := split_more s b (Lib.decDigits n) h (fun c hc => ⟨(digits_mem n c hc).1, (digits_mem n c hc).2.1⟩)
  unfold hpS
  rw [hs]
  rw [if_neg (by simp)]
  unfold tailH
  rw [if_neg (by simp), if_neg (by simp)]
  rw [List.drop_succ_cons, List.drop_zero]
  by_cases hn : n ≤ 65535
  · rw [num_text n 65535 (by omega) (by omega)]
    by_cases h1 : 1 ≤ n
    · rw [if_neg (by simp; omega), if_pos ⟨h1, hn⟩]
    · rw [if_pos (by simp; omega), if_neg (by omega)]
  · rw [num_less n 65535 (by omega), if_pos (by simp), if_neg (by omega)]
theorem hp_alone (s b : List UInt8) (h : splitH s = (b, [], 0)) : hpS s = (b, 0, 0) := by
  unfold hpS
  rw [h, if_neg (by simp)]
  rfl
/-- THE STAGE'S THEOREM: what is parsed can be printed, and is parsed the same. -/
theorem hp_back (s b : List UInt8) (q : Int) (h : hpS s = (b, q, 0)) : hpS (lineH b q) = (b, q, 0) ∧ b ≠ [] ∧ 0 ≤ q ∧ q < 65536 := by
  obtain ⟨r, hr, n, rfl, hn, h0⟩ := hp_parts s b q h
  have hf := split_form s b r hr
  refine ⟨?_, ?_, by omega, by omega⟩
  · unfold lineH portT
    by_cases hz : n = 0
    · rw [if_pos (by omega), List.append_nil, hz]
      exact hp_alone _ _ hf
    · rw [if_neg (by omega), Lib.itoa_nonneg, hp_port _ _ n hf, if_pos ⟨by omega, hn⟩]
  · rintro rfl
    simp [formH, splitH] at hf
theorem hp_ports (s a : List UInt8) (n : Nat) (h : hpS s = (a, 0, 0)) : hpS (s ++ 58 :: Lib.decDigits n) = if 1 ≤ n ∧ n ≤ 65535 then (a, (n : Int), 0) else ([], 0, 10) := by
  obtain ⟨r, hr, m, hm, hn, h0⟩ := hp_parts s a 0 h
  rw [h0 (by omega)] at hr
  exact hp_port s a n hr
theorem print_neg (h : List UInt8) (p : Int) (hp : p < 0) : printH3 h p = ([], false) := by
  unfold printH3
  rw [if_neg]
  intro e
  obtain ⟨r, -, n, hn, -⟩ := hp_parts _ _ _ e
  omega
theorem print_ok (h : List UInt8) (p : Int) (t : List UInt8) (e : printH3 h p = (t, true)) : hpS t = (h, p, 0) := by
  unfold printH3 at e
  split at e
  · rename_i hh
    injection e with e1 e2
    rw [← e1, hh]
  · simp at e
theorem print_none (h : List UInt8) (p : Int) (e : (printH3 h p).2 = false) : (printH3 h p).1 = [] := by
  unfold printH3 at e ⊢
  split at e
  · cases e
  · rename_i hh
    rw [if_neg hh]
end Go.Proofs.YtdamgdmipfoalaaGreatDoor.L

/-! Layer 13, plain: the document's ways to read and print an address come to the same. No function of the program. -/
namespace Go.Proofs.YtdamgdmipfoalaaGreatDoor.L
open Go.RowKit

theorem join_joinC (c : UInt8) (xs : List (List UInt8)) : Lib.join xs [c] = joinC c xs := by
  unfold Lib.join
  induction xs with
  | nil => rfl
  | cons x r ih =>
    cases r with
    | nil => simp [List.intercalate, joinC]
    | cons y r =>
      rw [joinC, ← ih]
      simp [List.intercalate]
/-! ### a second gap -/
theorem grps_gap (may : Bool) (n : Nat) (y acc : List UInt8) (hn : y.length ≤ n) (j : Nat) (h1 : (58 :: y)[j]? = some 58) (h2 : (58 :: y)[j + 1]? = some 58) : grpsA may acc (splitC 58 y) = none := by
  induction n generalizing y acc j with
  | zero =>
    have : y = [] := List.length_eq_zero_iff.1 (by omega)
    subst this
    simp at h2
  | succ n ih =>
    rcases untilC_cases 58 y with ⟨hno, -⟩ | ⟨a, b, rfl, hno, -⟩
    · rw [List.getElem?_cons_succ] at h2
      exact absurd (List.mem_of_getElem? h2) hno
    · rw [splitC_at 58 a b hno, grpsA]
      have hne : (splitC 58 b).isEmpty = false := by
        cases hs : splitC 58 b with
        | nil => exact absurd hs (splitC_ne 58 b)
        | cons x r => rfl
      rw [hne, Bool.and_false]
      cases a with
      | nil => rfl
      | cons c r =>
        split
        · rename_i x hx
          rw [List.getElem?_cons_succ] at h2
          have hj : (c :: r).length < j := by
            by_cases hlt : j < (c :: r).length
            · rw [List.getElem?_append_left hlt] at h2
              exact absurd (List.mem_of_getElem? h2) hno
            · by_cases he : j = (c :: r).length
              · rw [he, List.length_cons, List.getElem?_cons_succ, List.getElem?_append_left (by simp)] at h1
                exact absurd (List.mem_of_getElem? h1) hno
              · omega
          refine ih b _ (by simp at hn; omega) (j - (c :: r).length - 1) ?_ ?_
          · obtain ⟨m, hm⟩ : ∃ m, j = (c :: r).length + 1 + m := ⟨j - (c :: r).length - 1, by omega⟩
            rw [show j - (c :: r).length - 1 = m by omega]
            rw [hm, show (c :: r).length + 1 + m = ((c :: r).length + m) + 1 by omega, List.getElem?_cons_succ, List.getElem?_append_right (by omega), show (c :: r).length + m - (c :: r).length = m by omega] at h1
            exact h1
          · obtain ⟨m, hm⟩ : ∃ m, j = (c :: r).length + 1 + m := ⟨j - (c :: r).length - 1, by omega⟩
            rw [show j - (c :: r).length - 1 = m by omega]
            rw [hm, List.getElem?_append_right (by omega), show (c :: r).length + 1 + m - (c :: r).length = m + 1 by omega] at h2
            exact h2
        · rfl
theorem gapS_inv (l x y : List UInt8) (h : gapS l = some (x, y)) : l = x ++ [58, 58] ++ y := by
  induction l generalizing x with
  | nil => cases h
  | cons c r ih =>
    rw [gapS] at h
    split at h
    · rename_i hc
      injection h with h
      injection h with e1 e2
      cases r with
      | nil => simp at hc
      | cons d r =>
        simp at hc
        rw [← e1, ← e2, hc.1, hc.2]
        rfl
    · split at h
      · rename_i x' y' hx
        injection h with h
        injection h with e1 e2
        have := ih x' (by rw [hx, e2])
        rw [← e1, this]
        simp
      · cases h
/-- Where the first gap is. -/
theorem gapS_none (l : List UInt8) (h : ∀ j : Nat, j + 1 < l.length → ¬ (l[j]? = some 58 ∧ l[j + 1]? = some 58)) : gapS l = none :=
  gapS_no l fun j h1 h2 => h j (List.getElem?_eq_some_iff.1 h2).1 ⟨h1, h2⟩
theorem gapS_first (l : List UInt8) (k : Nat) (h : ∀ j : Nat, j < k → ¬ (l[j]? = some 58 ∧ l[j + 1]? = some 58)) (h1 : l[k]? = some 58) (h2 : l[k + 1]? = some 58) : gapS l = some (l.take k, l.drop (k + 2)) := by
  induction k generalizing l with
  | zero =>
    match l, h1, h2 with
    | c :: r, h1, h2 =>
      rw [gapS, if_pos ⟨by simpa using h1, by simpa using h2⟩]
      rw [List.take_zero, List.drop_succ_cons]
  | succ k ih =>
    match l, h1, h2 with
    | c :: r, h1, h2 =>
      rw [gapS, if_neg (fun hh => h 0 (by omega) ⟨by simpa using hh.1, by simpa using hh.2⟩), ih r (fun j hj hh => h (j + 1) (by omega) (by simpa using hh)) (by simpa using h1) (by simpa using h2)]
      simp
theorem parse_gap2 (l : List UInt8) (k j : Nat) (hd : dotS l = none) (h : ∀ j : Nat, j < k → ¬ (l[j]? = some 58 ∧ l[j + 1]? = some 58)) (h1 : l[k]? = some 58) (h2 : l[k + 1]? = some 58)
    (hj : k < j) (h3 : l[j]? = some 58) (h4 : l[j + 1]? = some 58) : parseA l = none := by
  unfold parseA
  rw [hd, gapS_first l k h h1 h2]
  simp only
  have hr : readS true (l.drop (k + 2)) = none := by
    have hne : l.drop (k + 2) ≠ [] := fun e => by
      have := congrArg List.length e
      have := (List.getElem?_eq_some_iff.1 h4).1
      simp at *
      omega
    unfold readS
    rw [if_neg hne]
    have he : 58 :: l.drop (k + 2) = l.drop (k + 1) := by
      rw [List.drop_eq_getElem_cons (List.getElem?_eq_some_iff.1 h2).1, (List.getElem?_eq_some_iff.1 h2).2]
    refine grps_gap true _ _ [] (Nat.le_refl _) (j - k - 1) ?_ ?_
    · rw [he, List.getElem?_drop, show k + 1 + (j - k - 1) = j by omega]
      exact h3
    · rw [he, List.getElem?_drop, show k + 1 + (j - k - 1 + 1) = j + 1 by omega]
      exact h4
  rw [hr]
  split <;> simp_all
/-! ### the longest row, another way -/
theorem rowA_two (l : List Nat) (k f1 n1 f2 n2 : Nat) (h : (n1 ≤ 1 ∧ f2 = 8 ∧ n2 = 1) ∨ (2 ≤ n1 ∧ f1 = f2 ∧ n1 = n2)) :
    ((rowA k f1 n1 l).2 ≤ 1 ∧ rowA k f2 n2 l = (8, 1)) ∨ (2 ≤ (rowA k f1 n1 l).2 ∧ rowA k f1 n1 l = rowA k f2 n2 l) := by
  induction l generalizing k f1 n1 f2 n2 with
  | nil =>
    rcases h with ⟨h1, rfl, rfl⟩ | ⟨h1, rfl, rfl⟩
    · exact Or.inl ⟨h1, rfl⟩
    · exact Or.inr ⟨h1, rfl⟩
  | cons x r ih =>
    rw [rowA, rowA]
    rcases h with ⟨h1, rfl, rfl⟩ | ⟨h1, rfl, rfl⟩
    · by_cases hz : 1 < zrun (x :: r)
      · rw [if_pos hz, if_pos (by omega)]
        exact ih _ _ _ _ _ (Or.inr ⟨by omega, rfl, rfl⟩)
      · rw [if_neg hz]
        split
        · exact ih _ _ _ _ _ (Or.inl ⟨by omega, rfl, rfl⟩)
        · exact ih _ _ _ _ _ (Or.inl ⟨h1, rfl, rfl⟩)
    · split
      · exact ih _ _ _ _ _ (Or.inr ⟨by omega, rfl, rfl⟩)
      · exact ih _ _ _ _ _ (Or.inr ⟨h1, rfl, rfl⟩)
def rowR (l : List Nat) : Nat × Nat := if (rowA 0 0 0 l).2 < 2 then (8, 0) else rowA 0 0 0 l
theorem rowR_is (l : List Nat) : (rowR l = (8, 0) ∧ rowS l = (8, 1)) ∨ (2 ≤ (rowR l).2 ∧ rowR l = rowS l) := by
  unfold rowR rowS
  rcases rowA_two l 0 0 0 8 1 (Or.inl ⟨by omega, rfl, rfl⟩) with ⟨h1, h2⟩ | ⟨h1, h2⟩
  · rw [if_pos (by omega)]
    exact Or.inl ⟨rfl, h2⟩
  · rw [if_neg (by omega)]
    exact Or.inr ⟨h1, h2⟩
theorem joinH_snoc (xs : List Nat) (n : Nat) : joinH (xs ++ [n]) = if xs = [] then hxT n else joinH xs ++ 58 :: hxT n := by
  induction xs with
  | nil => rfl
  | cons x r ih =>
    rw [if_neg (by simp)]
    cases r with
    | nil => rfl
    | cons y r =>
      rw [if_neg (by simp)] at ih
      show hxT x ++ 58 :: joinH (y :: r ++ [n]) = (hxT x ++ 58 :: joinH (y :: r)) ++ 58 :: hxT n
      rw [ih]
      simp
/-- What is printed up to k. -/
def uptoP (l : List Nat) (f m k : Nat) : List UInt8 := if k ≤ f then joinH (l.take k) else joinH (l.take f) ++ [58, 58] ++ joinH ((l.take k).drop (f + m))
theorem uptoP_end (l : List Nat) (h : l.length = 8) : uptoP l (rowR l).1 (rowR l).2 8 = print6 l := by
  have hs := rowS_is l h
  unfold uptoP print6
  rcases rowR_is l with ⟨h1, h2⟩ | ⟨h1, h2⟩
  · rw [h1, h2, if_pos (Nat.le_refl 8), if_pos rfl, List.take_of_length_le (by omega)]
  · rw [h2] at h1 ⊢
    by_cases h8 : (rowS l).1 = 8
    · rw [if_pos h8, h8, if_pos (Nat.le_refl 8), List.take_of_length_le (by omega)]
    · rcases hs with hs | hs
      · exact absurd hs h8
      · rw [if_neg h8, if_neg (by omega), List.take_of_length_le (l := l) (i := 8) (by omega)]
theorem take_succ_at (l : List Nat) (k : Nat) (h : k < l.length) : l.take (k + 1) = l.take k ++ [l[k]] := by
  rw [List.take_add_one, List.getElem?_eq_getElem h]
  rfl
theorem uptoP_step (l : List Nat) (f m k : Nat) (h : k < l.length) (hfm : (f = l.length ∧ m = 0) ∨ 1 ≤ m) (hle : f + m ≤ l.length) :
    (k < f → uptoP l f m (k + 1) = (if 0 < k then uptoP l f m k ++ [58] else uptoP l f m k) ++ hxT l[k]) ∧
    (k = f → uptoP l f m (k + 1) = uptoP l f m k ++ [58, 58]) ∧
    (f < k → k < f + m → uptoP l f m (k + 1) = uptoP l f m k) ∧
    (f < k → k = f + m → uptoP l f m (k + 1) = uptoP l f m k ++ hxT l[k]) ∧
    (f + m < k → uptoP l f m (k + 1) = uptoP l f m k ++ [58] ++ hxT l[k]) := by
  unfold uptoP
  refine ⟨fun h1 => ?_, fun h1 => ?_, fun h1 h2 => ?_, fun h1 h2 => ?_, fun h1 => ?_⟩
  · rw [if_pos (show k + 1 ≤ f by omega), if_pos (show k ≤ f by omega), take_succ_at l k h, joinH_snoc]
    by_cases hk : 0 < k
    · rw [if_neg (c := List.take k l = []), if_pos hk]
      · simp
      · intro e
        have := congrArg List.length e
        rw [List.length_take, List.length_nil] at this
        omega
    · have : k = 0 := by omega
      subst this
      rfl
  · subst h1
    rw [if_neg (by omega), if_pos (Nat.le_refl _), List.drop_eq_nil_of_le (by simp; omega)]
    simp [joinH, joinC]
  · rw [if_neg (by omega), if_neg (by omega), List.drop_eq_nil_of_le (by simp; omega), List.drop_eq_nil_of_le (by simp; omega)]
  · rw [if_neg (by omega), if_neg (by omega), take_succ_at l k h, List.drop_append_of_le_length (by simp; omega), joinH_snoc, List.drop_eq_nil_of_le (as := l.take k) (by simp; omega), if_pos rfl]
    simp [joinH, joinC]
  · rw [if_neg (by omega), if_neg (by omega), take_succ_at l k h, List.drop_append_of_le_length (by simp; omega), joinH_snoc, if_neg]
    · simp
    · intro e
      have := congrArg List.length e
      rw [List.length_drop, List.length_take, List.length_nil] at this
      omega
end Go.Proofs.YtdamgdmipfoalaaGreatDoor.L
