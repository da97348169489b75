/- Layer 2, the plain law: numbers and their texts, tokens, blanks, hexadecimal digits. No function of the program. -/
import Derived.Test.YtdamgdmipfoalaaGreatDoorAp
set_option linter.unusedVariables false
set_option linter.unusedSimpArgs false
namespace Go.Proofs.YtdamgdmipfoalaaGreatDoor.L
open Go.RowKit

/-! ### numbers -/
theorem decFrom_append (a : Nat) (l r : List UInt8) : Lib.decFrom a (l ++ r) = (Lib.decFrom a l).bind (fun m => Lib.decFrom m r) := by
  induction l generalizing a with
  | nil => rfl
  | cons b l ih =>
    rw [List.cons_append, Lib.decFrom, Lib.decFrom]
    cases Lib.digitVal b with
    | none => rfl
    | some d => exact ih _
theorem digit_ofNat (d : Nat) (h : d < 10) : Lib.digitVal (UInt8.ofNat (48 + d)) = some d := by
  unfold Lib.digitVal
  rw [UInt8.toNat_ofNat_of_lt' (by have : UInt8.size = 256 := rfl; omega), if_pos (by omega)]
  congr 1
  omega
theorem digit_inv {b : UInt8} {d : Nat} (h : Lib.digitVal b = some d) : d < 10 ∧ b = UInt8.ofNat (48 + d) := by
  obtain ⟨h1, h2, h3⟩ := Lib.digitVal_eq h
  refine ⟨by omega, ?_⟩
  apply UInt8.toNat_inj.1
  rw [UInt8.toNat_ofNat_of_lt' (by have : UInt8.size = 256 := rfl; omega)]
  omega
theorem decFrom_digits (u : Nat) : Lib.decFrom 0 (Lib.decDigits u) = some u := by
  induction u using Nat.strongRecOn with
  | ind u ih =>
    by_cases h : u < 10
    · rw [Lib.decDigits, dif_pos h]
      simp only [Lib.decFrom, digit_ofNat u h, Nat.zero_mul, Nat.zero_add]
    · rw [Lib.decDigits, dif_neg h, decFrom_append, ih (u / 10) (by omega)]
      simp only [Option.bind_some, Lib.decFrom, digit_ofNat (u % 10) (by omega)]
      congr 1
      omega
theorem decDigits_ne (u : Nat) : Lib.decDigits u ≠ [] := by
  intro h
  have := Lib.decDigits_length u
  rw [h] at this
  have := Lib.nDigits_pos u
  simp at *
  omega
theorem decNat_digits (u : Nat) : Lib.decNat (Lib.decDigits u) = some u := by
  unfold Lib.decNat
  rw [if_neg (by simpa using decDigits_ne u)]
  exact decFrom_digits u
/-- The first digit is no zero, but of the number 0. -/
theorem decDigits_head (u : Nat) (h : 0 < u) : (Lib.decDigits u)[0]? ≠ some 48 := by
  induction u using Nat.strongRecOn with
  | ind u ih =>
    by_cases h10 : u < 10
    · rw [Lib.decDigits, dif_pos h10]
      simp only [List.getElem?_cons_zero, ne_eq, Option.some.injEq]
      intro he
      have := congrArg UInt8.toNat he
      rw [UInt8.toNat_ofNat_of_lt' (by have : UInt8.size = 256 := rfl; omega)] at this
      have e : (48 : UInt8).toNat = 48 := rfl
      omega
    · rw [Lib.decDigits, dif_neg h10, List.getElem?_append_left (by have := decDigits_ne (u / 10); exact List.length_pos_iff.2 this)]
      exact ih (u / 10) (by omega) (by omega)
theorem nDigits_le (u k : Nat) (h : u < 10 ^ k) (hk : 0 < k) : Lib.nDigits u ≤ k := by
  induction k generalizing u with
  | zero => omega
  | succ k ih =>
    by_cases h10 : u < 10
    · rw [Lib.nDigits_small h10]
      omega
    · rw [Lib.nDigits_big h10]
      have hk : 0 < k := by
        rcases Nat.eq_zero_or_pos k with rfl | hk
        · simp at h
          omega
        · exact hk
      have := ih (u / 10) (by rw [Nat.pow_succ] at h; omega) hk
      omega
theorem decDigits_no0 (u : Nat) : ¬ (1 < (Lib.decDigits u).length ∧ (Lib.decDigits u)[0]? = some 48) := by
  rintro ⟨h1, h2⟩
  rcases Nat.eq_zero_or_pos u with rfl | hu
  · rw [Lib.decDigits, dif_pos (by omega)] at h1
    simp at h1
  · exact decDigits_head u hu h2
theorem num_text (n : Nat) (most : Int) (h : n ≤ 999999999999999999) (hm : (n : Int) ≤ most) : numS (Lib.decDigits n) most = ((n : Int), true) := by
  unfold numS
  rw [decNat_digits]
  simp only
  refine if_pos ⟨?_, decDigits_no0 n, hm⟩
  rw [Lib.decDigits_length]
  exact nDigits_le n 18 (by omega) (by decide)
theorem num_less (n : Nat) (most : Int) (hm : ¬ (n : Int) ≤ most) : numS (Lib.decDigits n) most = (0, false) := by
  unfold numS
  rw [decNat_digits]
  simp only
  rw [if_neg (fun h => hm h.2.2)]
/-- A text that tells a number is that number's. -/
theorem text_of (l : List UInt8) (n : Nat) (hl : l ≠ []) (h : Lib.decFrom 0 l = some n) (h0 : ¬ (1 < l.length ∧ l[0]? = some 48)) : Lib.decDigits n = l := by
  have key : ∀ (k : Nat) (l : List UInt8) (n : Nat), l.length = k → l ≠ [] → Lib.decFrom 0 l = some n → ¬ (1 < l.length ∧ l[0]? = some 48) → Lib.decDigits n = l := by
    intro k
    induction k with
    | zero => intro l n hk hl; exact absurd (List.eq_nil_of_length_eq_zero hk) hl
    | succ k ih =>
      intro l n hk hl h h0
      obtain ⟨l', c, rfl⟩ : ∃ l' c, l = l' ++ [c] := ⟨l.dropLast, l.getLast hl, (List.dropLast_concat_getLast hl).symm⟩
      rw [decFrom_append] at h
      obtain ⟨m, hm, hc⟩ := Option.bind_eq_some_iff.1 h
      simp only [Lib.decFrom] at hc
      cases hd : Lib.digitVal c with
      | none => rw [hd] at hc; cases hc
      | some d =>
        rw [hd] at hc
        simp only [Option.some.injEq] at hc
        obtain ⟨hd10, rfl⟩ := digit_inv hd
        by_cases hl' : l' = []
        · subst hl'
          simp only [Lib.decFrom, Option.some.injEq] at hm
          subst hm
          rw [Lib.decDigits, dif_pos (by omega), ← hc]
          simp
        · have hlen : 0 < l'.length := List.length_pos_iff.2 hl'
          have hfirst : (l' ++ [UInt8.ofNat (48 + d)])[0]? = l'[0]? := List.getElem?_append_left hlen
          have hne : l'[0]? ≠ some 48 := fun he => h0 ⟨by simp; omega, by rw [hfirst]; exact he⟩
          have e := ih l' m (by simp at hk; omega) hl' hm (fun h => hne h.2)
          have hm0 : m ≠ 0 := by
            rintro rfl
            apply hne
            rw [← e, Lib.decDigits, dif_pos (by omega)]
            rfl
          rw [Lib.decDigits, dif_neg (by omega), show n / 10 = m by omega, e, show n % 10 = d by omega]
  exact key l.length l n rfl hl h h0
theorem num_back (l : List UInt8) (most m : Int) (h : numS l most = (m, true)) : ∃ n : Nat, m = n ∧ Lib.decDigits n = l ∧ n ≤ 999999999999999999 := by
  unfold numS at h
  cases hd : Lib.decNat l with
  | none => rw [hd] at h; cases h
  | some n =>
    rw [hd] at h
    simp only at h
    split at h
    · rename_i hc
      obtain ⟨hl, hf⟩ := Lib.decNat_some hd
      refine ⟨n, by simpa using (congrArg Prod.fst h).symm, text_of l n hl hf hc.2.1, ?_⟩
      have := Lib.decFrom_lt18 hf hc.1
      omega
    · cases h
theorem num_fail (l : List UInt8) (most : Int) (h : (numS l most).2 = false) : numS l most = (0, false) := by
  unfold numS at h ⊢
  cases hd : Lib.decNat l with
  | none => rfl
  | some n =>
    rw [hd] at h
    simp only at h ⊢
    split at h
    · cases h
    · rename_i hc
      rw [if_neg hc]

/-! ### tokens -/
theorem allS_append (p : Nat → Bool) (a b : List UInt8) (ha : a ≠ []) (hb : b ≠ []) : allS p (a ++ b) = (allS p a && allS p b) := by
  unfold allS
  cases a with
  | nil => exact absurd rfl ha
  | cons x a =>
    cases b with
    | nil => exact absurd rfl hb
    | cons y b => simp [List.all_append, Bool.and_assoc]
theorem tok_vis_byte : ∀ c : UInt8, tokR c.toNat = true → visR c.toNat = true := by
  intro c
  have key : ∀ n : Fin 256, tokR n.val = true → visR n.val = true := by decide +kernel
  exact key ⟨c.toNat, c.toNat_lt⟩
theorem tok_vis (l : List UInt8) (h : allS tokR l = true) : allS visR l = true := by
  unfold allS at h ⊢
  rw [Bool.and_eq_true] at h ⊢
  refine ⟨?_, h.2⟩
  rw [List.all_eq_true] at h ⊢
  exact fun x hx => tok_vis_byte x (h.1 x hx)

/-! ### blanks -/
def isBl (c : UInt8) : Bool := blanksL.contains c
theorem trimS_eq (l : List UInt8) : trimS l = (l.reverse.dropWhile isBl).reverse.dropWhile isBl := rfl
theorem dropWhile_all {p : UInt8 → Bool} {b : List UInt8} (hb : b.all p = true) (l : List UInt8) : (b ++ l).dropWhile p = l.dropWhile p := by
  induction b with
  | nil => rfl
  | cons x b ih =>
    rw [List.all_cons, Bool.and_eq_true] at hb
    rw [List.cons_append, List.dropWhile_cons, if_pos hb.1]
    exact ih hb.2
theorem dropWhile_head (p : UInt8 → Bool) (l : List UInt8) (c : UInt8) (h : (l.dropWhile p)[0]? = some c) : p c = false := by
  induction l with
  | nil => simp at h
  | cons x l ih =>
    rw [List.dropWhile_cons] at h
    split at h
    · exact ih h
    · rename_i hx
      simp at h
      subst h
      simpa using hx
theorem dropWhile_same (p : UInt8 → Bool) (l : List UInt8) (h : ∀ c, l[0]? = some c → p c = false) : l.dropWhile p = l := by
  cases l with
  | nil => rfl
  | cons x l =>
    rw [List.dropWhile_cons, if_neg (by rw [h x rfl]; decide)]
/-- dropWhile from both ends: the two meet. -/
theorem dropWhile_suffix (p : UInt8 → Bool) (l : List UInt8) : ∃ a, l = a ++ l.dropWhile p ∧ a.all p = true := by
  induction l with
  | nil => exact ⟨[], rfl, rfl⟩
  | cons x l ih =>
    rw [List.dropWhile_cons]
    split
    · rename_i hx
      obtain ⟨a, ha, hp⟩ := ih
      exact ⟨x :: a, by rw [List.cons_append, ← ha], by rw [List.all_cons, hx, hp]; rfl⟩
    · exact ⟨[], rfl, rfl⟩
theorem trim_parts (l : List UInt8) : ∃ a b, l = a ++ trimS l ++ b ∧ a.all isBl = true ∧ b.all isBl = true := by
  obtain ⟨b, hb, hbp⟩ := dropWhile_suffix isBl l.reverse
  obtain ⟨a, ha, hap⟩ := dropWhile_suffix isBl (l.reverse.dropWhile isBl).reverse
  refine ⟨a, b.reverse, ?_, hap, by rw [List.all_reverse]; exact hbp⟩
  rw [trimS_eq, ← ha, ← List.reverse_append, ← hb, List.reverse_reverse]
theorem trim_first (l : List UInt8) (c : UInt8) (h : (trimS l)[0]? = some c) : isBl c = false := dropWhile_head _ _ _ (by rw [trimS_eq] at h; exact h)
theorem trim_last (l : List UInt8) (c : UInt8) (h : (trimS l).reverse[0]? = some c) : isBl c = false := by
  rw [trimS_eq] at h
  obtain ⟨a, ha, hap⟩ := dropWhile_suffix isBl (l.reverse.dropWhile isBl).reverse
  generalize hX : (l.reverse.dropWhile isBl).reverse.dropWhile isBl = X at h ha
  have e : l.reverse.dropWhile isBl = X.reverse ++ a.reverse := by
    have := congrArg List.reverse ha
    rwa [List.reverse_reverse, List.reverse_append] at this
  refine dropWhile_head isBl l.reverse c ?_
  rw [e, List.getElem?_append_left]
  · exact h
  · exact (List.getElem?_eq_some_iff.1 h).1
theorem trim_same (l : List UInt8) (h1 : ∀ c, l[0]? = some c → isBl c = false) (h2 : ∀ c, l.reverse[0]? = some c → isBl c = false) : trimS l = l := by
  rw [trimS_eq, dropWhile_same isBl l.reverse h2, List.reverse_reverse, dropWhile_same isBl l h1]
theorem trim_trim (l : List UInt8) : trimS (trimS l) = trimS l := trim_same _ (trim_first l) (trim_last l)
theorem trim_wrap (a l b : List UInt8) (ha : a.all isBl = true) (hb : b.all isBl = true) : trimS (a ++ l ++ b) = trimS l := by
  rw [trimS_eq, trimS_eq, List.reverse_append, dropWhile_all (by rw [List.all_reverse]; exact hb), List.reverse_append]
  obtain ⟨x, hx, hxp⟩ := dropWhile_suffix isBl l.reverse
  generalize hX : l.reverse.dropWhile isBl = X at hx
  rw [hx, List.append_assoc, dropWhile_all hxp]
  cases X with
  | nil =>
    rw [List.nil_append]
    have e : a.reverse.dropWhile isBl = [] := by
      have := dropWhile_all (p := isBl) (b := a.reverse) (by rw [List.all_reverse]; exact ha) []
      simpa using this
    rw [e]
  | cons y X =>
    have hy : isBl y = false := dropWhile_head isBl l.reverse y (by rw [hX]; rfl)
    rw [List.cons_append, List.dropWhile_cons, if_neg (by rw [hy]; decide), ← List.cons_append, List.reverse_append, List.reverse_reverse, dropWhile_all ha]
theorem isBl_iff (c : UInt8) : isBl c = (c == 32 || c == 9) := by
  unfold isBl blanksL
  simp [List.contains_cons, Bool.or_comm]
  grind
/-! ### hexadecimal digits -/
def hexD (great : Bool) (d : Nat) : UInt8 := UInt8.ofNat (if d < 10 then 48 + d else if great then 55 + d else 87 + d)
theorem hexB_hexD (g : Bool) (d : Nat) (h : d < 16) : hexB (hexD g d) = some d := by
  have key : ∀ (g : Bool) (d : Fin 16), hexB (hexD g d.val) = some d.val := by decide +kernel
  exact key g ⟨d, h⟩
theorem hexFrom_append (a : Nat) (l r : List UInt8) : hexFrom a (l ++ r) = (hexFrom a l).bind (fun m => hexFrom m r) := by
  induction l generalizing a with
  | nil => rfl
  | cons b l ih =>
    rw [List.cons_append, hexFrom, hexFrom]
    cases hexB b with
    | none => rfl
    | some d => exact ih _
/-- The k last hexadecimal digits. -/
def hexT (g : Bool) : Nat → Nat → List UInt8
  | 0, _ => []
  | k + 1, n => hexT g k (n / 16) ++ [hexD g (n % 16)]
theorem hexT_len (g : Bool) (k n : Nat) : (hexT g k n).length = k := by
  induction k generalizing n with
  | zero => rfl
  | succ k ih => rw [hexT, List.length_append, ih]; rfl
theorem hexFrom_hexT (g : Bool) (k n a : Nat) (h : n < 16 ^ k) : hexFrom a (hexT g k n) = some (a * 16 ^ k + n) := by
  induction k generalizing n with
  | zero =>
    simp [hexT, hexFrom]
    simpa using h
  | succ k ih =>
    rw [hexT, hexFrom_append, ih (n / 16) (by rw [Nat.pow_succ] at h; omega)]
    simp only [Option.bind_some, hexFrom, hexB_hexD g (n % 16) (by omega)]
    congr 1
    have e : a * 16 ^ (k + 1) = 16 * (a * 16 ^ k) := by rw [Nat.pow_succ, ← Nat.mul_assoc, Nat.mul_comm]
    rw [e, Nat.mul_add]
    omega
/-- Zeros ahead are left off, but for one digit. -/
def shortS : List UInt8 → List UInt8
  | [] => []
  | [c] => [c]
  | c :: d :: r => if c = 48 then shortS (d :: r) else c :: d :: r
theorem shortS_len (l : List UInt8) : (shortS l).length ≤ l.length ∧ (l ≠ [] → shortS l ≠ []) := by
  induction l with
  | nil => exact ⟨Nat.le_refl _, fun h => h⟩
  | cons c l ih =>
    cases l with
    | nil => exact ⟨Nat.le_refl _, fun h => h⟩
    | cons d r =>
      unfold shortS
      split
      · refine ⟨?_, fun _ => ih.2 (by simp)⟩
        have := ih.1
        simp at this ⊢
        omega
      · exact ⟨Nat.le_refl _, fun h => h⟩
theorem shortS_from (l : List UInt8) : hexFrom 0 (shortS l) = hexFrom 0 l := by
  induction l with
  | nil => rfl
  | cons c l ih =>
    cases l with
    | nil => rfl
    | cons d r =>
      unfold shortS
      split
      · rename_i h
        subst h
        rw [ih]
        conv => rhs; unfold hexFrom
        rfl
      · rfl
theorem hexS_of (l : List UInt8) (n : Nat) (h0 : l ≠ []) (h4 : l.length ≤ 4) (h : hexFrom 0 l = some n) : hexS l = ((n : Int), true) := by
  unfold hexS
  have : l.length ≠ 0 := fun e => h0 (List.eq_nil_of_length_eq_zero e)
  rw [if_neg (by omega), h]
theorem hexS_long (l : List UInt8) (h4 : 4 < l.length) : hexS l = (0, false) := by
  unfold hexS
  rw [if_pos (.inr h4)]
end Go.Proofs.YtdamgdmipfoalaaGreatDoor.L
