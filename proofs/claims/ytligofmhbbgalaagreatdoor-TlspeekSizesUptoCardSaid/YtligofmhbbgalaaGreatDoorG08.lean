/- Texts of the proof, joined: Ap Np Tp. -/
import Derived.Test.YtligofmhbbgalaaGreatDoorG01
import Derived.Lib.DecodeN
import Derived.Lib.ItoaNum
import Derived.Lib.Atoi
import Derived.Lib.SlTrimSet
import Derived.Laws.RangeString
import Derived.Lib.CutLaws
import Derived.Lib.Split
import Derived.Lib.ItoaLen
import Derived.Lib.Join
import Derived.Test.YtligofmhbbgalaaGreatDoorG07
set_option linter.unusedVariables false
set_option linter.unusedSimpArgs false
/- Layer 2, plain: letters, digits, signs; what a string's runes are. No function of the program. -/
namespace Go.Proofs.YtligofmhbbgalaaGreatDoor.L
open Go.RowKit

/-- A byte's small letter. -/
def lowB (c : UInt8) : UInt8 := if 65 ≤ c.toNat ∧ c.toNat ≤ 90 then UInt8.ofNat (c.toNat + 32) else c
def lowS (l : List UInt8) : List UInt8 := l.map lowB
/-- Runes that are digits, visible, of tokens. -/
def digR (r : Nat) : Bool := decide (48 ≤ r) && decide (r ≤ 57)
def visR (r : Nat) : Bool := decide (32 < r) && decide (r ≤ 126)
def signsL : List UInt8 := [33, 35, 36, 37, 38, 39, 42, 43, 45, 46, 94, 95, 96, 124, 126]
def tokR (r : Nat) : Bool := (decide (97 ≤ r) && decide (r ≤ 122)) || (decide (65 ≤ r) && decide (r ≤ 90)) || digR r || (decide (r < 128) && signsL.contains (UInt8.ofNat r))
/-- Not empty, and all bytes are so. -/
def allS (p : Nat → Bool) (l : List UInt8) : Bool := l.all (fun b => p b.toNat) && !l.isEmpty

theorem digR_high (r : Nat) (h : 128 ≤ r) : digR r = false := by
  unfold digR
  rw [show decide (r ≤ 57) = false by simpa using by omega, Bool.and_false]
theorem get_bang (s : ByteArray) (i : Nat) (h : i < s.size) : s.get! i = s[i] := by
  simp [ByteArray.get!, getElem!_pos, h]
  rfl
theorem get_list (s : ByteArray) (i : Nat) (h : i < s.size) : s.data.toList[i]? = some s[i] := by
  rw [List.getElem?_eq_getElem (by simpa using h)]
  rfl
theorem size_list (s : ByteArray) : s.data.toList.length = s.size := by simp
theorem decode_low (s : ByteArray) (i : Nat) (h : i < s.size) (ha : (s[i]).toNat < 128) : Utf8.decode s i = ((s[i]).toNat, 1) := decode_ascii s i h ha
theorem decodeN_high (n b0 b1 b2 b3 : Nat) (h0 : 128 ≤ b0) (h1 : b0 < 256) : 128 ≤ (Lib.decodeN n b0 b1 b2 b3).1 ∧ 1 ≤ (Lib.decodeN n b0 b1 b2 b3).2 ∧
    (1 < (Lib.decodeN n b0 b1 b2 b3).2 → 1 < n ∧ 128 ≤ b1) ∧ (2 < (Lib.decodeN n b0 b1 b2 b3).2 → 2 < n ∧ 128 ≤ b2) ∧ (3 < (Lib.decodeN n b0 b1 b2 b3).2 → 3 < n ∧ 128 ≤ b3) ∧ (Lib.decodeN n b0 b1 b2 b3).2 ≤ 4 := by
  unfold Lib.decodeN
  repeat' split
  all_goals (refine ⟨?_, ?_, ?_, ?_, ?_, ?_⟩ <;> simp only <;> omega)
theorem decode_high (s : ByteArray) (i : Nat) (h : i < s.size) (ha : ¬ (s[i]).toNat < 128) : 128 ≤ (Utf8.decode s i).1 := by
  rw [Lib.decode_at]
  exact (decodeN_high _ _ _ _ _ (by rw [get_bang s i h]; omega) (UInt8.toNat_lt _)).1
/-! ### all -/
theorem all_drop_false {p : Nat → Bool} {l : List UInt8} {k : Nat} {b : UInt8} (h : l[k]? = some b) (hp : p b.toNat = false) : l.all (fun b => p b.toNat) = false := by
  rw [List.all_eq_false]
  exact ⟨b, List.mem_of_getElem? h, by simpa using hp⟩

/-! ### what is not empty, and which runes come -/
theorem lowS_len (l : List UInt8) : (lowS l).length = l.length := List.length_map ..
theorem lowS_append (a b : List UInt8) : lowS (a ++ b) = lowS a ++ lowS b := List.map_append
theorem lowB_nat (c : UInt8) : (lowB c).toNat = if 65 ≤ c.toNat ∧ c.toNat ≤ 90 then c.toNat + 32 else c.toNat := by
  unfold lowB
  split
  · rename_i h
    rw [UInt8.toNat_ofNat_of_lt' (by have : UInt8.size = 256 := rfl; omega)]
  · rfl

/-- A text's number: no zero ahead, at most 18 digits, not beyond most. -/
def numS (l : List UInt8) (most : Int) : Int × Bool :=
  match Lib.decNat l with
  | some n => if l.length ≤ 18 ∧ ¬ (1 < l.length ∧ l[0]? = some 48) ∧ (n : Int) ≤ most then ((n : Int), true) else (0, false)
  | none => (0, false)
/-- A hexadecimal digit's number. -/
def hexB (c : UInt8) : Option Nat := if 48 ≤ c.toNat ∧ c.toNat ≤ 57 then some (c.toNat - 48) else if 97 ≤ c.toNat ∧ c.toNat ≤ 102 then some (c.toNat - 87) else if 65 ≤ c.toNat ∧ c.toNat ≤ 70 then some (c.toNat - 55) else none
def hexFrom (a : Nat) : List UInt8 → Option Nat
  | [] => some a
  | c :: r => match hexB c with
    | some d => hexFrom (16 * a + d) r
    | none => none
def hexS (l : List UInt8) : Int × Bool :=
  if l.length = 0 ∨ 4 < l.length then (0, false) else match hexFrom 0 l with
  | some n => ((n : Int), true)
  | none => (0, false)
def blanksL : List UInt8 := [32, 9]
def trimS (l : List UInt8) : List UInt8 := Lib.trimS l blanksL
end Go.Proofs.YtligofmhbbgalaaGreatDoor.L

/-! Layer 2, the plain law: numbers and their texts, tokens, blanks, hexadecimal digits. No function of the program. -/
namespace Go.Proofs.YtligofmhbbgalaaGreatDoor.L
open Go.RowKit

/-! ### numbers -/
/-! ### tokens -/
/-! ### blanks -/
def isBl (c : UInt8) : Bool := blanksL.contains c
theorem trimS_eq (l : List UInt8) : trimS l = (l.reverse.dropWhile isBl).reverse.dropWhile isBl := rfl
/-- dropWhile from both ends: the two meet. -/
theorem dropWhile_suffix (p : UInt8 → Bool) (l : List UInt8) : ∃ a, l = a ++ l.dropWhile p ∧ a.all p = true := by
  induction l with
  | nil => exact ⟨[], rfl, rfl⟩
  | cons x l ih =>
    rw [List.dropWhile_cons]
    split
    · rename_i hx
      obtain ⟨a, ha, hp⟩ := ih
      exact ⟨x :: a, by rw [List.cons_append, ← ha], by rw [List.all_cons, hx, hp]; rfl⟩
    · exact ⟨[], rfl, rfl⟩
theorem trim_parts (l : List UInt8) : ∃ a b, l = a ++ trimS l ++ b ∧ a.all isBl = true ∧ b.all isBl = true := by
  obtain ⟨b, hb, hbp⟩ := dropWhile_suffix isBl l.reverse
  obtain ⟨a, ha, hap⟩ := dropWhile_suffix isBl (l.reverse.dropWhile isBl).reverse
  refine ⟨a, b.reverse, ?_, hap, by rw [List.all_reverse]; exact hbp⟩
  rw [trimS_eq, ← ha, ← List.reverse_append, ← hb, List.reverse_reverse]
/-! ### hexadecimal digits -/
theorem hexFrom_append (a : Nat) (l r : List UInt8) : hexFrom a (l ++ r) = (hexFrom a l).bind (fun m => hexFrom m r) := by
  induction l generalizing a with
  | nil => rfl
  | cons b l ih =>
    rw [List.cons_append, hexFrom, hexFrom]
    cases hexB b with
    | none => rfl
    | some d => exact ih _
theorem hexS_of (l : List UInt8) (n : Nat) (h0 : l ≠ []) (h4 : l.length ≤ 4) (h : hexFrom 0 l = some n) : hexS l = ((n : Int), true) := by
  unfold hexS
  have : l.length ≠ 0 := fun e => h0 (List.eq_nil_of_length_eq_zero e)
  rw [if_neg (by omega), h]
theorem hexS_long (l : List UInt8) (h4 : 4 < l.length) : hexS l = (0, false) := by
  unfold hexS
  rw [if_pos (.inr h4)]
end Go.Proofs.YtligofmhbbgalaaGreatDoor.L

/-! Layer 12, plain: a field's line, what is parsed and printed, what is found. No function of the program. -/
namespace Go.Proofs.YtligofmhbbgalaaGreatDoor.L
open Go.RowKit

/-- Cut at the first byte c. -/
def cutC (c : UInt8) : List UInt8 → List UInt8 × List UInt8 × Bool
  | [] => ([], [], false)
  | x :: r => if x = c then ([], r, true) else (x :: (cutC c r).1, (cutC c r).2.1, (cutC c r).2.2)
theorem cutC_cases (c : UInt8) (l : List UInt8) : (c ∉ l ∧ cutC c l = (l, [], false)) ∨ ∃ a b, l = a ++ c :: b ∧ c ∉ a ∧ cutC c l = (a, b, true) := by
  induction l with
  | nil => exact .inl ⟨by simp, rfl⟩
  | cons x r ih =>
    by_cases hx : x = c
    · subst hx
      exact .inr ⟨[], r, rfl, by simp, by rw [cutC, if_pos rfl]⟩
    · rcases ih with ⟨h1, h2⟩ | ⟨a, b, h1, h2, h3⟩
      · refine .inl ⟨?_, by rw [cutC, if_neg hx, h2]⟩
        rw [List.mem_cons, not_or]
        exact ⟨fun e => hx e.symm, h1⟩
      · refine .inr ⟨x :: a, b, by rw [h1]; rfl, ?_, by rw [cutC, if_neg hx, h3]⟩
        rw [List.mem_cons, not_or]
        exact ⟨fun e => hx e.symm, h2⟩
theorem occ_one (l : List UInt8) (c : UInt8) (i : Nat) : Lib.occAt l [c] i = decide (l[i]? = some c) := by
  unfold Lib.occAt
  cases h : l.drop i with
  | nil =>
    have hl : l.length ≤ i := by simpa using h
    rw [List.getElem?_eq_none hl]
    simp
  | cons y r =>
    have : l[i]? = some y := by
      have := congrArg (·[0]?) h
      simpa using this
    rw [this]
    simp [List.isPrefixOf, eq_comm]
    by_cases e : c = y
    · simp [e]
    · simp [e, fun h : y = c => e h.symm]
theorem index_one_no (l : List UInt8) (c : UInt8) (h : c ∉ l) : Lib.index l [c] = -1 :=
  Lib.index_none fun j _ => by
    rw [occ_one, decide_eq_false_iff_not]
    exact fun e => h (List.mem_of_getElem? e)
theorem index_one_at (a b : List UInt8) (c : UInt8) (h : c ∉ a) : Lib.index (a ++ c :: b) [c] = a.length := by
  refine Lib.index_first (i := a.length) (by simp) (by rw [occ_one]; simp) (fun j hj => ?_)
  rw [occ_one, decide_eq_false_iff_not, List.getElem?_append_left hj]
  exact fun e => h (List.mem_of_getElem? e)
/-- Which characters may not stand in a text. -/
def strR (r : Nat) : Bool := (decide (r < 32) && !decide (r = 9)) || decide (r = 127)
def anyS (p : Nat → Bool) (l : List UInt8) : Bool := l.any (fun b => p b.toNat)

/-- The field of a line, and what is wrong. -/
def parseF (l : List UInt8) : List UInt8 × List UInt8 × Int :=
  if (cutC 58 l).2.2 = true ∧ allS tokR (cutC 58 l).1 = true then
    (if anyS strR (cutC 58 l).2.1 = true then ([], [], 3) else (lowS (cutC 58 l).1, trimS (cutC 58 l).2.1, 0))
  else ([], [], 9)
/-- What is found of a name: the first one's text, and how many. -/
def findF (nm : List UInt8) : List (List UInt8 × List UInt8) → List UInt8 × Nat
  | [] => ([], 0)
  | x :: r => if x.1 = nm then (x.2, (findF nm r).2 + 1) else findF nm r
end Go.Proofs.YtligofmhbbgalaaGreatDoor.L

/-! Layer 11, plain: a request's line, authorities, forms. No function of the program. -/
namespace Go.Proofs.YtligofmhbbgalaaGreatDoor.L
open Go.RowKit

/-- Cut at all bytes c. -/
def splitC (c : UInt8) : List UInt8 → List (List UInt8)
  | [] => [[]]
  | x :: r => if x = c then [] :: splitC c r else match splitC c r with
    | y :: ys => (x :: y) :: ys
    | [] => [[x]]
theorem splitC_ne (c : UInt8) (l : List UInt8) : splitC c l ≠ [] := by
  cases l with
  | nil => simp [splitC]
  | cons x r =>
    rw [splitC]
    split
    · simp
    · split <;> simp
theorem splitC_no (c : UInt8) (l : List UInt8) (h : c ∉ l) : splitC c l = [l] := by
  induction l with
  | nil => rfl
  | cons x r ih =>
    rw [List.mem_cons, not_or] at h
    rw [splitC, if_neg (fun e => h.1 e.symm), ih h.2]
theorem splitC_at (c : UInt8) (a b : List UInt8) (h : c ∉ a) : splitC c (a ++ c :: b) = a :: splitC c b := by
  induction a with
  | nil => rw [List.nil_append, splitC, if_pos rfl]
  | cons x r ih =>
    rw [List.mem_cons, not_or] at h
    rw [List.cons_append, splitC, if_neg (fun e => h.1 e.symm), ih h.2]
theorem splitC_len (c : UInt8) (l : List UInt8) : (splitC c l).length = l.count c + 1 := by
  induction l with
  | nil => rfl
  | cons x r ih =>
    rw [splitC]
    split
    · rename_i h
      rw [h, List.count_cons_self, List.length_cons, ih]
    · rename_i h
      rw [List.count_cons_of_ne h]
      split
      · rename_i y ys hy
        rw [hy] at ih
        exact ih
      · rename_i hy
        exact absurd hy (splitC_ne c r)
/-- Joined by c. -/
def joinC (c : UInt8) : List (List UInt8) → List UInt8
  | [] => []
  | [x] => x
  | x :: y :: r => x ++ c :: joinC c (y :: r)
/-- The library's split at one byte. -/
theorem split_fuel (c : UInt8) (k : Nat) (l : List UInt8) (h : l.count c ≤ k) : Lib.splitK [c] 0 k l = splitC c l := by
  induction k generalizing l with
  | zero =>
    have h0 : c ∉ l := fun hm => by have := List.count_pos_iff.2 hm; omega
    rw [splitC_no c l h0]
    rfl
  | succ k ih =>
    unfold Lib.splitK
    rcases cutC_cases c l with ⟨h1, -⟩ | ⟨a, b, rfl, h2, -⟩
    · rw [index_one_no l c h1, if_pos (by decide), splitC_no c l h1]
    · rw [index_one_at a b c h2, splitC_at c a b h2, if_neg (by rw [beq_iff_eq]; omega)]
      have hb : b.count c ≤ k := by
        rw [List.count_append, List.count_cons_self] at h
        omega
      have e1 : (a ++ c :: b).drop (((a.length : Int)).toNat + [c].length) = b := by simp
      have e2 : (a ++ c :: b).take (((a.length : Int)).toNat + 0) = a := by simp
      rw [e1, e2, ih b hb]
theorem count_one (l : List UInt8) (c : UInt8) (k : Nat) (h : l.length < k) : Lib.countFrom [c] k l = l.count c := by
  induction k generalizing l with
  | zero => omega
  | succ k ih =>
    unfold Lib.countFrom
    rcases cutC_cases c l with ⟨h1, -⟩ | ⟨a, b, rfl, h2, -⟩
    · rw [index_one_no l c h1, if_pos (by decide), List.count_eq_zero.2 h1]
    · rw [index_one_at a b c h2, if_neg (by rw [beq_iff_eq]; omega)]
      have e1 : (a ++ c :: b).drop (((a.length : Int)).toNat + [c].length) = b := by simp
      rw [e1, ih b (by simp at h; omega), List.count_append, List.count_cons_self, List.count_eq_zero.2 h2]
      omega
theorem split_one (l : List UInt8) (c : UInt8) : Lib.split l [c] = splitC c l :=
  split_fuel c _ l (by
    unfold Lib.count
    rw [count_one l c _ (by omega)]
    exact Nat.le_refl _)

def olderL : List UInt8 := [72, 84, 84, 80, 47, 49, 46, 48]
def newerL : List UInt8 := [72, 84, 84, 80, 47, 49, 46, 49]
def httpL : List UInt8 := [104, 116, 116, 112, 58, 47, 47]
def connectL : List UInt8 := [67, 79, 78, 78, 69, 67, 84]
/-- What is wrong of a method and a target. -/
def wrongS (m t : List UInt8) : Int := if allS tokR m = false ∨ 32 < m.length then 11 else if allS visR t = false then 3 else if 8000 < t.length then 6 else 0
structure Rq where
  m : List UInt8
  t : List UInt8
  n : Int
deriving DecidableEq
def Rq.none : Rq := ⟨[], [], 0⟩
/-- The request of three parts. -/
def threeS (m t v : List UInt8) : Rq × Int := if wrongS m t ≠ 0 then (Rq.none, wrongS m t) else if v = olderL then (⟨m, t, 0⟩, 0) else if v = newerL then (⟨m, t, 1⟩, 0) else (Rq.none, 5)
def parseRq (l : List UInt8) : Rq × Int := match splitC 32 l with
  | [m, t, v] => threeS m t v
  | _ => (Rq.none, 3)
def okRq (r : Rq) : Prop := (r.n = 0 ∨ r.n = 1) ∧ wrongS r.m r.t = 0
instance (r : Rq) : Decidable (okRq r) := by unfold okRq; infer_instance
theorem wrong_parts {m t : List UInt8} (h : wrongS m t = 0) : allS tokR m = true ∧ m.length ≤ 32 ∧ allS visR t = true ∧ t.length ≤ 8000 := by
  unfold wrongS at h
  split at h
  · cases h
  · rename_i h1
    split at h
    · cases h
    · rename_i h2
      split at h
      · cases h
      · rename_i h3
        rw [not_or] at h1
        exact ⟨by simpa using h1.1, by omega, by simpa using h2, by omega⟩
/-- Up to the first of / ? #. -/
def isEnd (c : UInt8) : Bool := c == 47 || c == 63 || c == 35
def uptoEnd (l : List UInt8) : List UInt8 := l.takeWhile (fun c => !isEnd c)
/-- What stands behind a scheme. -/
def authS (l : List UInt8) : List UInt8 × Bool := if 7 ≤ l.length ∧ lowS (l.take 7) = httpL then (uptoEnd (l.drop 7), true) else ([], false)
/-- The form of a request's target. -/
def formS (m t : List UInt8) : Int := if m = connectL then 4 else if t = [42] then 3 else if t[0]? = some 47 then 1 else if (authS t).2 = true then 2 else 0
end Go.Proofs.YtligofmhbbgalaaGreatDoor.L

/-! Layer 13, plain: texts of addresses, and that an address is read as it was printed. No function of the program. -/
namespace Go.Proofs.YtligofmhbbgalaaGreatDoor.L
open Go.RowKit

/-- One number of a dotted text. -/
def octS (l : List UInt8) : Option UInt8 := if (numS l 255).2 = true then some (UInt8.ofNat (numS l 255).1.toNat) else none
def octsA (acc : List UInt8) : List (List UInt8) → Option (List UInt8)
  | [] => some acc
  | x :: r => match octS x with
    | some b => octsA (acc ++ [b]) r
    | none => none
/-- Four numbers. -/
def dotS (l : List UInt8) : Option (List UInt8) := if (splitC 46 l).length = 4 then octsA [] (splitC 46 l) else none
/-- One group: two bytes, or four. -/
def grpS (may : Bool) (x : List UInt8) : Option (List UInt8) :=
  if (hexS x).2 = true then some [UInt8.ofNat ((hexS x).1.toNat / 256), UInt8.ofNat ((hexS x).1.toNat % 256)] else if may = true then dotS x else none
def grpsA (may : Bool) (acc : List UInt8) : List (List UInt8) → Option (List UInt8)
  | [] => some acc
  | x :: r => match grpS (may && r.isEmpty) x with
    | some b => grpsA may (acc ++ b) r
    | none => none
/-- A row of groups. -/
def readS (may : Bool) (l : List UInt8) : Option (List UInt8) := if l = [] then some [] else grpsA may [] (splitC 58 l)
/-- What stands ahead of, and behind the first two colons. -/
def gapS : List UInt8 → Option (List UInt8 × List UInt8)
  | [] => none
  | c :: r => if c = 58 ∧ r[0]? = some 58 then some ([], r.drop 1) else match gapS r with
    | some (x, y) => some (c :: x, y)
    | none => none
def zerosL (n : Nat) : List UInt8 := List.replicate n 0
def aheadL : List UInt8 := [0, 0, 0, 0, 0, 0, 0, 0, 0, 0, 255, 255]
/-- The address of a text. -/
def parseA (l : List UInt8) : Option (List UInt8) :=
  match dotS l with
  | some d => some (aheadL ++ d)
  | none => match gapS l with
    | none => match readS true l with
      | some b => if b.length = 16 then some b else none
      | none => none
    | some (x, y) => match readS false x, readS true y with
      | some a, some b => if a.length + b.length ≤ 14 then some (a ++ zerosL (16 - a.length - b.length) ++ b) else none
      | _, _ => none

/-! ### printed -/
def hxC (d : Nat) : UInt8 := if d < 10 then UInt8.ofNat (48 + d) else UInt8.ofNat (87 + d)
def hxT (n : Nat) : List UInt8 := if h : n < 16 then [hxC n] else hxT (n / 16) ++ [hxC (n % 16)]
termination_by n
decreasing_by omega
/-- The groups of an address. -/
def pairsN : List UInt8 → List Nat
  | a :: b :: r => (256 * a.toNat + b.toNat) :: pairsN r
  | _ => []
def bytesN : List Nat → List UInt8
  | [] => []
  | n :: r => UInt8.ofNat (n / 256) :: UInt8.ofNat (n % 256) :: bytesN r
/-- How many zeros stand ahead. -/
def zrun : List Nat → Nat
  | 0 :: r => zrun r + 1
  | _ => 0
/-- The longest row of zeros from k on: (from, n), of more than n. -/
def rowA (k from_ n : Nat) : List Nat → Nat × Nat
  | [] => (from_, n)
  | x :: r => if n < zrun (x :: r) then rowA (k + 1) k (zrun (x :: r)) r else rowA (k + 1) from_ n r
def rowS (l : List Nat) : Nat × Nat := rowA 0 8 1 l
def joinH (l : List Nat) : List UInt8 := joinC 58 (l.map hxT)
def fourB (a : List UInt8) : Bool := decide (a.take 12 = aheadL)
def print6 (l : List Nat) : List UInt8 := if (rowS l).1 = 8 then joinH l else joinH (l.take (rowS l).1) ++ [58, 58] ++ joinH (l.drop ((rowS l).1 + (rowS l).2))
def print4 (l : List UInt8) : List UInt8 := joinC 46 (l.map fun c => Lib.decDigits c.toNat)
def printA (a : List UInt8) : List UInt8 := if fourB a = true then print4 (a.drop 12) else print6 (pairsN a)

/-! ### a group is read as it was printed -/
theorem hxT_len (n k : Nat) (h : n < 16 ^ (k + 1)) : (hxT n).length ≤ k + 1 := by
  induction k generalizing n with
  | zero =>
    rw [hxT, dif_pos (by omega)]
    simp
  | succ k ih =>
    rw [hxT]
    split
    · simp
    · have := ih (n / 16) (by rw [Nat.pow_succ] at h; omega)
      simp
      omega
theorem bytesN_pairsN (a : List UInt8) (k : Nat) (h : a.length = 2 * k) : bytesN (pairsN a) = a ∧ (pairsN a).length = k ∧ ∀ n ∈ pairsN a, n < 65536 := by
  induction k generalizing a with
  | zero =>
    have : a = [] := List.length_eq_zero_iff.1 (by omega)
    rw [this]
    exact ⟨rfl, rfl, fun n hn => by cases hn⟩
  | succ k ih =>
    match a, h with
    | x :: y :: r, h =>
      obtain ⟨h1, h2, h3⟩ := ih r (by simp at h; omega)
      have hx := UInt8.toNat_lt x
      have hy := UInt8.toNat_lt y
      refine ⟨?_, by rw [pairsN, List.length_cons, h2], ?_⟩
      · rw [pairsN, bytesN, h1]
        have e1 : (256 * x.toNat + y.toNat) / 256 = x.toNat := by omega
        have e2 : (256 * x.toNat + y.toNat) % 256 = y.toNat := by omega
        rw [e1, e2, UInt8.ofNat_toNat, UInt8.ofNat_toNat]
      · intro n hn
        rcases List.mem_cons.1 hn with rfl | hn
        · omega
        · exact h3 n hn
    | [x], h => simp at h; omega
    | [], h => simp at h
/-! ### the longest row -/
theorem zrun_le (l : List Nat) : zrun l ≤ l.length ∧ l.take (zrun l) = List.replicate (zrun l) 0 := by
  induction l with
  | nil => exact ⟨Nat.le_refl _, rfl⟩
  | cons x r ih =>
    cases x with
    | zero =>
      rw [zrun]
      refine ⟨by simp; exact ih.1, ?_⟩
      rw [List.take_succ_cons, ih.2, List.replicate_succ]
    | succ x => exact ⟨Nat.zero_le _, rfl⟩
theorem rowA_is (L l : List Nat) (k f n : Nat) (hl : l = L.drop k) (hk : k ≤ L.length) (h : f = L.length ∨ (f + n ≤ L.length ∧ f < L.length ∧ 2 ≤ n ∧ (L.drop f).take n = List.replicate n 0)) (h1 : 1 ≤ n) :
    ∃ f' n', rowA k f n l = (f', n') ∧ (f' = L.length ∨ (f' + n' ≤ L.length ∧ f' < L.length ∧ 2 ≤ n' ∧ (L.drop f').take n' = List.replicate n' 0)) := by
  induction l generalizing k f n with
  | nil => exact ⟨f, n, rfl, h⟩
  | cons x r ih =>
    have hkl : k < L.length := by
      have := congrArg List.length hl
      rw [List.length_drop, List.length_cons] at this
      omega
    have hr : r = L.drop (k + 1) := by
      rw [List.drop_eq_getElem_cons hkl] at hl
      exact (List.cons.inj hl).2
    rw [rowA]
    split
    · rename_i hz
      obtain ⟨z1, z2⟩ := zrun_le (x :: r)
      refine ih (k + 1) k _ hr hkl (Or.inr ⟨?_, hkl, by omega, by rw [← hl]; exact z2⟩) (by omega)
      have := congrArg List.length hl
      rw [List.length_drop] at this
      omega
    · exact ih (k + 1) f n hr hkl h h1
theorem rowS_is (l : List Nat) (h : l.length = 8) : (rowS l).1 = 8 ∨ ((rowS l).1 + (rowS l).2 ≤ 8 ∧ (rowS l).1 < 8 ∧ 2 ≤ (rowS l).2 ∧ (l.drop (rowS l).1).take (rowS l).2 = List.replicate (rowS l).2 0) := by
  obtain ⟨f, n, hr, hh⟩ := rowA_is l l 0 8 1 rfl (Nat.zero_le _) (Or.inl h.symm) (Nat.le_refl _)
  unfold rowS
  rw [hr]
  rw [h] at hh
  exact hh

/-! ### no gap but the one -/
theorem gapS_no (l : List UInt8) (h : ∀ j : Nat, l[j]? = some 58 → l[j + 1]? ≠ some 58) : gapS l = none := by
  induction l with
  | nil => rfl
  | cons c r ih =>
    rw [gapS, if_neg, ih (fun j hj => h (j + 1) (by simpa using hj))]
    rintro ⟨rfl, h2⟩
    exact h 0 rfl (by simpa using h2)
end Go.Proofs.YtligofmhbbgalaaGreatDoor.L

/-! Layer 13, plain: authorities. No function of the program. -/
namespace Go.Proofs.YtligofmhbbgalaaGreatDoor.L
open Go.RowKit

/-- What is ahead of the first c, and what is from there on. -/
def untilC (c : UInt8) : List UInt8 → List UInt8 × List UInt8
  | [] => ([], [])
  | x :: r => if x = c then ([], x :: r) else (x :: (untilC c r).1, (untilC c r).2)
theorem untilC_no (c : UInt8) (l : List UInt8) (h : c ∉ l) : untilC c l = (l, []) := by
  induction l with
  | nil => rfl
  | cons x r ih =>
    rw [List.mem_cons, not_or] at h
    rw [untilC, if_neg (fun e => h.1 e.symm), ih h.2]
theorem untilC_at (c : UInt8) (a b : List UInt8) (h : c ∉ a) : untilC c (a ++ c :: b) = (a, c :: b) := by
  induction a with
  | nil => rw [List.nil_append, untilC, if_pos rfl]
  | cons x r ih =>
    rw [List.mem_cons, not_or] at h
    rw [List.cons_append, untilC, if_neg (fun e => h.1 e.symm), ih h.2]
theorem untilC_cases (c : UInt8) (l : List UInt8) : (c ∉ l ∧ untilC c l = (l, [])) ∨ ∃ a b, l = a ++ c :: b ∧ c ∉ a ∧ untilC c l = (a, c :: b) := by
  rcases cutC_cases c l with ⟨h, -⟩ | ⟨a, b, rfl, h, -⟩
  · exact Or.inl ⟨h, untilC_no c l h⟩
  · exact Or.inr ⟨a, b, rfl, h, untilC_at c a b h⟩

/-- A host, and what is behind it. -/
def splitH (s : List UInt8) : List UInt8 × List UInt8 × Int :=
  if s = [] ∨ s[0]? = some 58 then ([], [], 8)
  else if allS visR s = false ∨ (64 : UInt8) ∈ s then ([], [], 3)
  else if s[0]? ≠ some 91 then ((untilC 58 s).1, (untilC 58 s).2, 0)
  else match parseA (untilC 93 (s.drop 1)).1 with
    | some a => if (untilC 93 (s.drop 1)).2 = [] ∨ (58 : UInt8) ∉ (untilC 93 (s.drop 1)).1 then ([], [], 3) else (printA a, (untilC 93 (s.drop 1)).2.drop 1, 0)
    | none => ([], [], 3)
/-- A host, and a port. -/
def tailH (h r : List UInt8) : List UInt8 × Int × Int :=
  if r = [] then (h, 0, 0) else if r[0]? ≠ some 58 then ([], 0, 3) else if (numS (r.drop 1) 65535).2 = false ∨ (numS (r.drop 1) 65535).1 = 0 then ([], 0, 10) else (h, (numS (r.drop 1) 65535).1, 0)
def hpS (s : List UInt8) : List UInt8 × Int × Int :=
  if (splitH s).2.2 ≠ 0 then ([], 0, (splitH s).2.2) else tailH (splitH s).1 (splitH s).2.1
def hostL : List UInt8 := [104, 111, 115, 116]
def ofS (m t : List UInt8) (xs : List (List UInt8 × List UInt8)) : List UInt8 × Int × Int :=
  if formS m t = 4 then ([], 0, 11) else if formS m t = 0 then ([], 0, 3) else if 1 < (findF hostL xs).2 then ([], 0, 7)
  else if formS m t = 2 then hpS (authS t).1 else if (findF hostL xs).2 = 0 then ([], 0, 8) else hpS (findF hostL xs).1

/-! ### addresses have sixteen bytes -/
theorem octsA_len (acc : List UInt8) (xs : List (List UInt8)) (b : List UInt8) (h : octsA acc xs = some b) : b.length = acc.length + xs.length := by
  induction xs generalizing acc with
  | nil =>
    rw [octsA] at h
    injection h with h
    rw [h]
    rfl
  | cons x r ih =>
    rw [octsA] at h
    split at h
    · rename_i c hc
      have := ih _ h
      simp at this ⊢
      omega
    · cases h
theorem dotS_len (l b : List UInt8) (h : dotS l = some b) : b.length = 4 := by
  unfold dotS at h
  split at h
  · rename_i h4
    rw [octsA_len _ _ _ h, h4]
    rfl
  · cases h
/-! ### what hosts are -/
theorem numS_pos (l : List UInt8) (most : Int) (h : (numS l most).2 = true) : ∃ n : Nat, (numS l most).1 = n ∧ (n : Int) ≤ most := by
  unfold numS at h ⊢
  split at h
  · rename_i n hn
    split at h
    · rename_i hc
      exact ⟨n, by rw [if_pos hc], hc.2.2⟩
    · cases h
  · cases h
end Go.Proofs.YtligofmhbbgalaaGreatDoor.L

/-! Layer 13, plain: the document's ways to read and print an address come to the same. No function of the program. -/
namespace Go.Proofs.YtligofmhbbgalaaGreatDoor.L
open Go.RowKit

theorem join_joinC (c : UInt8) (xs : List (List UInt8)) : Lib.join xs [c] = joinC c xs := by
  unfold Lib.join
  induction xs with
  | nil => rfl
  | cons x r ih =>
    cases r with
    | nil => simp [List.intercalate, joinC]
    | cons y r =>
      rw [joinC, ← ih]
      simp [List.intercalate]
/-! ### a second gap -/
theorem grps_gap (may : Bool) (n : Nat) (y acc : List UInt8) (hn : y.length ≤ n) (j : Nat) (h1 : (58 :: y)[j]? = some 58) (h2 : (58 :: y)[j + 1]? = some 58) : grpsA may acc (splitC 58 y) = none := by
  induction n generalizing y acc j with
  | zero =>
    have : y = [] := List.length_eq_zero_iff.1 (by omega)
    subst this
    simp at h2
  | succ n ih =>
    rcases untilC_cases 58 y with ⟨hno, -⟩ | ⟨a, b, rfl, hno, -⟩
    · rw [List.getElem?_cons_succ] at h2
      exact absurd (List.mem_of_getElem? h2) hno
    · rw [splitC_at 58 a b hno, grpsA]
      have hne : (splitC 58 b).isEmpty = false := by
        cases hs : splitC 58 b with
        | nil => exact absurd hs (splitC_ne 58 b)
        | cons x r => rfl
      rw [hne, Bool.and_false]
      cases a with
      | nil => rfl
      | cons c r =>
        split
        · rename_i x hx
          rw [List.getElem?_cons_succ] at h2
          have hj : (c :: r).length < j := by
            by_cases hlt : j < (c :: r).length
            · rw [List.getElem?_append_left hlt] at h2
              exact absurd (List.mem_of_getElem? h2) hno
            · by_cases he : j = (c :: r).length
              · rw [he, List.length_cons, List.getElem?_cons_succ, List.getElem?_append_left (by simp)] at h1
                exact absurd (List.mem_of_getElem? h1) hno
              · omega
          refine ih b _ (by simp at hn; omega) (j - (c :: r).length - 1) ?_ ?_
          · obtain ⟨m, hm⟩ : ∃ m, j = (c :: r).length + 1 + m := ⟨j - (c :: r).length - 1, by omega⟩
            rw [show j - (c :: r).length - 1 = m by omega]
            rw [hm, show (c :: r).length + 1 + m = ((c :: r).length + m) + 1 by omega, List.getElem?_cons_succ, List.getElem?_append_right (by omega), show (c :: r).length + m - (c :: r).length = m by omega] at h1
            exact h1
          · obtain ⟨m, hm⟩ : ∃ m, j = (c :: r).length + 1 + m := ⟨j - (c :: r).length - 1, by omega⟩
            rw [show j - (c :: r).length - 1 = m by omega]
            rw [hm, List.getElem?_append_right (by omega), show (c :: r).length + 1 + m - (c :: r).length = m + 1 by omega] at h2
            exact h2
        · rfl
theorem gapS_inv (l x y : List UInt8) (h : gapS l = some (x, y)) : l = x ++ [58, 58] ++ y := by
  induction l generalizing x with
  | nil => cases h
  | cons c r ih =>
    rw [gapS] at h
    split at h
    · rename_i hc
      injection h with h
      injection h with e1 e2
      cases r with
      | nil => simp at hc
      | cons d r =>
        simp at hc
        rw [← e1, ← e2, hc.1, hc.2]
        rfl
    · split at h
      · rename_i x' y' hx
        injection h with h
        injection h with e1 e2
        have := ih x' (by rw [hx, e2])
        rw [← e1, this]
        simp
      · cases h
/-- Where the first gap is. -/
theorem gapS_none (l : List UInt8) (h : ∀ j : Nat, j + 1 < l.length → ¬ (l[j]? = some 58 ∧ l[j + 1]? = some 58)) : gapS l = none :=
  gapS_no l fun j h1 h2 => h j (List.getElem?_eq_some_iff.1 h2).1 ⟨h1, h2⟩
theorem gapS_first (l : List UInt8) (k : Nat) (h : ∀ j : Nat, j < k → ¬ (l[j]? = some 58 ∧ l[j + 1]? = some 58)) (h1 : l[k]? = some 58) (h2 : l[k + 1]? = some 58) : gapS l = some (l.take k, l.drop (k + 2)) := by
  induction k generalizing l with
  | zero =>
    match l, h1, h2 with
    | c :: r, h1, h2 =>
      rw [gapS, if_pos ⟨by simpa using h1, by simpa using h2⟩]
      rw [List.take_zero, List.drop_succ_cons]
  | succ k ih =>
    match l, h1, h2 with
    | c :: r, h1, h2 =>
      rw [gapS, if_neg (fun hh => h 0 (by omega) ⟨by simpa using hh.1, by simpa using hh.2⟩), ih r (fun j hj hh => h (j + 1) (by omega) (by simpa using hh)) (by simpa using h1) (by simpa using h2)]
      simp
theorem parse_gap2 (l : List UInt8) (k j : Nat) (hd : dotS l = none) (h : ∀ j : Nat, j < k → ¬ (l[j]? = some 58 ∧ l[j + 1]? = some 58)) (h1 : l[k]? = some 58) (h2 : l[k + 1]? = some 58)
    (hj : k < j) (h3 : l[j]? = some 58) (h4 : l[j + 1]? = some 58) : parseA l = none := by
  unfold parseA
  rw [hd, gapS_first l k h h1 h2]
  simp only
  have hr : readS true (l.drop (k + 2)) = none := by
    have hne : l.drop (k + 2) ≠ [] := fun e => by
      have := congrArg List.length e
      have := (List.getElem?_eq_some_iff.1 h4).1
      simp at *
      omega
    unfold readS
    rw [if_neg hne]
    have he : 58 :: l.drop (k + 2) = l.drop (k + 1) := by
      rw [List.drop_eq_getElem_cons (List.getElem?_eq_some_iff.1 h2).1, (List.getElem?_eq_some_iff.1 h2).2]
    refine grps_gap true _ _ [] (Nat.le_refl _) (j - k - 1) ?_ ?_
    · rw [he, List.getElem?_drop, show k + 1 + (j - k - 1) = j by omega]
      exact h3
    · rw [he, List.getElem?_drop, show k + 1 + (j - k - 1 + 1) = j + 1 by omega]
      exact h4
  rw [hr]
  split <;> simp_all
/-! ### the longest row, another way -/
theorem rowA_two (l : List Nat) (k f1 n1 f2 n2 : Nat) (h : (n1 ≤ 1 ∧ f2 = 8 ∧ n2 = 1) ∨ (2 ≤ n1 ∧ f1 = f2 ∧ n1 = n2)) :
    ((rowA k f1 n1 l).2 ≤ 1 ∧ rowA k f2 n2 l = (8, 1)) ∨ (2 ≤ (rowA k f1 n1 l).2 ∧ rowA k f1 n1 l = rowA k f2 n2 l) := by
  induction l generalizing k f1 n1 f2 n2 with
  | nil =>
    rcases h with ⟨h1, rfl, rfl⟩ | ⟨h1, rfl, rfl⟩
    · exact Or.inl ⟨h1, rfl⟩
    · exact Or.inr ⟨h1, rfl⟩
  | cons x r ih =>
    rw [rowA, rowA]
    rcases h with ⟨h1, rfl, rfl⟩ | ⟨h1, rfl, rfl⟩
    · by_cases hz : 1 < zrun (x :: r)
      · rw [if_pos hz, if_pos (by omega)]
        exact ih _ _ _ _ _ (Or.inr ⟨by omega, rfl, rfl⟩)
      · rw [if_neg hz]
        split
        · exact ih _ _ _ _ _ (Or.inl ⟨by omega, rfl, rfl⟩)
        · exact ih _ _ _ _ _ (Or.inl ⟨h1, rfl, rfl⟩)
    · split
      · exact ih _ _ _ _ _ (Or.inr ⟨by omega, rfl, rfl⟩)
      · exact ih _ _ _ _ _ (Or.inr ⟨h1, rfl, rfl⟩)
def rowR (l : List Nat) : Nat × Nat := if (rowA 0 0 0 l).2 < 2 then (8, 0) else rowA 0 0 0 l
theorem rowR_is (l : List Nat) : (rowR l = (8, 0) ∧ rowS l = (8, 1)) ∨ (2 ≤ (rowR l).2 ∧ rowR l = rowS l) := by
  unfold rowR rowS
  rcases rowA_two l 0 0 0 8 1 (Or.inl ⟨by omega, rfl, rfl⟩) with ⟨h1, h2⟩ | ⟨h1, h2⟩
  · rw [if_pos (by omega)]
    exact Or.inl ⟨rfl, h2⟩
  · rw [if_neg (by omega)]
    exact Or.inr ⟨h1, h2⟩
theorem joinH_snoc (xs : List Nat) (n : Nat) : joinH (xs ++ [n]) = if xs = [] then hxT n else joinH xs ++ 58 :: hxT n := by
  induction xs with
  | nil => rfl
  | cons x r ih =>
    rw [if_neg (by simp)]
    cases r with
    | nil => rfl
    | cons y r =>
      rw [if_neg (by simp)] at ih
      show hxT x ++ 58 :: joinH (y :: r ++ [n]) = (hxT x ++ 58 :: joinH (y :: r)) ++ 58 :: hxT n
      rw [ih]
      simp
/-- What is printed up to k. -/
def uptoP (l : List Nat) (f m k : Nat) : List UInt8 := if k ≤ f then joinH (l.take k) else joinH (l.take f) ++ [58, 58] ++ joinH ((l.take k).drop (f + m))
theorem uptoP_end (l : List Nat) (h : l.length = 8) : uptoP l (rowR l).1 (rowR l).2 8 = print6 l := by
  have hs := rowS_is l h
  unfold uptoP print6
  rcases rowR_is l with ⟨h1, h2⟩ | ⟨h1, h2⟩
  · rw [h1, h2, if_pos (Nat.le_refl 8), if_pos rfl, List.take_of_length_le (by omega)]
  · rw [h2] at h1 ⊢
    by_cases h8 : (rowS l).1 = 8
    · rw [if_pos h8, h8, if_pos (Nat.le_refl 8), List.take_of_length_le (by omega)]
    · rcases hs with hs | hs
      · exact absurd hs h8
      · rw [if_neg h8, if_neg (by omega), List.take_of_length_le (l := l) (i := 8) (by omega)]
theorem take_succ_at (l : List Nat) (k : Nat) (h : k < l.length) : l.take (k + 1) = l.take k ++ [l[k]] := by
  rw [List.take_add_one, List.getElem?_eq_getElem h]
  rfl
theorem uptoP_step (l : List Nat) (f m k : Nat) (h : k < l.length) (hfm : (f = l.length ∧ m = 0) ∨ 1 ≤ m) (hle : f + m ≤ l.length) :
    (k < f → uptoP l f m (k + 1) = (if 0 < k then uptoP l f m k ++ [58] else uptoP l f m k) ++ hxT l[k]) ∧
    (k = f → uptoP l f m (k + 1) = uptoP l f m k ++ [58, 58]) ∧
    (f < k → k < f + m → uptoP l f m (k + 1) = uptoP l f m k) ∧
    (f < k → k = f + m → uptoP l f m (k + 1) = uptoP l f m k ++ hxT l[k]) ∧
    (f + m < k → uptoP l f m (k + 1) = uptoP l f m k ++ [58] ++ hxT l[k]) := by
  unfold uptoP
  refine ⟨fun h1 => ?_, fun h1 => ?_, fun h1 h2 => ?_, fun h1 h2 => ?_, fun h1 => ?_⟩
  · rw [if_pos (show k + 1 ≤ f by omega), if_pos (show k ≤ f by omega), take_succ_at l k h, joinH_snoc]
    by_cases hk : 0 < k
    · rw [if_neg (c := List.take k l = []), if_pos hk]
      · simp
      · intro e
        have := congrArg List.length e
        rw [List.length_take, List.length_nil] at this
        omega
    · have : k = 0 := by omega
      subst this
      rfl
  · subst h1
    rw [if_neg (by omega), if_pos (Nat.le_refl _), List.drop_eq_nil_of_le (by simp; omega)]
    simp [joinH, joinC]
  · rw [if_neg (by omega), if_neg (by omega), List.drop_eq_nil_of_le (by simp; omega), List.drop_eq_nil_of_le (by simp; omega)]
  · rw [if_neg (by omega), if_neg (by omega), take_succ_at l k h, List.drop_append_of_le_length (by simp; omega), joinH_snoc, @List.drop_eq_nil_of_le _ (l.take k) _ (by simp; omega), if_pos rfl]
    simp [joinH, joinC]
  · rw [if_neg (by omega), if_neg (by omega), take_succ_at l k h, List.drop_append_of_le_length (by simp; omega), joinH_snoc, if_neg]
    · simp
    · intro e
      have := congrArg List.length e
      rw [List.length_drop, List.length_take, List.length_nil] at this
      omega
end Go.Proofs.YtligofmhbbgalaaGreatDoor.L

/- Layer 14, plain: the one form of a name. No function of the program. -/
namespace Go.Proofs.YtligofmhbbgalaaGreatDoor.L
open Go.RowKit

/-- No digit. -/
def othR (r : Nat) : Bool := decide (r < 48) || decide (57 < r)
/-- What may not stand in a label. -/
def badR (r : Nat) : Bool := !((decide (97 ≤ r) && decide (r ≤ 122)) || (decide (65 ≤ r) && decide (r ≤ 90)) || decide (r = 45) || decide (r = 95)) && othR r
theorem othR_high (r : Nat) (h : 128 ≤ r) : othR r = true := by
  unfold othR
  simp
  omega
theorem badR_high (r : Nat) (h : 128 ≤ r) : badR r = true := by
  unfold badR othR
  simp
  omega
/-- A label that may not be. -/
def badL (l : List UInt8) : Bool := l.isEmpty || decide (63 < l.length) || anyS badR l || decide (l[0]? = some 45) || decide (l.getLast? = some 45)
/-- Without a dot at its end. -/
def undot (l : List UInt8) : List UInt8 := if l.getLast? = some 46 then l.dropLast else l
def lastC (l : List (List UInt8)) : List UInt8 := l.getLast?.getD []
def nameN (x : List UInt8) : List UInt8 × Int :=
  if x = [] then ([], 8) else if 253 < x.length then ([], 6) else if (splitC 46 x).any badL = true ∨ anyS othR (lastC (splitC 46 x)) = false then ([], 9) else (x, 0)
/-- The one form of a name. -/
def normN (l : List UInt8) : List UInt8 × Int := match parseA l with
  | some a => (printA a, 0)
  | none => nameN (undot (lowS l))

theorem undot_trim (l : List UInt8) : Lib.trimSuffix l [46] = undot l := by
  unfold Lib.trimSuffix undot Lib.hasSuffix
  rcases List.eq_nil_or_concat l with rfl | ⟨a, c, rfl⟩
  · rfl
  · rw [List.concat_eq_append, List.getLast?_concat, List.dropLast_concat]
    by_cases hc : c = 46
    · subst hc
      rw [if_pos (by rw [List.isSuffixOf_iff_suffix]; exact ⟨a, rfl⟩), if_pos rfl]
      simp
    · have : ¬ (List.isSuffixOf [46] (a ++ [c])) = true := by
        rw [List.isSuffixOf_iff_suffix]
        rintro ⟨b, hb⟩
        have := (List.append_inj' hb rfl).2
        injection this with this
        exact hc this.symm
      rw [if_neg this, if_neg (by simpa using hc)]
theorem undot_len (l : List UInt8) : (undot l).length ≤ l.length := by
  unfold undot
  split
  · simp
  · exact Nat.le_refl _
end Go.Proofs.YtligofmhbbgalaaGreatDoor.L

/-! Layer 16, plain: the head of a request, byte by byte. No function of the program. -/
namespace Go.Proofs.YtligofmhbbgalaaGreatDoor.L
open Go.RowKit

/-- What is known: the state, why not, the host, the port. -/
structure Vd where
  st : Int
  rs : Int
  ho : List UInt8
  po : Int
deriving DecidableEq
def Vd.open_ : Vd := ⟨0, 0, [], 0⟩
def Vd.bad (e : Int) : Vd := ⟨2, e, [], 0⟩
/-- What came, of a head. -/
structure Hs where
  line : List UInt8
  back : Bool
  first : Bool
  rq : Rq
  fs : List (List UInt8 × List UInt8)
def Hs.new : Hs := ⟨[], false, false, Rq.none, []⟩
def judgeH (r : Rq) (fs : List (List UInt8 × List UInt8)) : Vd :=
  if (ofS r.m r.t fs).2.2 ≠ 0 then .bad (ofS r.m r.t fs).2.2
  else if (normN (ofS r.m r.t fs).1).2 ≠ 0 then .bad (normN (ofS r.m r.t fs).1).2
  else ⟨1, 0, (normN (ofS r.m r.t fs).1).1, (ofS r.m r.t fs).2.1⟩
/-- A line came. -/
def lineH2 (s : Hs) : Hs × Vd :=
  if s.first = false then (⟨[], false, true, (parseRq s.line).1, s.fs⟩, if (parseRq s.line).2 = 0 then .open_ else .bad (parseRq s.line).2)
  else if s.line = [] then (⟨[], false, true, s.rq, s.fs⟩, judgeH s.rq s.fs)
  else if (parseF s.line).2.2 ≠ 0 then (⟨[], false, true, s.rq, s.fs⟩, .bad (parseF s.line).2.2)
  else if s.fs.length = 100 then (⟨[], false, true, s.rq, s.fs⟩, .bad 2)
  else (⟨[], false, true, s.rq, s.fs ++ [((parseF s.line).1, (parseF s.line).2.1)]⟩, .open_)
/-- A byte came. -/
def stepH (s : Hs) (c : UInt8) : Hs × Vd :=
  if s.back = true ∧ c = 10 then lineH2 s
  else if s.back = true ∨ c = 10 then (s, .bad 3)
  else if c = 13 then (⟨s.line, true, s.first, s.rq, s.fs⟩, .open_)
  else (⟨s.line ++ [c], s.back, s.first, s.rq, s.fs⟩, .open_)
/-- All bytes: what is known, and of how many. -/
def runH (s : Hs) (u : Nat) : List UInt8 → Vd × Nat
  | [] => (.open_, u)
  | c :: r => if (stepH s c).2.st = 0 then runH (stepH s c).1 (u + 1) r else ((stepH s c).2, u + 1)
def allH (b : List UInt8) : Vd × Nat := runH .new 0 b

theorem run_cons (s : Hs) (u : Nat) (c : UInt8) (r : List UInt8) : runH s u (c :: r) = if (stepH s c).2.st = 0 then runH (stepH s c).1 (u + 1) r else ((stepH s c).2, u + 1) := rfl
end Go.Proofs.YtligofmhbbgalaaGreatDoor.L

/-! Layer 16, plain: heads of right lines, and the document's way. No function of the program. -/
namespace Go.Proofs.YtligofmhbbgalaaGreatDoor.L
open Go.RowKit

/-! ### as many fields as there may be -/
/-! ### the document's way -/
/-- What the document holds at byte i: the line that it stands in begins at from_. -/
structure RefH (b : List UInt8) (i from_ : Nat) (s : Hs) : Prop where
  all : allH b = runH s i (b.drop i)
  le : from_ ≤ i
  pend : (b.take i).drop from_ = s.line ++ (if s.back = true then [13] else [])
  cr : (13 : UInt8) ∉ s.line
theorem RefH.zero (b : List UInt8) : RefH b 0 0 .new := ⟨rfl, Nat.le_refl _, rfl, by simp [Hs.new]⟩
theorem drop_cons' (b : List UInt8) (i : Nat) (h : i < b.length) : b.drop i = b[i] :: b.drop (i + 1) := List.drop_eq_getElem_cons h
theorem RefH.len {b : List UInt8} {i f : Nat} {s : Hs} (h : RefH b i f s) (hi : i ≤ b.length) : i = f + s.line.length + (if s.back = true then 1 else 0) := by
  have := congrArg List.length h.pend
  have hl := h.le
  rw [List.length_drop, List.length_take, List.length_append] at this
  split
  · rename_i hb
    rw [if_pos hb] at this
    simp at this
    omega
  · rename_i hb
    rw [if_neg hb] at this
    simp at this
    omega
/-- Whether the byte ahead of this one is a carriage return of this line. -/
theorem RefH.back {b : List UInt8} {i f : Nat} {s : Hs} (h : RefH b i f s) (hi : i ≤ b.length) : (f < i ∧ b[i - 1]? = some 13) ↔ s.back = true := by
  have hl := h.len hi
  have hp := h.pend
  have hlast : f < i → b[i - 1]? = ((b.take i).drop f)[i - 1 - f]? := by
    intro hlt
    rw [List.getElem?_drop, List.getElem?_take, if_pos (by omega)]
    congr 1
    omega
  constructor
  · rintro ⟨h1, h2⟩
    rw [hlast h1, hp] at h2
    cases hb : s.back with
    | true => rfl
    | false =>
      rw [hb] at h2
      simp at h2
      exact absurd (List.mem_of_getElem? h2) h.cr
  · intro hb
    rw [if_pos hb] at hl hp
    have h1 : f < i := by omega
    refine ⟨h1, ?_⟩
    rw [hlast h1, hp, List.getElem?_append_right (by omega), show i - 1 - f - s.line.length = 0 by omega]
    rfl
theorem RefH.next {b : List UInt8} {i f : Nat} {s : Hs} (h : RefH b i f s) (hi : i < b.length) (h0 : (stepH s b[i]).2.st = 0) (hn : ¬ (s.back = true ∧ b[i] = 10)) : RefH b (i + 1) f (stepH s b[i]).1 := by
  have hall := h.all
  have hr : allH b = runH (stepH s b[i]).1 (i + 1) (b.drop (i + 1)) := by
    rw [hall, drop_cons' b i hi, run_cons, if_pos h0]
  have hp := h.pend
  have hle := h.le
  have e : (b.take (i + 1)).drop f = (b.take i).drop f ++ [b[i]] := by
    rw [List.take_succ_eq_append_getElem hi, List.drop_append_of_le_length (by simp; omega)]
  refine ⟨hr, by omega, ?_, ?_⟩
  · rw [e, hp]
    revert h0
    unfold stepH
    rw [if_neg hn]
    split
    · intro h0
      cases h0
    · rename_i h2
      have hb : s.back = false := by
        cases hb : s.back with
        | true => exact absurd (Or.inl hb) h2
        | false => rfl
      split
      · rename_i h13
        intro _
        rw [hb, h13]
        simp
      · intro _
        rw [hb]
        simp
  · revert h0
    unfold stepH
    rw [if_neg hn]
    split
    · intro h0
      cases h0
    · split
      · intro _
        exact h.cr
      · rename_i h13
        intro _
        simp only [List.mem_append, List.mem_singleton, not_or]
        exact ⟨h.cr, fun e => h13 e.symm⟩
theorem line2_fresh (s : Hs) : (lineH2 s).1.line = [] ∧ (lineH2 s).1.back = false ∧ (lineH2 s).1.first = true := by
  unfold lineH2
  split
  · exact ⟨rfl, rfl, rfl⟩
  · split
    · exact ⟨rfl, rfl, rfl⟩
    · split
      · exact ⟨rfl, rfl, rfl⟩
      · split
        · exact ⟨rfl, rfl, rfl⟩
        · exact ⟨rfl, rfl, rfl⟩
theorem RefH.line {b : List UInt8} {i f : Nat} {s : Hs} (h : RefH b i f s) (hi : i < b.length) (hb : s.back = true) (hc : b[i] = 10) : (b.take (i - 1)).drop f = s.line ∧ stepH s b[i] = lineH2 s ∧ ((lineH2 s).2.st = 0 → RefH b (i + 1) (i + 1) (lineH2 s).1) := by
  have hp := h.pend
  have hl := h.len (Nat.le_of_lt hi)
  have hst : stepH s b[i] = lineH2 s := by
    unfold stepH
    rw [if_pos ⟨hb, hc⟩]
  rw [if_pos hb] at hp hl
  refine ⟨?_, hst, ?_⟩
  · have e : b.take (i - 1) = (b.take i).take (i - 1) := by
      rw [List.take_take, Nat.min_eq_left (by omega)]
    rw [e, List.drop_take, hp, show i - 1 - f = s.line.length by omega, List.take_left]
  · intro h0
    obtain ⟨f1, f2, f3⟩ := line2_fresh s
    refine ⟨?_, Nat.le_refl _, ?_, by rw [f1]; simp⟩
    · rw [h.all, drop_cons' b i hi, run_cons, hst, if_pos h0]
    · rw [f1, f2]
      simp
/-- Its answer where it is known by this byte. -/
theorem RefH.known {b : List UInt8} {i f : Nat} {s : Hs} (h : RefH b i f s) (hi : i < b.length) (h0 : (stepH s b[i]).2.st ≠ 0) : allH b = ((stepH s b[i]).2, i + 1) := by
  rw [h.all, drop_cons' b i hi, run_cons, if_neg h0]
/-! ### one by one -/
/-! ### sizes -/
structure HsOk (s : Hs) (u : Nat) : Prop where
  line : s.line.length ≤ u
  rq : s.rq.t.length ≤ 8000
  fs : s.fs.length ≤ 100
  tx : ∀ x ∈ s.fs, x.1.length ≤ u ∧ x.2.length ≤ u
theorem HsOk.new : HsOk .new 0 := ⟨Nat.le_refl _, by decide, by decide, fun x h => by cases h⟩
theorem parseRq_len (l : List UInt8) : (parseRq l).1.t.length ≤ 8000 := by
  unfold parseRq
  split
  · rename_i m t v _
    unfold threeS
    by_cases hw : wrongS m t = 0
    · rw [if_neg (by rw [hw]; decide)]
      obtain ⟨-, -, -, h⟩ := wrong_parts hw
      split
      · exact h
      · split
        · exact h
        · exact Nat.zero_le _
    · rw [if_pos hw]
      exact Nat.zero_le _
  · exact Nat.zero_le _
theorem parseF_len (l : List UInt8) : (parseF l).1.length ≤ l.length ∧ (parseF l).2.1.length ≤ l.length := by
  have hc : (cutC 58 l).1.length ≤ l.length ∧ (cutC 58 l).2.1.length ≤ l.length := by
    rcases cutC_cases 58 l with ⟨_, h⟩ | ⟨a, b, rfl, _, h⟩
    · rw [h]
      exact ⟨Nat.le_refl _, Nat.zero_le _⟩
    · rw [h]
      simp
      omega
  unfold parseF
  split
  · split
    · exact ⟨Nat.zero_le _, Nat.zero_le _⟩
    · obtain ⟨a, b, h, -, -⟩ := trim_parts (cutC 58 l).2.1
      have h2 := congrArg List.length h
      simp only [List.length_append] at h2
      refine ⟨by rw [lowS_len]; exact hc.1, ?_⟩
      show (trimS (cutC 58 l).2.1).length ≤ l.length
      omega
  · exact ⟨Nat.zero_le _, Nat.zero_le _⟩
theorem HsOk.step {s : Hs} {u : Nat} (h : HsOk s u) (c : UInt8) : HsOk (stepH s c).1 (u + 1) := by
  have hl := h.line
  have ht : ∀ x ∈ s.fs, x.1.length ≤ u + 1 ∧ x.2.length ≤ u + 1 := fun x hx => by
    have := h.tx x hx
    omega
  unfold stepH
  split
  · unfold lineH2
    split
    · exact ⟨Nat.zero_le _, parseRq_len _, h.fs, ht⟩
    · split
      · exact ⟨Nat.zero_le _, h.rq, h.fs, ht⟩
      · split
        · exact ⟨Nat.zero_le _, h.rq, h.fs, ht⟩
        · split
          · exact ⟨Nat.zero_le _, h.rq, h.fs, ht⟩
          · rename_i h100
            have hp := parseF_len s.line
            have hf := h.fs
            refine ⟨Nat.zero_le _, h.rq, by simp; omega, ?_⟩
            intro x hx
            rcases List.mem_append.1 hx with hx | hx
            · exact ht x hx
            · rw [List.mem_singleton.1 hx]
              exact ⟨by have := hp.1; simp only; omega, by have := hp.2; simp only; omega⟩
  · split
    · exact ⟨Nat.le_succ_of_le hl, h.rq, h.fs, ht⟩
    · split
      · exact ⟨Nat.le_succ_of_le hl, h.rq, h.fs, ht⟩
      · exact ⟨by simp; omega, h.rq, h.fs, ht⟩
end Go.Proofs.YtligofmhbbgalaaGreatDoor.L

/- Layer 15, plain: a hello, byte by byte. No function of the program. -/
namespace Go.Proofs.YtligofmhbbgalaaGreatDoor.L
open Go.RowKit

/-- What takes records apart: which byte of a record comes, how many of its payload are left, the error. -/
structure Df where
  nx : Nat
  left : Nat
  err : Int
def Df.new : Df := ⟨0, 0, 0⟩
def headD (d : Df) (c : UInt8) : Df :=
  if d.nx = 0 then (if c = 22 then ⟨1, d.left, 0⟩ else ⟨0, d.left, 4⟩)
  else if d.nx = 1 then (if c = 3 then ⟨2, d.left, 0⟩ else ⟨1, d.left, 5⟩)
  else if d.nx = 2 then (if c.toNat ≤ 4 then ⟨3, d.left, 0⟩ else ⟨2, d.left, 5⟩)
  else if d.nx = 3 then (if c.toNat * 256 ≤ 16384 then ⟨4, c.toNat * 256, 0⟩ else ⟨3, c.toNat * 256, 6⟩)
  else if 0 < d.left + c.toNat ∧ d.left + c.toNat ≤ 16384 then ⟨5, d.left + c.toNat, 0⟩ else ⟨4, d.left + c.toNat, 6⟩
/-- A byte of records: is it one of a payload? -/
def takeD (d : Df) (c : UInt8) : Df × Bool × Int :=
  if d.err ≠ 0 then (d, false, d.err) else if d.nx < 5 then (headD d c, false, (headD d c).err) else (⟨if d.left = 1 then 0 else 5, d.left - 1, 0⟩, true, 0)
/-- The size of a message, as far as it came. -/
def msz (b : List UInt8) : Nat := beNum ((b.take 4).drop 1)
/-- A byte of a message: is it whole then? -/
def takeM (b : List UInt8) (c : UInt8) : List UInt8 × Bool × Int :=
  if b = [] then ([c], false, if c = 1 then 0 else 4)
  else if b.length < 4 ∧ 16384 < msz (b ++ [c]) * 256 ^ (3 - b.length) then (b ++ [c], false, 6)
  else (b ++ [c], decide (4 ≤ (b ++ [c]).length ∧ (b ++ [c]).length = 4 + msz (b ++ [c])), 0)
/-- What is known. -/
structure Vt where
  st : Int
  rs : Int
  ho : List UInt8
  sn : Sn
def Vt.open_ : Vt := ⟨0, 0, [], .zero⟩
def Vt.bad (e : Int) : Vt := ⟨2, e, [], .zero⟩
def judgeT (b : List UInt8) : Vt :=
  if (parseS b).2 ≠ 0 then .bad (parseS b).2
  else if (seeS (parseS b).1.exs).2 ≠ 0 then .bad (seeS (parseS b).1.exs).2
  else if (seeS (parseS b).1.exs).1.has = false then ⟨1, 0, [], (seeS (parseS b).1.exs).1⟩
  else if (normN (seeS (parseS b).1.exs).1.name.data.toList).2 ≠ 0 then .bad (normN (seeS (parseS b).1.exs).1.name.data.toList).2
  else ⟨1, 0, (normN (seeS (parseS b).1.exs).1.name.data.toList).1, (seeS (parseS b).1.exs).1⟩
/-- A byte came. -/
def stepT (t : Df × List UInt8) (c : UInt8) : (Df × List UInt8) × Vt :=
  if (takeD t.1 c).2.2 ≠ 0 then (((takeD t.1 c).1, t.2), .bad (takeD t.1 c).2.2)
  else if (takeD t.1 c).2.1 = false then (((takeD t.1 c).1, t.2), .open_)
  else if (takeM t.2 c).2.2 ≠ 0 then (((takeD t.1 c).1, (takeM t.2 c).1), .bad (takeM t.2 c).2.2)
  else if (takeM t.2 c).2.1 = false then (((takeD t.1 c).1, (takeM t.2 c).1), .open_)
  else (((takeD t.1 c).1, (takeM t.2 c).1), judgeT ((takeM t.2 c).1.drop 4))
end Go.Proofs.YtligofmhbbgalaaGreatDoor.L
