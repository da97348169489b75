/- Layer 2, plain: letters, digits, signs; what a string's runes are. No function of the program. -/
import Derived.Test.YtdamgdmipfoalaaGreatDoorOps
import Derived.Lib.DecodeN
import Derived.Lib.ItoaNum
import Derived.Lib.Atoi
import Derived.Lib.SlTrimSet
import Derived.Laws.RangeString
set_option linter.unusedVariables false
set_option linter.unusedSimpArgs false
namespace Go.Proofs.YtdamgdmipfoalaaGreatDoor.L
open Go.RowKit

/-- A byte's small letter. -/
def lowB (c : UInt8) : UInt8 := if 65 ≤ c.toNat ∧ c.toNat ≤ 90 then UInt8.ofNat (c.toNat + 32) else c
def lowS (l : List UInt8) : List UInt8 := l.map lowB
/-- Runes that are digits, visible, of tokens. -/
def digR (r : Nat) : Bool := decide (48 ≤ r) && decide (r ≤ 57)
def visR (r : Nat) : Bool := decide (32 < r) && decide (r ≤ 126)
def signsL : List UInt8 := [33, 35, 36, 37, 38, 39, 42, 43, 45, 46, 94, 95, 96, 124, 126]
def tokR (r : Nat) : Bool := (decide (97 ≤ r) && decide (r ≤ 122)) || (decide (65 ≤ r) && decide (r ≤ 90)) || digR r || (decide (r < 128) && signsL.contains (UInt8.ofNat r))
/-- Not empty, and all bytes are so. -/
def allS (p : Nat → Bool) (l : List UInt8) : Bool := l.all (fun b => p b.toNat) && !l.isEmpty

theorem digR_high (r : Nat) (h : 128 ≤ r) : digR r = false := by
  unfold digR
  rw [show decide (r ≤ 57) = false by simpa using by omega, Bool.and_false]
theorem visR_high (r : Nat) (h : 128 ≤ r) : visR r = false := by
  unfold visR
  rw [show decide (r ≤ 126) = false by simpa using by omega, Bool.and_false]
theorem tokR_high (r : Nat) (h : 128 ≤ r) : tokR r = false := by
  unfold tokR
  rw [digR_high r h, show decide (r ≤ 122) = false by simpa using by omega, show decide (r ≤ 90) = false by simpa using by omega, show decide (r < 128) = false by simpa using by omega]
  simp

theorem get_bang (s : ByteArray) (i : Nat) (h : i < s.size) : s.get! i = s[i] := by
  simp [ByteArray.get!, getElem!_pos, h]
  rfl
theorem get_list (s : ByteArray) (i : Nat) (h : i < s.size) : s.data.toList[i]? = some s[i] := by
  rw [List.getElem?_eq_getElem (by simpa using h)]
  rfl
theorem size_list (s : ByteArray) : s.data.toList.length = s.size := by simp
theorem decode_low (s : ByteArray) (i : Nat) (h : i < s.size) (ha : (s[i]).toNat < 128) : Utf8.decode s i = ((s[i]).toNat, 1) := decode_ascii s i h ha
theorem decodeN_high (n b0 b1 b2 b3 : Nat) (h0 : 128 ≤ b0) (h1 : b0 < 256) : 128 ≤ (Lib.decodeN n b0 b1 b2 b3).1 ∧ 1 ≤ (Lib.decodeN n b0 b1 b2 b3).2 ∧
    (1 < (Lib.decodeN n b0 b1 b2 b3).2 → 1 < n ∧ 128 ≤ b1) ∧ (2 < (Lib.decodeN n b0 b1 b2 b3).2 → 2 < n ∧ 128 ≤ b2) ∧ (3 < (Lib.decodeN n b0 b1 b2 b3).2 → 3 < n ∧ 128 ≤ b3) ∧ (Lib.decodeN n b0 b1 b2 b3).2 ≤ 4 := by
  unfold Lib.decodeN
  repeat' split
  all_goals (refine ⟨?_, ?_, ?_, ?_, ?_, ?_⟩ <;> simp only <;> omega)
theorem decode_high (s : ByteArray) (i : Nat) (h : i < s.size) (ha : ¬ (s[i]).toNat < 128) : 128 ≤ (Utf8.decode s i).1 := by
  rw [Lib.decode_at]
  exact (decodeN_high _ _ _ _ _ (by rw [get_bang s i h]; omega) (UInt8.toNat_lt _)).1
/-- The bytes of a rune that is not of ASCII are not of ASCII. -/
theorem decode_bytes (s : ByteArray) (i : Nat) (h : i < s.size) (ha : ¬ (s[i]).toNat < 128) :
    i + (Utf8.decode s i).2 ≤ s.size ∧ ∀ j, i ≤ j → j < i + (Utf8.decode s i).2 → ∃ hj : j < s.size, 128 ≤ (s[j]).toNat := by
  rw [Lib.decode_at]
  obtain ⟨-, h1, h2, h3, h4, h5⟩ := decodeN_high (s.size - i) (s.get! i).toNat (s.get! (i + 1)).toNat (s.get! (i + 2)).toNat (s.get! (i + 3)).toNat (by rw [get_bang s i h]; omega) (UInt8.toNat_lt _)
  obtain ⟨K, hK⟩ : ∃ K, K = (Lib.decodeN (s.size - i) (s.get! i).toNat (s.get! (i + 1)).toNat (s.get! (i + 2)).toNat (s.get! (i + 3)).toNat).2 := ⟨_, rfl⟩
  rw [← hK] at h1 h2 h3 h4 h5 ⊢
  refine ⟨by omega, fun j hj hjk => ?_⟩
  have hjs : j < s.size := by omega
  refine ⟨hjs, ?_⟩
  rw [← get_bang s j hjs]
  by_cases e0 : j = i
  · subst e0
    rw [get_bang s j hjs]
    omega
  by_cases e1 : j = i + 1
  · subst e1
    omega
  by_cases e2 : j = i + 2
  · subst e2
    omega
  have e3 : j = i + 3 := by omega
  subst e3
  omega

/-! ### all -/
theorem all_drop_true {p : Nat → Bool} {l : List UInt8} {k : Nat} {b : UInt8} (h : l[k]? = some b) (hp : p b.toNat = true) : (l.drop k).all (fun b => p b.toNat) = (l.drop (k + 1)).all (fun b => p b.toNat) := by
  obtain ⟨hk, rfl⟩ := List.getElem?_eq_some_iff.1 h
  rw [List.drop_eq_getElem_cons hk, List.all_cons, hp, Bool.true_and]
theorem all_drop_false {p : Nat → Bool} {l : List UInt8} {k : Nat} {b : UInt8} (h : l[k]? = some b) (hp : p b.toNat = false) : l.all (fun b => p b.toNat) = false := by
  rw [List.all_eq_false]
  exact ⟨b, List.mem_of_getElem? h, by simpa using hp⟩

/-! ### what is not empty, and which runes come -/
theorem lowB_high (c : UInt8) (h : 128 ≤ c.toNat) : lowB c = c := by
  unfold lowB
  rw [if_neg (by omega)]
theorem lowB_low (c : UInt8) : lowB (lowB c) = lowB c := by
  unfold lowB
  split
  · rename_i h
    rw [if_neg]
    rw [UInt8.toNat_ofNat_of_lt' (by have : UInt8.size = 256 := rfl; omega)]
    omega
  · rfl
theorem lowS_lowS (l : List UInt8) : lowS (lowS l) = lowS l := by
  unfold lowS
  rw [List.map_map]
  exact List.map_congr_left fun c _ => lowB_low c
theorem lowS_len (l : List UInt8) : (lowS l).length = l.length := List.length_map ..
theorem lowS_append (a b : List UInt8) : lowS (a ++ b) = lowS a ++ lowS b := List.map_append
theorem lowB_nat (c : UInt8) : (lowB c).toNat = if 65 ≤ c.toNat ∧ c.toNat ≤ 90 then c.toNat + 32 else c.toNat := by
  unfold lowB
  split
  · rename_i h
    rw [UInt8.toNat_ofNat_of_lt' (by have : UInt8.size = 256 := rfl; omega)]
  · rfl

/-- A text's number: no zero ahead, at most 18 digits, not beyond most. -/
def numS (l : List UInt8) (most : Int) : Int × Bool :=
  match Lib.decNat l with
  | some n => if l.length ≤ 18 ∧ ¬ (1 < l.length ∧ l[0]? = some 48) ∧ (n : Int) ≤ most then ((n : Int), true) else (0, false)
  | none => (0, false)
/-- A hexadecimal digit's number. -/
def hexB (c : UInt8) : Option Nat := if 48 ≤ c.toNat ∧ c.toNat ≤ 57 then some (c.toNat - 48) else if 97 ≤ c.toNat ∧ c.toNat ≤ 102 then some (c.toNat - 87) else if 65 ≤ c.toNat ∧ c.toNat ≤ 70 then some (c.toNat - 55) else none
def hexFrom (a : Nat) : List UInt8 → Option Nat
  | [] => some a
  | c :: r => match hexB c with
    | some d => hexFrom (16 * a + d) r
    | none => none
def hexS (l : List UInt8) : Int × Bool :=
  if l.length = 0 ∨ 4 < l.length then (0, false) else match hexFrom 0 l with
  | some n => ((n : Int), true)
  | none => (0, false)
def blanksL : List UInt8 := [32, 9]
def trimS (l : List UInt8) : List UInt8 := Lib.trimS l blanksL
end Go.Proofs.YtdamgdmipfoalaaGreatDoor.L
