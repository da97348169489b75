/- Layer 12: the reference's parser; what is printed. -/
import Derived.Test.YtdamgdmipfoalaaGreatDoorAz
import Derived.Test.YtdamgdmipfoalaaGreatDoorFa
import Derived.IntWalk
set_option linter.unusedVariables false
set_option linter.unusedSimpArgs false
namespace Go.Proofs.YtdamgdmipfoalaaGreatDoor.L
open Go.RowKit Go.Proofs

theorem anyS_true {p : Nat → Bool} {s : ByteArray} {k : Nat} (hk : k < s.size) (h : p (s[k]).toNat = true) : anyS p s.data.toList = true := by
  unfold anyS
  rw [List.any_eq_true]
  exact ⟨s[k], List.mem_of_getElem? (get_list s k hk), h⟩
theorem anyS_false {p : Nat → Bool} {s : ByteArray} (h : ∀ k (hk : k < s.size), p (s[k]).toNat = false) : anyS p s.data.toList = false := by
  unfold anyS
  rw [List.any_eq_false]
  intro c hc
  obtain ⟨k, hk, rfl⟩ := List.mem_iff_getElem.1 hc
  rw [size_list] at hk
  have h' : p (s.data.toList[k]).toNat = false := h k hk
  exact fun e => by rw [h'] at e; cases e
theorem strR_cases (n : Nat) : (n < 32 ∧ n = 9 ∧ strR n = false) ∨ (n < 32 ∧ ((n : Int) != 9) = true ∧ strR n = true) ∨ (¬ n < 32 ∧ ((n : Int) == 127) = true ∧ strR n = true) ∨ (¬ n < 32 ∧ ((n : Int) == 127) = false ∧ strR n = false) := by
  unfold strR
  by_cases h : n < 32
  · by_cases h9 : n = 9
    · subst h9
      exact .inl ⟨by omega, rfl, rfl⟩
    · exact .inr (.inl ⟨h, by simp; omega, by simp [h, h9]⟩)
  · by_cases h127 : n = 127
    · subst h127
      exact .inr (.inr (.inl ⟨by omega, rfl, rfl⟩))
    · exact .inr (.inr (.inr ⟨h, by simp; omega, by simp [h, h127]⟩))

/-- A field, and what is wrong: as they are handed back. -/
def FieldV (r : List UInt8 × List UInt8 × Int) : Value := .tuple #[.agg #[.string (strB r.1), .string (strB r.2.1)], .int .i64 r.2.2]
def FBlk (g : Nat) (w : World) : Prop := ∃ a b : Value, w.heap[g]? = some (.cells #[a, b] 31 (0, 0))
theorem FBlk.step {g : Nat} {w w' : World} (h : FBlk g w) (hs : Stp (fun _ => False) w w') : FBlk g w' := by
  obtain ⟨a, b, h⟩ := h
  exact ⟨a, b, hs.blk h id⟩
theorem cut_no (c : UInt8) (s : ByteArray) (h : ∀ j (hj : j < s.size), s[j] ≠ c) : cutC c s.data.toList = (s.data.toList, [], false) :=
  cutC_no c _ fun hm => by
    obtain ⟨k, hk, he⟩ := List.mem_iff_getElem.1 hm
    rw [size_list] at hk
    exact h k hk he
theorem cut_at (c : UInt8) (s : ByteArray) (k : Nat) (hk : k < s.size) (h : ∀ j (hj : j < s.size), j < k → s[j] ≠ c) (hc : s[k] = c) : cutC c s.data.toList = (s.data.toList.take k, s.data.toList.drop (k + 1), true) := by
  have hl : k < s.data.toList.length := by rw [size_list]; exact hk
  have e : s.data.toList = s.data.toList.take k ++ c :: s.data.toList.drop (k + 1) := by
    conv => lhs; rw [← List.take_append_drop k s.data.toList]
    rw [List.drop_eq_getElem_cons hl]
    congr 2
  conv => lhs; rw [e]
  refine cutC_at c _ _ fun hm => ?_
  obtain ⟨j, hj⟩ := List.mem_iff_getElem?.1 hm
  rw [List.getElem?_take] at hj
  split at hj
  · have hjs : j < s.size := by omega
    rw [get_list s j hjs] at hj
    exact h j hjs ‹_› (Option.some.inj hj)
  · cases hj
theorem ext_upto (s : ByteArray) (k : Nat) : s.extract 0 k = strB (s.data.toList.take k) := by
  rw [extract_strB, List.drop_zero]
theorem ext_from (s : ByteArray) (k : Nat) : s.extract k s.size = strB (s.data.toList.drop k) := by
  rw [extract_strB, List.take_of_length_le (by rw [size_list]; exact Nat.le_refl _)]

end Go.Proofs.YtdamgdmipfoalaaGreatDoor.L
