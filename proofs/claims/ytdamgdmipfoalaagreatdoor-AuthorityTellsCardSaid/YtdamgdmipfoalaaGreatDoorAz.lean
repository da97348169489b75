/- Layer 2: the reference's Trim; numbers and their texts. -/
import Derived.Test.YtdamgdmipfoalaaGreatDoorAy
set_option linter.unusedVariables false
set_option linter.unusedSimpArgs false
namespace Go.Proofs.YtdamgdmipfoalaaGreatDoor.L
open Go.RowKit Go.Proofs

theorem trim_cut (l : List UInt8) (a b : Nat) (hab : a ≤ b) (hb : b ≤ l.length) (h1 : ∀ j c, j < a → l[j]? = some c → isBl c = true) (h2 : ∀ j c, b ≤ j → l[j]? = some c → isBl c = true)
    (h3 : a = b ∨ ((∀ c, l[a]? = some c → isBl c = false) ∧ ∀ c, l[b - 1]? = some c → isBl c = false)) : trimS l = (l.take b).drop a := by
  have e : l = (l.take a) ++ ((l.take b).drop a) ++ l.drop b := by
    conv => lhs; rw [← List.take_append_drop b l]
    congr 1
    conv => lhs; rw [← List.take_append_drop a (l.take b)]
    rw [List.take_take, Nat.min_eq_left hab]
  have ha : (l.take a).all isBl = true := by
    rw [List.all_eq_true]
    intro c hc
    obtain ⟨j, hj⟩ := List.mem_iff_getElem?.1 hc
    rw [List.getElem?_take] at hj
    split at hj
    · exact h1 j c ‹_› hj
    · cases hj
  have hbb : (l.drop b).all isBl = true := by
    rw [List.all_eq_true]
    intro c hc
    obtain ⟨j, hj⟩ := List.mem_iff_getElem?.1 hc
    rw [List.getElem?_drop] at hj
    exact h2 (b + j) c (by omega) hj
  conv => lhs; rw [e]
  rw [trim_wrap _ _ _ ha hbb]
  rcases h3 with rfl | ⟨h3, h4⟩
  · rw [List.drop_of_length_le (by rw [List.length_take]; omega)]
    rfl
  · by_cases hlt : a = b
    · subst hlt
      rw [List.drop_of_length_le (by rw [List.length_take]; omega)]
      rfl
    · refine trim_same _ (fun c hc => ?_) (fun c hc => ?_)
      · rw [List.getElem?_drop, List.getElem?_take, if_pos (by omega)] at hc
        exact h3 c (by simpa using hc)
      · rw [List.getElem?_reverse (by rw [List.length_drop, List.length_take]; omega)] at hc
        rw [List.length_drop, List.length_take, Nat.min_eq_left hb, List.getElem?_drop, List.getElem?_take, if_pos (by omega)] at hc
        refine h4 c ?_
        rw [← hc]
        congr 1
        omega
theorem bl_cases (c : UInt8) : (isBl c = true ∧ ((c.toNat : Int) == 32) = true) ∨ (isBl c = true ∧ ((c.toNat : Int) == 32) = false ∧ ((c.toNat : Int) == 9) = true) ∨ (isBl c = false ∧ ((c.toNat : Int) == 32) = false ∧ ((c.toNat : Int) == 9) = false) := by
  rw [isBl_iff]
  have h32 : (c == 32) = ((c.toNat : Int) == 32) := by
    rw [Bool.eq_iff_iff, beq_iff_eq, beq_iff_eq]
    constructor
    · rintro rfl; rfl
    · intro h; apply UInt8.toNat_inj.1; have e : (32 : UInt8).toNat = 32 := rfl; omega
  have h9 : (c == 9) = ((c.toNat : Int) == 9) := by
    rw [Bool.eq_iff_iff, beq_iff_eq, beq_iff_eq]
    constructor
    · rintro rfl; rfl
    · intro h; apply UInt8.toNat_inj.1; have e : (9 : UInt8).toNat = 9 := rfl; omega
  rw [h32, h9]
  cases h1 : ((c.toNat : Int) == 32) <;> cases h2 : ((c.toNat : Int) == 9) <;> simp
theorem extract_strB (s : ByteArray) (a b : Nat) : s.extract a b = strB ((s.data.toList.take b).drop a) := by
  rw [Lib.extract_eq]
  unfold strB
  rw [List.drop_take]

end Go.Proofs.YtdamgdmipfoalaaGreatDoor.L
