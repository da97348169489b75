/- Layer 11: the reference's parser. -/
import Derived.Test.YtdamgdmipfoalaaDoorRx
set_option linter.unusedVariables false
set_option linter.unusedSimpArgs false
namespace Go.Proofs.YtdamgdmipfoalaaDoor.L
open Go.RowKit Go.Proofs

theorem three_key (a b c : ByteArray) (r : Rq × Int) (hr : r = threeS a.data.toList b.data.toList c.data.toList) (T V : Bool) (hT : T = allS tokR a.data.toList) (hV : V = allS visR b.data.toList) :
    (T = false ∧ r = (Rq.none, 11)) ∨ (T = true ∧ decide ((32 : Int) < (a.size : Int)) = true ∧ r = (Rq.none, 11)) ∨ (T = true ∧ decide ((32 : Int) < (a.size : Int)) = false ∧ V = false ∧ r = (Rq.none, 3)) ∨
    (T = true ∧ decide ((32 : Int) < (a.size : Int)) = false ∧ V = true ∧ decide ((8000 : Int) < (b.size : Int)) = true ∧ r = (Rq.none, 6)) ∨
    (T = true ∧ decide ((32 : Int) < (a.size : Int)) = false ∧ V = true ∧ decide ((8000 : Int) < (b.size : Int)) = false ∧ (c.toList == olderL) = true ∧ r = (⟨a.data.toList, b.data.toList, 0⟩, 0)) ∨
    (T = true ∧ decide ((32 : Int) < (a.size : Int)) = false ∧ V = true ∧ decide ((8000 : Int) < (b.size : Int)) = false ∧ (c.toList == olderL) = false ∧ (c.toList == newerL) = true ∧ r = (⟨a.data.toList, b.data.toList, 1⟩, 0)) ∨
    (T = true ∧ decide ((32 : Int) < (a.size : Int)) = false ∧ V = true ∧ decide ((8000 : Int) < (b.size : Int)) = false ∧ (c.toList == olderL) = false ∧ (c.toList == newerL) = false ∧ r = (Rq.none, 5)) := by
  have d32 : decide ((32 : Int) < (a.size : Int)) = decide (32 < a.data.toList.length) := by
    rw [size_list]
    by_cases h : 32 < a.size
    · rw [decide_eq_true h, decide_eq_true (by omega)]
    · rw [decide_eq_false h, decide_eq_false (by omega)]
  have d80 : decide ((8000 : Int) < (b.size : Int)) = decide (8000 < b.data.toList.length) := by
    rw [size_list]
    by_cases h : 8000 < b.size
    · rw [decide_eq_true h, decide_eq_true (by omega)]
    · rw [decide_eq_false h, decide_eq_false (by omega)]
  rw [d32, d80, list_eqb, list_eqb]
  unfold threeS wrongS at hr
  rw [← hT, ← hV] at hr
  clear d32 d80 hT hV
  generalize a.data.toList.length = x at hr ⊢
  generalize b.data.toList.length = y at hr ⊢
  cases T
  · exact .inl ⟨rfl, by simpa using hr⟩
  · by_cases h1 : 32 < x
    · exact .inr (.inl ⟨rfl, decide_eq_true h1, by simpa [h1] using hr⟩)
    · cases V
      · exact .inr (.inr (.inl ⟨rfl, decide_eq_false h1, rfl, by simpa [h1] using hr⟩))
      · by_cases h2 : 8000 < y
        · exact .inr (.inr (.inr (.inl ⟨rfl, decide_eq_false h1, rfl, decide_eq_true h2, by simpa [h1, h2] using hr⟩)))
        · by_cases h3 : c.data.toList = olderL
          · exact .inr (.inr (.inr (.inr (.inl ⟨rfl, decide_eq_false h1, rfl, decide_eq_false h2, decide_eq_true h3, by simpa [h1, h2, h3] using hr⟩))))
          · by_cases h4 : c.data.toList = newerL
            · exact .inr (.inr (.inr (.inr (.inr (.inl ⟨rfl, decide_eq_false h1, rfl, decide_eq_false h2, decide_eq_false h3, decide_eq_true h4, by rw [hr]; simp [h1, h2, h3, h4]; decide⟩)))))
            · exact .inr (.inr (.inr (.inr (.inr (.inr ⟨rfl, decide_eq_false h1, rfl, decide_eq_false h2, decide_eq_false h3, decide_eq_false h4, by simpa [h1, h2, h3, h4] using hr⟩)))))

end Go.Proofs.YtdamgdmipfoalaaDoor.L
