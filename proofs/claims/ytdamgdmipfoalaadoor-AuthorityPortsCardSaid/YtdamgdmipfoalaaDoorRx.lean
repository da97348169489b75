/- Layer 11: the reference's cut at signs. -/
import Derived.Test.YtdamgdmipfoalaaDoorRw
set_option linter.unusedVariables false
set_option linter.unusedSimpArgs false
namespace Go.Proofs.YtdamgdmipfoalaaDoor.L
open Go.RowKit Go.Proofs

theorem info_string : (Tryd.prog.info? 9).map (fun i => (i.zero, i.size, i.bytes)) = some (some (.string ⟨#[]⟩), 1, 16) := by kernel_rfl
/-- x ahead of the first. -/
def glue (x : List UInt8) : List (List UInt8) → List (List UInt8)
  | [] => [x]
  | y :: ys => (x ++ y) :: ys
theorem glue_nil (l : List (List UInt8)) (h : l ≠ []) : glue [] l = l := by
  cases l with
  | nil => exact absurd rfl h
  | cons y ys => rfl
theorem glue_hit (x : List UInt8) (c : UInt8) (r : List UInt8) : glue x (splitC c (c :: r)) = x :: splitC c r := by
  rw [splitC, if_pos rfl]
  show (x ++ []) :: _ = _
  rw [List.append_nil]
theorem glue_miss (x : List UInt8) (c d : UInt8) (r : List UInt8) (h : d ≠ c) : glue x (splitC c (d :: r)) = glue (x ++ [d]) (splitC c r) := by
  rw [splitC, if_neg h]
  cases hs : splitC c r with
  | nil => exact absurd hs (splitC_ne c r)
  | cons y ys =>
    unfold glue
    simp
theorem drop_at (s : ByteArray) (k : Nat) (h : k < s.size) : s.data.toList.drop k = s[k] :: s.data.toList.drop (k + 1) := by
  have hl : k < s.data.toList.length := by rw [size_list]; exact h
  rw [List.drop_eq_getElem_cons hl]
  rfl

end Go.Proofs.YtdamgdmipfoalaaDoor.L
