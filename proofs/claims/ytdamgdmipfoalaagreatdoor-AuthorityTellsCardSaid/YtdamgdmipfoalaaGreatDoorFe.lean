/- Layer 12: the small case; the laws. -/
import Derived.Test.YtdamgdmipfoalaaGreatDoorFd
import Derived.Test.YtdamgdmipfoalaaGreatDoorOn
set_option linter.unusedVariables false
set_option linter.unusedSimpArgs false
namespace Go.Proofs.YtdamgdmipfoalaaGreatDoor.L
open Go.RowKit Go.Proofs

theorem Rd.litK {P : Program} {α : Type} {d : Kind α} {M : Nat → Prop} {W : World} {e : Nat} {fr : Nat × Nat} (xs : List α) (cs : Array Value) (hk : Laid d M (W.alloc (.cells cs e fr)) xs cs.toList) (hl : xs.length ≤ 9223372036854775807) (hM : ¬ M W.heap.size) :
    Rd d M (W.alloc (.cells cs e fr)) (.slice (some ⟨W.heap.size, 0, none⟩) xs.length xs.length) xs :=
  ⟨_, xs.length, rfl, Nat.le_refl _, by simpa [maxLen] using hl, fun _ => ⟨_, rfl, hM, fun j p hj => by
    obtain ⟨c, hK, hc⟩ := hk.at_ j p hj
    exact ⟨c, hK, fun i u hu => alloc_at _ _ _ _ _ _ (hc i u hu)⟩⟩⟩
theorem laid_fld (M : Nat → Prop) (W : World) (xs : List (ByteArray × ByteArray)) : Laid fldK M W xs (xs.flatMap fun x => [.string x.1, .string x.2]) := by
  induction xs with
  | nil => exact rfl
  | cons x xs ih => exact ⟨[.string x.1, .string x.2], _, rfl, ⟨[.string x.1], [.string x.2], rfl, rfl, rfl⟩, ih⟩
def TrueV (w : World) (e : Ending) (w' : World) : Prop := e = .returned (.bool true) ∧ Stp (fun _ => False) w w'
end Go.Proofs.YtdamgdmipfoalaaGreatDoor.L
