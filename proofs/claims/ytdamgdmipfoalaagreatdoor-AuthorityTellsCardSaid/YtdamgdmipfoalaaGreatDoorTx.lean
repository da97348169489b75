/- Layer 2: a number's text. -/
import Derived.Test.YtdamgdmipfoalaaGreatDoorAx
import Derived.Lib.ItoaLen
set_option linter.unusedVariables false
set_option linter.unusedSimpArgs false
namespace Go.Proofs.YtdamgdmipfoalaaGreatDoor.L
open Go.RowKit Go.Proofs

theorem strB_append (x y : List UInt8) : strB x ++ strB y = strB (x ++ y) := by
  apply ByteArray.ext
  simp [strB]
theorem strB_size (l : List UInt8) : (strB l).size = l.length := by simp [strB, ByteArray.size]
theorem digits10_at (n : Nat) (h : n < 10) : (⟨#[48, 49, 50, 51, 52, 53, 54, 55, 56, 57]⟩ : ByteArray).extract n (n + 1) = strB [UInt8.ofNat (48 + n)] := by
  match n, h with
  | 0, _ => rfl
  | 1, _ => rfl
  | 2, _ => rfl
  | 3, _ => rfl
  | 4, _ => rfl
  | 5, _ => rfl
  | 6, _ => rfl
  | 7, _ => rfl
  | 8, _ => rfl
  | 9, _ => rfl

set_option maxRecDepth 100000 in
set_option maxHeartbeats 4000000 in
theorem text_any (n : Nat) (w : World) (h : n ≤ 9223372036854775807) :
    Calls Tryz.prog 20 #[.int .i64 (n : Int)] w fun e w' => e = .returned (.string (strB (Lib.decDigits n))) ∧ w' = w := by
  induction n using Nat.strongRecOn generalizing w with
  | ind n ih =>
    obtain ⟨R, hR⟩ : ∃ R : ByteArray, R = strB (Lib.decDigits n) := ⟨_, rfl⟩
    rw [← hR]
    by_cases h10 : n < 10
    · have HR := Lib.hid (show R = (⟨#[48, 49, 50, 51, 52, 53, 54, 55, 56, 57]⟩ : ByteArray).extract n (n + 1) by rw [hR, digits10_at n h10, Lib.decDigits_one h10])
      clear hR ih
      go_enter Tryz.func20, Tryz.ntmps20
      go_wp2
      go_ret
      exact ⟨ret_s HR.out.symm, rfl⟩
    · have i1 := fun W => ih (n / 10) (by omega) W (by omega)
      have i2 := fun W => ih (n % 10) (by omega) W (by omega)
      have HR := Lib.hid (show R = strB (Lib.decDigits (n / 10)) ++ strB (Lib.decDigits (n % 10)) by
        rw [hR, strB_append, Lib.decDigits_one (show n % 10 < 10 by omega)]
        conv => lhs; rw [Lib.decDigits, dif_neg h10])
      obtain ⟨x, hx⟩ : ∃ x, x = strB (Lib.decDigits (n / 10)) := ⟨_, rfl⟩
      obtain ⟨y, hy⟩ : ∃ y, y = strB (Lib.decDigits (n % 10)) := ⟨_, rfl⟩
      rw [← hx] at i1 HR
      rw [← hy] at i2 HR
      have hxs : x.size ≤ 20 := by rw [hx, strB_size, Lib.decDigits_length]; exact Lib.nDigits_le20 _ (by omega)
      have hys : y.size ≤ 20 := by rw [hy, strB_size, Lib.decDigits_length]; exact Lib.nDigits_le20 _ (by omega)
      clear hR ih hx hy
      have e1 : ((n : Int) / 10) = ((n / 10 : Nat) : Int) := by omega
      have e2 : ((n : Int) % 10) = ((n % 10 : Nat) : Int) := by omega
      rw [← e1] at i1
      rw [← e2] at i2
      clear e1 e2
      go_enter Tryz.func20, Tryz.ntmps20
      go_wp2_with (go_at_call 20; refine stopc ?_)
      refine Stop.go ?_
      refine (i1 _).mono ?_
      rintro e w1 ⟨rfl, rfl⟩
      go_wp2_with (go_at_call 20; refine stopc ?_)
      refine Stop.go ?_
      refine (i2 _).mono ?_
      rintro e w2 ⟨rfl, rfl⟩
      go_wp2
      go_ret
      exact ⟨ret_s HR.out.symm, rfl⟩
end Go.Proofs.YtdamgdmipfoalaaGreatDoor.L
