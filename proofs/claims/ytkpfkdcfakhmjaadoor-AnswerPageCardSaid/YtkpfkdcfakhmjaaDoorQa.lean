/- Layer 22: alerts, states: what is told. -/
import Derived.Test.YtkpfkdcfakhmjaaDoorBp
set_option linter.unusedVariables false
set_option linter.unusedSimpArgs false
namespace Go.Proofs.YtkpfkdcfakhmjaaDoor.L
open Go.RowKit Go.Proofs

/-- The alert of a reason and a why. -/
def alertS (r y : Int) : Int := if y = 2 then 112 else if y ≠ 4 then 49 else if r = 9 ∨ r = 8 then 112 else if r = 5 then 70 else if r = 2 ∨ r = 6 then 22 else 50
def statusS (y : Int) : Int := if y = 4 then 400 else 403
/-- A verdict's cells: of which protocol, why not. -/
def IsVd (cv : Array Value) (p r : Int) : Prop := ∃ hs : cv.size = 11, cv[1] = .int .i64 p ∧ cv[3] = .int .i64 r

set_option maxRecDepth 100000 in
set_option maxHeartbeats 4000000 in
theorem alert_any (cv : Array Value) (p r : Int) (a : Bool) (y u : Int) (w : World) (hv : IsVd cv p r) :
    Calls Tryd.prog 9 #[.agg cv, .agg #[.bool a, .int .i64 y, .int .i64 u]] w fun e w' => e = .returned (.int .i64 (alertS r y)) ∧ Stp (fun _ => False) w w' := by
  obtain ⟨hs, h1, h3⟩ := hv
  obtain ⟨q, hq⟩ : ∃ q, q = alertS r y := ⟨_, rfl⟩
  rw [← hq]
  have HQ := Lib.hid hq
  clear hq
  by_cases y2 : y = 2
  · have b2 : (y == 2) = true := by simpa using y2
    have HY := Lib.hid y2
    clear y2
    go_enter Tryd.func9, Tryd.ntmps9
    go_wp2
    go_ret
    exact ⟨by rw [HQ.out, HY.out]; rfl, ((Stp.refl _ _).alloc _).alloc _⟩
  · have b2 : (y == 2) = false := by simpa using y2
    by_cases y4 : y = 4
    · have b4 : (y != 4) = false := by simpa using y4
      obtain ⟨r9, e9⟩ : ∃ b : Bool, b = (r == 9) := ⟨_, rfl⟩
      obtain ⟨r8, e8⟩ : ∃ b : Bool, b = (r == 8) := ⟨_, rfl⟩
      obtain ⟨r5, e5⟩ : ∃ b : Bool, b = (r == 5) := ⟨_, rfl⟩
      obtain ⟨r2, e2⟩ : ∃ b : Bool, b = (r == 2) := ⟨_, rfl⟩
      obtain ⟨r6, e6⟩ : ∃ b : Bool, b = (r == 6) := ⟨_, rfl⟩
      have HE := Lib.hid (show q = if (r9 || r8) = true then 112 else if r5 = true then 70 else if (r2 || r6) = true then 22 else 50 by
        rw [HQ.out, e9, e8, e5, e2, e6]
        simp [alertS, y2, y4])
      have f9 := e9.symm
      have f8 := e8.symm
      have f5 := e5.symm
      have f2 := e2.symm
      have f6 := e6.symm
      clear e9 e8 e5 e2 e6 y2 y4
      cases r9 <;> cases r8 <;> cases r5 <;> cases r2 <;> cases r6 <;> (
        go_enter Tryd.func9, Tryd.ntmps9
        go_wp2
        go_ret
        exact ⟨by rw [HE.out]; rfl, ((Stp.refl _ _).alloc _).alloc _⟩)
    · have b4 : (y != 4) = true := by simpa using y4
      have HE := Lib.hid (show q = 49 by rw [HQ.out]; simp [alertS, y2, y4])
      clear y2 y4
      go_enter Tryd.func9, Tryd.ntmps9
      go_wp2
      go_ret
      exact ⟨by rw [HE.out]; rfl, ((Stp.refl _ _).alloc _).alloc _⟩
set_option maxRecDepth 100000 in
set_option maxHeartbeats 4000000 in
theorem alertR_any (cv : Array Value) (p r : Int) (a : Bool) (y u : Int) (w : World) (hv : IsVd cv p r) :
    Calls Tryd.prog 10 #[.agg cv, .agg #[.bool a, .int .i64 y, .int .i64 u]] w fun e w' => e = .returned (.int .i64 (alertS r y)) ∧ Stp (fun _ => False) w w' := by
  obtain ⟨hs, h1, h3⟩ := hv
  obtain ⟨q, hq⟩ : ∃ q, q = alertS r y := ⟨_, rfl⟩
  rw [← hq]
  have HQ := Lib.hid hq
  clear hq
  by_cases y2 : y = 2
  · have b2 : (y == 2) = true := by simpa using y2
    have HY := Lib.hid y2
    clear y2
    go_enter Tryd.func10, Tryd.ntmps10
    go_wp2
    go_ret
    exact ⟨by rw [HQ.out, HY.out]; rfl, ((Stp.refl _ _).alloc _).alloc _⟩
  · have b2 : (y == 2) = false := by simpa using y2
    by_cases y4 : y = 4
    · have b4 : (y != 4) = false := by simpa using y4
      obtain ⟨r9, e9⟩ : ∃ b : Bool, b = (r == 9) := ⟨_, rfl⟩
      obtain ⟨r8, e8⟩ : ∃ b : Bool, b = (r == 8) := ⟨_, rfl⟩
      obtain ⟨r5, e5⟩ : ∃ b : Bool, b = (r == 5) := ⟨_, rfl⟩
      obtain ⟨r2, e2⟩ : ∃ b : Bool, b = (r == 2) := ⟨_, rfl⟩
      obtain ⟨r6, e6⟩ : ∃ b : Bool, b = (r == 6) := ⟨_, rfl⟩
      have HE := Lib.hid (show q = if (r9 || r8) = true then 112 else if r5 = true then 70 else if (r2 || r6) = true then 22 else 50 by
        rw [HQ.out, e9, e8, e5, e2, e6]
        simp [alertS, y2, y4])
      have f9 := e9.symm
      have f8 := e8.symm
      have f5 := e5.symm
      have f2 := e2.symm
      have f6 := e6.symm
      clear e9 e8 e5 e2 e6 y2 y4
      cases r9 <;> cases r8 <;> cases r5 <;> cases r2 <;> cases r6 <;> (
        go_enter Tryd.func10, Tryd.ntmps10
        go_wp2
        go_ret
        exact ⟨by rw [HE.out]; rfl, ((Stp.refl _ _).alloc _).alloc _⟩)
    · have b4 : (y != 4) = true := by simpa using y4
      have HE := Lib.hid (show q = 49 by rw [HQ.out]; simp [alertS, y2, y4])
      clear y2 y4
      go_enter Tryd.func10, Tryd.ntmps10
      go_wp2
      go_ret
      exact ⟨by rw [HE.out]; rfl, ((Stp.refl _ _).alloc _).alloc _⟩

set_option maxHeartbeats 1000000 in
theorem status_any (a : Bool) (y u : Int) (w : World) :
    Calls Tryd.prog 11 #[.agg #[.bool a, .int .i64 y, .int .i64 u]] w fun e w' => e = .returned (.int .i64 (statusS y)) ∧ Stp (fun _ => False) w w' := by
  unfold statusS
  by_cases y4 : y = 4
  · have b4 : (y == 4) = true := by simpa using y4
    rw [if_pos y4]
    clear y4
    go_enter Tryd.func11, Tryd.ntmps11
    go_wp2
    go_ret
    exact ⟨rfl, (Stp.refl _ _).alloc _⟩
  · have b4 : (y == 4) = false := by simpa using y4
    rw [if_neg y4]
    clear y4
    go_enter Tryd.func11, Tryd.ntmps11
    go_wp2
    go_ret
    exact ⟨rfl, (Stp.refl _ _).alloc _⟩

set_option maxHeartbeats 1000000 in
theorem statusR_any (a : Bool) (y u : Int) (w : World) :
    Calls Tryd.prog 12 #[.agg #[.bool a, .int .i64 y, .int .i64 u]] w fun e w' => e = .returned (.int .i64 (statusS y)) ∧ Stp (fun _ => False) w w' := by
  unfold statusS
  by_cases y4 : y = 4
  · have b4 : (y == 4) = true := by simpa using y4
    rw [if_pos y4]
    clear y4
    go_enter Tryd.func12, Tryd.ntmps12
    go_wp2
    go_ret
    exact ⟨rfl, (Stp.refl _ _).alloc _⟩
  · have b4 : (y == 4) = false := by simpa using y4
    rw [if_neg y4]
    clear y4
    go_enter Tryd.func12, Tryd.ntmps12
    go_wp2
    go_ret
    exact ⟨rfl, (Stp.refl _ _).alloc _⟩
end Go.Proofs.YtkpfkdcfakhmjaaDoor.L
