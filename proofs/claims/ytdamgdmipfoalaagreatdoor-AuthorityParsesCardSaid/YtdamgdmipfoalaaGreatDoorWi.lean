/- Layer 13: the laws AuthorityParses and AuthorityTells. -/
import Derived.Test.YtdamgdmipfoalaaGreatDoorVl
import Derived.Test.YtdamgdmipfoalaaGreatDoorWg
set_option linter.unusedVariables false
set_option linter.unusedSimpArgs false
namespace Go.Proofs.YtdamgdmipfoalaaGreatDoor.L
open Go.RowKit Go.Proofs

set_option maxRecDepth 100000 in
set_option maxHeartbeats 8000000 in
theorem parses13_any (s : ByteArray) (w : World) (he : EnvP w) :
    Calls Tryz.prog 3 #[.string s] w (TrueV w) := by
  obtain ⟨R, hR⟩ : ∃ R, R = TrueV w := ⟨_, rfl⟩
  rw [← hR]
  have HR := Lib.hid hR
  have HM := Lib.hid he
  clear hR he
  by_cases hbig : s.size ≤ 2000
  · have h1 : decide ((2000 : Int) < (s.size : Int)) = false := decide_eq_false (by omega)
    have cS := fun W hW => hparse_any s W (by omega) hW
    have cR := fun W => hparseR_any s W (by omega)
    unfold HpP at cS cR
    obtain ⟨q, hq⟩ : ∃ q, q = hpS s.data.toList := ⟨_, rfl⟩
    rw [← hq] at cS cR
    obtain ⟨b, c, f⟩ := q
    obtain ⟨B, hB⟩ : ∃ B, B = strB b := ⟨_, rfl⟩
    simp only [← hB] at cS cR
    have hbb : (B.toList == B.toList) = true := by simp
    clear hq hB hbig
    have HS0 := Lib.hid (Stp.refl (fun _ => False) w)
    go_enter Tryz.func3, Tryz.ntmps3
    go_wp2_with (go_at_call 5; refine stopc ?_)
    refine Stop.go ?_
    refine (small13_any _ (HM.out.step HS0.out)).mono ?_
    rintro e w1 ⟨he, hs1⟩
    subst he
    have HS1 := Lib.hid (HS0.out.trans hs1)
    clear hs1
    go_wp2_with (go_at_call 6; refine stopc ?_)
    refine Stop.go ?_
    refine (cS _ (HM.out.step HS1.out)).mono ?_
    rintro e w2 ⟨he, hs2⟩
    subst he
    have HS2 := Lib.hid (HS1.out.trans hs2)
    clear hs2
    go_wp2_with (go_at_call 7; refine stopc ?_)
    refine Stop.go ?_
    refine (cR _).mono ?_
    rintro e w3 ⟨he, hs3⟩
    subst he
    have HS3 := Lib.hid (HS2.out.trans hs3)
    clear hs3
    go_wp2
    rw [HR.out]
    exact ⟨rfl, HS3.out⟩
  · have h1 : decide ((2000 : Int) < (s.size : Int)) = true := decide_eq_true (by omega)
    clear hbig
    have HS0 := Lib.hid (Stp.refl (fun _ => False) w)
    go_enter Tryz.func3, Tryz.ntmps3
    go_wp2_with (go_at_call 5; refine stopc ?_)
    refine Stop.go ?_
    refine (small13_any _ (HM.out.step HS0.out)).mono ?_
    rintro e w1 ⟨he, hs1⟩
    subst he
    have HS1 := Lib.hid (HS0.out.trans hs1)
    clear hs1
    go_wp2
    rw [HR.out]
    exact ⟨rfl, HS1.out⟩
end Go.Proofs.YtdamgdmipfoalaaGreatDoor.L
