/- Layer 16: the laws HttppeekAll and HttppeekKnown. -/
import Derived.Test.YtgjmaifgkgejgaaGreatDoorJe
import Derived.Test.YtgjmaifgkgejgaaGreatDoorJi
set_option linter.unusedVariables false
set_option linter.unusedSimpArgs false
namespace Go.Proofs.YtgjmaifgkgejgaaGreatDoor.L
open Go.RowKit Go.Proofs

set_option maxRecDepth 100000 in
set_option maxHeartbeats 8000000 in
theorem all16_any (M : Nat → Prop) (vb : Value) (b : List UInt8) (w : World) (hb : Rd u8 M w vb b) (he : EnvP w) :
    Calls Tryz.prog 3 #[vb] w (TrueV w) := by
  obtain ⟨A, cp, rfl, hle⟩ := hb.form
  have hcm := hb.at_.2.2.1
  unfold maxLen at hcm
  obtain ⟨R, hR⟩ : ∃ R, R = TrueV w := ⟨_, rfl⟩
  rw [← hR]
  have HR := Lib.hid hR
  have HM := Lib.hid he
  have HB := Lib.hid hb
  clear hR he hb
  by_cases hbig : b.length ≤ 5000
  · have h1 : decide ((5000 : Int) < (b.length : Int)) = false := decide_eq_false (by omega)
    have cA := fun W hW hE => pall_any M (.slice A b.length cp) b W (HB.out.stp0 hW) (by omega) hE
    have cR := fun W hW => pallR_any M (.slice A b.length cp) b W (HB.out.stp0 hW) (by omega)
    have cS := fun W => same15_eq (allH b).1 (allH b).2 W
    unfold AllP at cA cR
    obtain ⟨V, hV⟩ : ∃ V, V = vdV (allH b).1 (allH b).2 := ⟨_, rfl⟩
    rw [← hV] at cA cR cS
    clear hV hbig
    have HS0 := Lib.hid (Stp.refl (fun _ => False) w)
    go_enter Tryz.func3, Tryz.ntmps3
    go_wp2_with (go_at_call 9; refine stopc ?_)
    refine Stop.go ?_
    refine (small16_any _ (HM.out.step HS0.out)).mono ?_
    rintro e w1 ⟨he, hs1⟩
    subst he
    have HS1 := Lib.hid (HS0.out.trans hs1)
    clear hs1
    go_wp2_with (go_at_call 11; refine stopc ?_)
    refine Stop.go ?_
    refine (cA _ HS1.out (HM.out.step HS1.out)).mono ?_
    rintro e w2 ⟨he, hs2⟩
    subst he
    have HS2 := Lib.hid (HS1.out.trans hs2)
    clear hs2
    go_wp2_with (go_at_call 12; refine stopc ?_)
    refine Stop.go ?_
    refine (cR _ HS2.out).mono ?_
    rintro e w3 ⟨he, hs3⟩
    subst he
    have HS3 := Lib.hid (HS2.out.trans hs3)
    clear hs3
    go_wp2_with (go_at_call 10; refine stopc ?_)
    refine Stop.go ?_
    refine (cS _).mono ?_
    rintro e w4 ⟨he, hs4⟩
    subst he
    have HS4 := Lib.hid (HS3.out.trans hs4)
    clear hs4
    go_wp2
    rw [HR.out]
    exact ⟨rfl, HS4.out⟩
  · have h1 : decide ((5000 : Int) < (b.length : Int)) = true := decide_eq_true (by omega)
    clear hbig
    have HS0 := Lib.hid (Stp.refl (fun _ => False) w)
    go_enter Tryz.func3, Tryz.ntmps3
    go_wp2_with (go_at_call 9; refine stopc ?_)
    refine Stop.go ?_
    refine (small16_any _ (HM.out.step HS0.out)).mono ?_
    rintro e w1 ⟨he, hs1⟩
    subst he
    have HS1 := Lib.hid (HS0.out.trans hs1)
    clear hs1
    go_wp2
    rw [HR.out]
    exact ⟨rfl, HS1.out⟩
end Go.Proofs.YtgjmaifgkgejgaaGreatDoor.L
