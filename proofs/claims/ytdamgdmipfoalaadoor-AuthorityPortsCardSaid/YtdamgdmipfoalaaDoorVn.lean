/- Layer 13: the law AuthorityPorts. -/
import Derived.Test.YtdamgdmipfoalaaDoorVl
set_option linter.unusedVariables false
set_option linter.unusedSimpArgs false
namespace Go.Proofs.YtdamgdmipfoalaaDoor.L
open Go.RowKit Go.Proofs

set_option maxRecDepth 100000 in
set_option maxHeartbeats 8000000 in
theorem ports13_any (s : ByteArray) (p : Int) (w : World) (he : EnvP w) :
    Calls Tryd.prog 4 #[.string s, .int .i64 p] w (TrueV w) := by
  obtain ⟨R, hR⟩ : ∃ R, R = TrueV w := ⟨_, rfl⟩
  rw [← hR]
  have HR := Lib.hid hR
  have HM := Lib.hid he
  clear hR he
  by_cases hbig : ¬ (s.size ≤ 1000 ∧ 0 ≤ p ∧ p ≤ 1000000)
  · have key : (decide ((1000 : Int) < (s.size : Int)) = true) ∨ (decide ((1000 : Int) < (s.size : Int)) = false ∧ decide (p < (0 : Int)) = true) ∨ (decide ((1000 : Int) < (s.size : Int)) = false ∧ decide (p < (0 : Int)) = false ∧ decide ((1000000 : Int) < p) = true) := by
      simp only [decide_eq_true_eq, decide_eq_false_iff_not]
      omega
    clear hbig
    rcases key with h1 | ⟨h1, h2⟩ | ⟨h1, h2, h3⟩
    all_goals
      have HS0 := Lib.hid (Stp.refl (fun _ => False) w)
      go_enter Tryd.func4, Tryd.ntmps4
      go_wp2_with (go_at_call 7; refine stopc ?_)
      refine Stop.go ?_
      refine (small13_any _ (HM.out.step HS0.out)).mono ?_
      rintro e w1 ⟨he, hs1⟩
      subst he
      have HS1 := Lib.hid (HS0.out.trans hs1)
      clear hs1
      go_wp2
      rw [HR.out]
      exact ⟨rfl, HS1.out⟩
  · obtain ⟨l1, l2, l3⟩ := Classical.not_not.1 hbig
    have h1 : decide ((1000 : Int) < (s.size : Int)) = false := decide_eq_false (by omega)
    have h2 : decide (p < (0 : Int)) = false := decide_eq_false (by omega)
    have h3 : decide ((1000000 : Int) < p) = false := decide_eq_false (by omega)
    obtain ⟨n, rfl⟩ : ∃ n : Nat, p = n := ⟨p.toNat, by omega⟩
    clear hbig
    have cS := fun W hW => hparse_any s W (by omega) hW
    unfold HpP at cS
    obtain ⟨q, hq⟩ : ∃ q, q = hpS s.data.toList := ⟨_, rfl⟩
    rw [← hq] at cS
    have hqp : ∀ a, q = (a, 0, 0) → hpS (s.data.toList ++ 58 :: Lib.decDigits n) = if 1 ≤ n ∧ n ≤ 65535 then (a, (n : Int), 0) else ([], 0, 10) := fun a e => hp_ports _ a n (by rw [← hq, e])
    obtain ⟨b, c, f⟩ := q
    simp only at cS
    obtain ⟨B, hB⟩ : ∃ B, B = strB b := ⟨_, rfl⟩
    simp only [← hB] at cS
    by_cases hf : f = 0 ∧ c = 0
    · obtain ⟨rfl, rfl⟩ := hf
      have hpp := hqp b rfl
      obtain ⟨T, hT⟩ : ∃ T, T = strB (Lib.decDigits n) := ⟨_, rfl⟩
      have hTs : T.size ≤ 20 := by rw [hT, strB_size, Lib.decDigits_length]; exact Lib.nDigits_le20 _ (by omega)
      have ct : ∀ W, Calls Tryd.prog 10 #[.int .i64 (n : Int)] W fun e w' => e = .returned (.string T) ∧ Stp (fun _ => False) W w' := fun W => (text_any n W (by omega)).mono fun e w' h => ⟨by rw [hT]; exact h.1, by rw [h.2]; exact Stp.refl _ _⟩
      obtain ⟨U, hU⟩ : ∃ U, U = s ++ (⟨#[58]⟩ : ByteArray) ++ T := ⟨_, rfl⟩
      have hUd : U.data.toList = s.data.toList ++ 58 :: Lib.decDigits n := by rw [hU, hT]; simp [strB]
      have h58 : (⟨#[58]⟩ : ByteArray).size = 1 := rfl
      have cU := fun W hW => hparse_any U W (by rw [hU]; simp; omega) hW
      rw [hUd, hpp] at cU
      unfold HpP at cU
      have z1 : ¬ 9223372036854775807 < s.size + 1 := by omega
      have z2 : ¬ 9223372036854775807 < s.size + 1 + T.size := by omega
      have hx := hU.symm
      clear hq hqp hpp hT hU hUd h58
      by_cases hn : 1 ≤ n ∧ n ≤ 65535
      · simp only [if_pos hn, ← hB] at cU
        have g1 : decide ((n : Int) < 1) = false := decide_eq_false (by omega)
        have g2 : decide ((65535 : Int) < (n : Int)) = false := decide_eq_false (by omega)
        clear hn hB
        have HS0 := Lib.hid (Stp.refl (fun _ => False) w)
        go_enter Tryd.func4, Tryd.ntmps4
        go_wp2_with (go_at_call 7; refine stopc ?_)
        refine Stop.go ?_
        refine (small13_any _ (HM.out.step HS0.out)).mono ?_
        rintro e w1 ⟨he, hs1⟩
        subst he
        have HS1 := Lib.hid (HS0.out.trans hs1)
        clear hs1
        go_wp2_with (go_at_call 9; refine stopc ?_)
        refine Stop.go ?_
        refine (cS _ (HM.out.step HS1.out)).mono ?_
        rintro e w2 ⟨he, hs2⟩
        subst he
        have HS2 := Lib.hid (HS1.out.trans hs2)
        clear hs2
        go_wp2_with (go_at_call 10; refine stopc ?_)
        refine Stop.go ?_
        refine (ct _).mono ?_
        rintro e w3 ⟨he, hs3⟩
        subst he
        have HS3 := Lib.hid (HS2.out.trans hs3)
        clear hs3
        go_wp2_with (go_at_call 9; refine stopc ?_)
        refine Stop.go ?_
        refine (cU _ (HM.out.step HS3.out)).mono ?_
        rintro e w4 ⟨he, hs4⟩
        subst he
        have HS4 := Lib.hid (HS3.out.trans hs4)
        clear hs4
        go_wp2
        rw [HR.out]
        exact ⟨rfl, HS4.out⟩
      · simp only [if_neg hn] at cU
        have g1 : decide ((n : Int) < 1) = true ∨ (decide ((n : Int) < 1) = false ∧ decide ((65535 : Int) < (n : Int)) = true) := by
          simp only [decide_eq_true_eq, decide_eq_false_iff_not]
          omega
        clear hn hB
        rcases g1 with g1 | ⟨g1, g2⟩
        all_goals
          have HS0 := Lib.hid (Stp.refl (fun _ => False) w)
          go_enter Tryd.func4, Tryd.ntmps4
          go_wp2_with (go_at_call 7; refine stopc ?_)
          refine Stop.go ?_
          refine (small13_any _ (HM.out.step HS0.out)).mono ?_
          rintro e w1 ⟨he, hs1⟩
          subst he
          have HS1 := Lib.hid (HS0.out.trans hs1)
          clear hs1
          go_wp2_with (go_at_call 9; refine stopc ?_)
          refine Stop.go ?_
          refine (cS _ (HM.out.step HS1.out)).mono ?_
          rintro e w2 ⟨he, hs2⟩
          subst he
          have HS2 := Lib.hid (HS1.out.trans hs2)
          clear hs2
          go_wp2_with (go_at_call 10; refine stopc ?_)
          refine Stop.go ?_
          refine (ct _).mono ?_
          rintro e w3 ⟨he, hs3⟩
          subst he
          have HS3 := Lib.hid (HS2.out.trans hs3)
          clear hs3
          go_wp2_with (go_at_call 9; refine stopc ?_)
          refine Stop.go ?_
          refine (cU _ (HM.out.step HS3.out)).mono ?_
          rintro e w4 ⟨he, hs4⟩
          obtain rfl : e = .returned (.tuple #[.string ⟨#[]⟩, .int .i64 0, .int .i64 10]) := he.trans (rfl)
          have HS4 := Lib.hid (HS3.out.trans hs4)
          clear hs4 he
          go_wp2
          rw [HR.out]
          exact ⟨rfl, HS4.out⟩
    · have key : (f != 0) = true ∨ ((f != 0) = false ∧ (c != 0) = true) := by
        by_cases h : f = 0
        · exact Or.inr ⟨by rw [h]; rfl, by simpa using fun e => hf ⟨h, e⟩⟩
        · exact Or.inl (by simpa using h)
      clear hq hqp hf hB
      rcases key with g1 | ⟨g1, g2⟩
      all_goals
        have HS0 := Lib.hid (Stp.refl (fun _ => False) w)
        go_enter Tryd.func4, Tryd.ntmps4
        go_wp2_with (go_at_call 7; refine stopc ?_)
        refine Stop.go ?_
        refine (small13_any _ (HM.out.step HS0.out)).mono ?_
        rintro e w1 ⟨he, hs1⟩
        subst he
        have HS1 := Lib.hid (HS0.out.trans hs1)
        clear hs1
        go_wp2_with (go_at_call 9; refine stopc ?_)
        refine Stop.go ?_
        refine (cS _ (HM.out.step HS1.out)).mono ?_
        rintro e w2 ⟨he, hs2⟩
        subst he
        have HS2 := Lib.hid (HS1.out.trans hs2)
        clear hs2
        go_wp2
        rw [HR.out]
        exact ⟨rfl, HS2.out⟩
end Go.Proofs.YtdamgdmipfoalaaDoor.L
