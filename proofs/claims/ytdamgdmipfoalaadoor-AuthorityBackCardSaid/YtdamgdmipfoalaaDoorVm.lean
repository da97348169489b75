/- Layer 13: the law AuthorityBack. -/
import Derived.Test.YtdamgdmipfoalaaDoorVl
set_option linter.unusedVariables false
set_option linter.unusedSimpArgs false
namespace Go.Proofs.YtdamgdmipfoalaaDoor.L
open Go.RowKit Go.Proofs

theorem printA_len (a : List UInt8) (h : a.length = 16) : (printA a).length ≤ 200 := by
  unfold printA
  split
  · unfold print4
    have := joinC_len 46 ((a.drop 12).map fun c => Lib.decDigits c.toNat) 20 (by
      intro x hx
      obtain ⟨n, hn, rfl⟩ := List.mem_map.1 hx
      rw [Lib.decDigits_length]
      exact Lib.nDigits_le20 _ (by have := UInt8.toNat_lt n; omega))
    rw [List.length_map, List.length_drop, h] at this
    omega
  · obtain ⟨-, h2, h3⟩ := bytesN_pairsN a 8 h
    have hall := joinH_len (pairsN a) h3
    unfold print6
    split
    · omega
    · have h4 := joinH_len ((pairsN a).take (rowS (pairsN a)).1) (fun m hm => h3 m (List.mem_of_mem_take hm))
      have h5 := joinH_len ((pairsN a).drop ((rowS (pairsN a)).1 + (rowS (pairsN a)).2)) (fun m hm => h3 m (List.mem_of_mem_drop hm))
      rw [List.length_take] at h4
      rw [List.length_drop] at h5
      rw [List.length_append, List.length_append]
      simp only [List.length_cons, List.length_nil]
      omega
theorem splitH_len (l : List UInt8) : (splitH l).1.length ≤ l.length + 200 := by
  unfold splitH
  have hu : ∀ (c : UInt8) (k : List UInt8), (untilC c k).1.length ≤ k.length := fun c k => by
    rcases untilC_cases c k with ⟨h, e⟩ | ⟨a, b, rfl, h, e⟩
    · rw [e]; exact Nat.le_refl _
    · rw [e]; simp
  split
  · simp
  · split
    · simp
    · split
      · have := hu 58 l
        simp only
        omega
      · split
        · rename_i a ha
          split
          · simp
          · have := printA_len a (parseA_len _ _ ha)
            simp only
            omega
        · simp
theorem hp_len (l : List UInt8) : (hpS l).1.length ≤ l.length + 200 := by
  unfold hpS
  split
  · simp
  · have := splitH_len l
    unfold tailH
    split
    · exact this
    · split
      · simp
      · split
        · simp
        · exact this
theorem line_len (h : List UInt8) (p : Int) (h0 : -9223372036854775808 ≤ p) (h1 : p ≤ 9223372036854775807) : (lineH h p).length ≤ h.length + 30 := by
  unfold lineH formH portT
  have := itoa_len p h0 h1
  split <;> split <;> simp <;> omega
theorem hp_range (l : List UInt8) : 0 ≤ (hpS l).2.1 ∧ (hpS l).2.1 < 65536 := by
  by_cases h : (hpS l).2.2 = 0
  · obtain ⟨r, -, n, hn, hle, -⟩ := hp_parts l (hpS l).1 (hpS l).2.1 (by rw [← h])
    omega
  · have := (hp_err l h).2
    omega

set_option maxRecDepth 100000 in
set_option maxHeartbeats 8000000 in
theorem back13_any (h : ByteArray) (p : Int) (s : ByteArray) (w : World) (hp0 : -9223372036854775808 ≤ p) (hp1 : p ≤ 9223372036854775807) (he : EnvP w) :
    Calls Tryd.prog 3 #[.string h, .int .i64 p, .string s] w (TrueV w) := by
  obtain ⟨R, hR⟩ : ∃ R, R = TrueV w := ⟨_, rfl⟩
  rw [← hR]
  have HR := Lib.hid hR
  have HM := Lib.hid he
  clear hR he
  by_cases hbig : ¬ (h.size ≤ 1000 ∧ s.size ≤ 1000)
  · have key : (decide ((1000 : Int) < (h.size : Int)) = true) ∨ (decide ((1000 : Int) < (h.size : Int)) = false ∧ decide ((1000 : Int) < (s.size : Int)) = true) := by
      simp only [decide_eq_true_eq, decide_eq_false_iff_not]
      omega
    clear hbig
    rcases key with h1 | ⟨h1, h2⟩
    all_goals
      have HS0 := Lib.hid (Stp.refl (fun _ => False) w)
      go_enter Tryd.func3, Tryd.ntmps3
      go_wp2_with (go_at_call 7; refine stopc ?_)
      refine Stop.go ?_
      refine (small13_any _ (HM.out.step HS0.out)).mono ?_
      rintro e w1 ⟨he, hs1⟩
      subst he
      have HS1 := Lib.hid (HS0.out.trans hs1)
      clear hs1
      go_wp2
      rw [HR.out]
      exact ⟨rfl, HS1.out⟩
  · obtain ⟨l1, l2⟩ := Classical.not_not.1 hbig
    have h1 : decide ((1000 : Int) < (h.size : Int)) = false := decide_eq_false (by omega)
    have h2 : decide ((1000 : Int) < (s.size : Int)) = false := decide_eq_false (by omega)
    clear hbig
    -- the parts
    have cP := fun W hW => hprint_any h p W (by omega) hp0 hp1 hW
    obtain ⟨r, hr⟩ : ∃ r, r = printH3 h.data.toList p := ⟨_, rfl⟩
    unfold StrB2 at cP
    rw [← hr] at cP
    obtain ⟨t, ok⟩ := r
    obtain ⟨T, hT⟩ : ∃ T, T = strB t := ⟨_, rfl⟩
    simp only [← hT] at cP
    have cS := fun W hW => hparse_any s W (by omega) hW
    unfold HpP at cS
    obtain ⟨q, hq⟩ : ∃ q, q = hpS s.data.toList := ⟨_, rfl⟩
    rw [← hq] at cS
    have hqr := hp_range s.data.toList
    have hqe := hp_err s.data.toList
    have hql := hp_len s.data.toList
    have hqb : ∀ b c, q = (b, c, 0) → hpS (lineH b c) = (b, c, 0) ∧ b ≠ [] ∧ 0 ≤ c ∧ c < 65536 := fun b c e => hp_back s.data.toList b c (by rw [← hq, e])
    rw [← hq] at hqr hqe hql
    rw [size_list] at hql
    obtain ⟨b, c, f⟩ := q
    simp only at cS hqr hqe hql
    obtain ⟨B, hB⟩ : ∃ B, B = strB b := ⟨_, rfl⟩
    have hBd : B.data.toList = b := by rw [hB]; simp [strB]
    have hBs : B.size ≤ 1200 := by rw [hB, strB_size]; omega
    simp only [← hB] at cS
    -- the first part: what is printed is parsed as it was
    have hTT : ok = true → ∀ W, EnvP W → Calls Tryd.prog 9 #[.string T] W fun e w' => e = .returned (.tuple #[.string h, .int .i64 p, .int .i64 0]) ∧ Stp (fun _ => False) W w' := fun hk W hW => by
      subst hk
      have e := print_ok _ _ _ hr.symm
      have hl : t.length ≤ 1100 := by
        have : t = lineH h.data.toList p := by
          unfold printH3 at hr
          split at hr
          · injection hr
          · simp at hr
        rw [this]
        have := line_len h.data.toList p hp0 hp1
        rw [size_list] at this
        omega
      have c := hparse_any T W (by rw [hT, strB_size]; omega) hW
      have hTd : T.data.toList = t := by rw [hT]; simp [strB]
      rw [hTd, e] at c
      unfold HpP at c
      simp only [sB_self] at c
      exact c
    have hT0 : ok = false → T = ⟨#[]⟩ := fun hk => by
      subst hk
      have := print_none h.data.toList p (by rw [← hr])
      rw [← hr] at this
      have ht : t = [] := this
      rw [hT, ht]
      rfl
    have HTT := Lib.hid hTT
    have HT0 := Lib.hid hT0
    clear hTT hT0 hr hT
    by_cases hf : f = 0
    · subst hf
      obtain ⟨e1, e2, e3, e4⟩ := hqb b c rfl
      have hpr : printH3 b c = (lineH b c, true) := by unfold printH3; rw [if_pos e1]
      obtain ⟨U, hU⟩ : ∃ U, U = strB (lineH b c) := ⟨_, rfl⟩
      have cU : ∀ W, EnvP W → Calls Tryd.prog 8 #[.string B, .int .i64 c] W fun e w' => e = .returned (.tuple #[.string U, .bool true]) ∧ Stp (fun _ => False) W w' := fun W hW => by
        have cc := hprint_any B c W (by omega) (by omega) (by omega) hW
        rw [hBd, hpr] at cc
        unfold StrB2 at cc
        simp only [← hU] at cc
        exact cc
      have cV : ∀ W, EnvP W → Calls Tryd.prog 9 #[.string U] W fun e w' => e = .returned (.tuple #[.string B, .int .i64 c, .int .i64 0]) ∧ Stp (fun _ => False) W w' := fun W hW => by
        have hl := line_len b c (by omega) (by omega)
        have cc := hparse_any U W (by rw [hU, strB_size]; omega) hW
        have hUd : U.data.toList = lineH b c := by rw [hU]; simp [strB]
        rw [hUd, e1] at cc
        unfold HpP at cc
        simp only [← hB] at cc
        exact cc
      have hB0 : (B.toList == []) = false := by rw [list_eqb, hBd]; simp [e2]
      have hB1 : (B.toList != []) = true := by rw [bne, hB0]; rfl
      have c0 : decide ((0 : Int) ≤ c) = true := decide_eq_true e3
      have c1 : decide (c < (65536 : Int)) = true := decide_eq_true e4
      clear e1 e2 e3 e4 hqb hqe hqr hql hBd hBs hB hU hpr hq l1 l2
      cases ok with
      | true =>
        have cT := HTT.out rfl
        have HS0 := Lib.hid (Stp.refl (fun _ => False) w)
        go_enter Tryd.func3, Tryd.ntmps3
        go_wp2_with (go_at_call 7; refine stopc ?_)
        refine Stop.go ?_
        refine (small13_any _ (HM.out.step HS0.out)).mono ?_
        rintro e w1 ⟨he, hs1⟩
        subst he
        have HS1 := Lib.hid (HS0.out.trans hs1)
        clear hs1
        go_wp2_with (go_at_call 8; refine stopc ?_)
        refine Stop.go ?_
        refine (cP _ (HM.out.step HS1.out)).mono ?_
        rintro e w2 ⟨he, hs2⟩
        subst he
        have HS2 := Lib.hid (HS1.out.trans hs2)
        clear hs2
        go_wp2_with (go_at_call 9; refine stopc ?_)
        refine Stop.go ?_
        refine (cT _ (HM.out.step HS2.out)).mono ?_
        rintro e w3 ⟨he, hs3⟩
        subst he
        have HS3 := Lib.hid (HS2.out.trans hs3)
        clear hs3
        go_wp2_with (go_at_call 9; refine stopc ?_)
        refine Stop.go ?_
        refine (cS _ (HM.out.step HS3.out)).mono ?_
        rintro e w4 ⟨he, hs4⟩
        subst he
        have HS4 := Lib.hid (HS3.out.trans hs4)
        clear hs4
        go_wp2_with (go_at_call 8; refine stopc ?_)
        refine Stop.go ?_
        refine (cU _ (HM.out.step HS4.out)).mono ?_
        rintro e w5 ⟨he, hs5⟩
        subst he
        have HS5 := Lib.hid (HS4.out.trans hs5)
        clear hs5
        go_wp2_with (go_at_call 9; refine stopc ?_)
        refine Stop.go ?_
        refine (cV _ (HM.out.step HS5.out)).mono ?_
        rintro e w6 ⟨he, hs6⟩
        subst he
        have HS6 := Lib.hid (HS5.out.trans hs6)
        clear hs6
        go_wp2
        rw [HR.out]
        exact ⟨rfl, HS6.out⟩
      | false =>
        have HS0 := Lib.hid (Stp.refl (fun _ => False) w)
        go_enter Tryd.func3, Tryd.ntmps3
        go_wp2_with (go_at_call 7; refine stopc ?_)
        refine Stop.go ?_
        refine (small13_any _ (HM.out.step HS0.out)).mono ?_
        rintro e w1 ⟨he, hs1⟩
        subst he
        have HS1 := Lib.hid (HS0.out.trans hs1)
        clear hs1
        go_wp2_with (go_at_call 8; refine stopc ?_)
        refine Stop.go ?_
        refine (cP _ (HM.out.step HS1.out)).mono ?_
        rintro e w2 ⟨he, hs2⟩
        subst he
        have HS2 := Lib.hid (HS1.out.trans hs2)
        clear hs2
        go_wp2_with (go_at_call 9; refine stopc ?_)
        refine Stop.go ?_
        refine (cS _ (HM.out.step HS2.out)).mono ?_
        rintro e w3 ⟨he, hs3⟩
        subst he
        have HS3 := Lib.hid (HS2.out.trans hs3)
        clear hs3
        go_wp2_with (go_at_call 8; refine stopc ?_)
        refine Stop.go ?_
        refine (cU _ (HM.out.step HS3.out)).mono ?_
        rintro e w4 ⟨he, hs4⟩
        subst he
        have HS4 := Lib.hid (HS3.out.trans hs4)
        clear hs4
        go_wp2_with (go_at_call 9; refine stopc ?_)
        refine Stop.go ?_
        refine (cV _ (HM.out.step HS4.out)).mono ?_
        rintro e w5 ⟨he, hs5⟩
        subst he
        have HS5 := Lib.hid (HS4.out.trans hs5)
        clear hs5
        go_wp2
        rw [HR.out]
        exact ⟨rfl, HS5.out⟩
    · obtain ⟨e1, e2⟩ := hqe hf
      have hff : (f != 0) = true := by simpa using hf
      have hB0 : B = ⟨#[]⟩ := by rw [hB, e1]; rfl
      subst hB0
      subst e2
      clear hf hqb hqe hqr hql hBd hBs hB hq l1 l2 e1
      cases ok with
      | true =>
        have cT := HTT.out rfl
        have HS0 := Lib.hid (Stp.refl (fun _ => False) w)
        go_enter Tryd.func3, Tryd.ntmps3
        go_wp2_with (go_at_call 7; refine stopc ?_)
        refine Stop.go ?_
        refine (small13_any _ (HM.out.step HS0.out)).mono ?_
        rintro e w1 ⟨he, hs1⟩
        subst he
        have HS1 := Lib.hid (HS0.out.trans hs1)
        clear hs1
        go_wp2_with (go_at_call 8; refine stopc ?_)
        refine Stop.go ?_
        refine (cP _ (HM.out.step HS1.out)).mono ?_
        rintro e w2 ⟨he, hs2⟩
        subst he
        have HS2 := Lib.hid (HS1.out.trans hs2)
        clear hs2
        go_wp2_with (go_at_call 9; refine stopc ?_)
        refine Stop.go ?_
        refine (cT _ (HM.out.step HS2.out)).mono ?_
        rintro e w3 ⟨he, hs3⟩
        subst he
        have HS3 := Lib.hid (HS2.out.trans hs3)
        clear hs3
        go_wp2_with (go_at_call 9; refine stopc ?_)
        refine Stop.go ?_
        refine (cS _ (HM.out.step HS3.out)).mono ?_
        rintro e w4 ⟨he, hs4⟩
        subst he
        have HS4 := Lib.hid (HS3.out.trans hs4)
        clear hs4
        go_wp2
        rw [HR.out]
        exact ⟨rfl, HS4.out⟩
      | false =>
        have hT0 := HT0.out rfl
        subst hT0
        have HS0 := Lib.hid (Stp.refl (fun _ => False) w)
        go_enter Tryd.func3, Tryd.ntmps3
        go_wp2_with (go_at_call 7; refine stopc ?_)
        refine Stop.go ?_
        refine (small13_any _ (HM.out.step HS0.out)).mono ?_
        rintro e w1 ⟨he, hs1⟩
        subst he
        have HS1 := Lib.hid (HS0.out.trans hs1)
        clear hs1
        go_wp2_with (go_at_call 8; refine stopc ?_)
        refine Stop.go ?_
        refine (cP _ (HM.out.step HS1.out)).mono ?_
        rintro e w2 ⟨he, hs2⟩
        subst he
        have HS2 := Lib.hid (HS1.out.trans hs2)
        clear hs2
        go_wp2_with (go_at_call 9; refine stopc ?_)
        refine Stop.go ?_
        refine (cS _ (HM.out.step HS2.out)).mono ?_
        rintro e w3 ⟨he, hs3⟩
        subst he
        have HS3 := Lib.hid (HS2.out.trans hs3)
        clear hs3
        go_wp2
        rw [HR.out]
        exact ⟨rfl, HS3.out⟩
end Go.Proofs.YtdamgdmipfoalaaDoor.L
