/- Layer 2: the laws of tokens, and there and back. -/
import Derived.Test.YteoffbglbpdekaaDoorLg
set_option linter.unusedVariables false
set_option linter.unusedSimpArgs false
namespace Go.Proofs.YteoffbglbpdekaaDoor.L
open Go.RowKit Go.Proofs

theorem strB_data (x : List UInt8) : (strB x).data.toList = x := by simp [strB]
theorem app_data (a b : ByteArray) : (a ++ b).data.toList = a.data.toList ++ b.data.toList := by simp
theorem toList_empty (s : ByteArray) (h : s.size = 0) : s.toList = ([] : List UInt8) := by
  rw [ByteArray.toList_eq]
  exact List.eq_nil_of_length_eq_zero (by rw [size_list]; exact h)
theorem strB_of (s : ByteArray) : strB s.data.toList = s := by cases s; simp [strB]

set_option maxRecDepth 100000 in
set_option maxHeartbeats 8000000 in
theorem tokens02_law (a b : ByteArray) (w : World) (wa : a.size ≤ 9223372036854775807) (wb : b.size ≤ 9223372036854775807) : Calls Tryd.prog 15 #[.string a, .string b] w (TrueStp w) := by
  have HS := Lib.hid (Stp.refl (fun _ => False) w)
  obtain ⟨R, hR⟩ : ∃ R, R = TrueStp w := ⟨_, rfl⟩
  rw [← hR]
  have HR := Lib.hid hR
  clear hR
  by_cases h1 : a.size ≤ 1000
  · by_cases h2 : b.size ≤ 1000
    · by_cases a0 : a.size = 0
      · have e1 := toList_empty a a0
        have e2 : a.toList.isEmpty = true := by rw [e1]; rfl
        clear a0
        go_enter Tryd.func15, Tryd.ntmps15
        go_wp2_with (go_at_call 35; refine (small02_any _).mono ?_; rintro e w' ⟨rfl, hs1⟩; replace HS := Lib.hid (HS.out.trans hs1); clear hs1)
        rw [HR.out]
        exact ⟨rfl, HS.out⟩
      · have e1 := ba_ne_empty a a0
        have e2 : a.toList.isEmpty = false := by simpa using e1
        by_cases b0 : b.size = 0
        · have f1 := toList_empty b b0
          have f2 : b.toList.isEmpty = true := by rw [f1]; rfl
          clear a0 b0
          go_enter Tryd.func15, Tryd.ntmps15
          go_wp2_with (go_at_call 35; refine (small02_any _).mono ?_; rintro e w' ⟨rfl, hs1⟩; replace HS := Lib.hid (HS.out.trans hs1); clear hs1)
          rw [HR.out]
          exact ⟨rfl, HS.out⟩
        · have f1 := ba_ne_empty b b0
          have f2 : b.toList.isEmpty = false := by simpa using f1
          have sab : (a ++ b).size ≤ 9223372036854775807 := by
            rw [← size_list, app_data, List.length_append, size_list, size_list]
            omega
          have na : a.data.toList ≠ [] := fun e => a0 (by rw [← size_list, e]; rfl)
          have nb : b.data.toList ≠ [] := fun e => b0 (by rw [← size_list, e]; rfl)
          have c1 := fun W => token_any (a ++ b) W sab
          have c2 := fun W => token_any a W wa
          have c3 := fun W => token_any b W wb
          have c4 := fun W => visible_any (a ++ b) W sab
          have c5 := fun W => visible_any a W wa
          have c6 := fun W => visible_any b W wb
          rw [app_data, allS_append _ _ _ na nb] at c1 c4
          have htv := tok_vis a.data.toList
          obtain ⟨ta, hta⟩ : ∃ t, t = allS tokR a.data.toList := ⟨_, rfl⟩
          obtain ⟨tb, htb⟩ : ∃ t, t = allS tokR b.data.toList := ⟨_, rfl⟩
          obtain ⟨va, hva⟩ : ∃ t, t = allS visR a.data.toList := ⟨_, rfl⟩
          obtain ⟨vb, hvb⟩ : ∃ t, t = allS visR b.data.toList := ⟨_, rfl⟩
          rw [← hta] at c1 c2 htv
          rw [← htb] at c1 c3
          rw [← hva] at c4 c5 htv
          rw [← hvb] at c4 c6
          clear hta htb hva hvb a0 b0 na nb sab
          have HTV := Lib.hid htv
          clear htv
          have key : ∀ (k : Nat), k = 0 → Calls Tryd.prog 15 #[.string a, .string b] w R := by
            intro k hk
            clear hk
            cases ta <;> cases va <;> cases tb <;> cases vb <;> first
              | exact absurd (HTV.out rfl) (by decide)
              | (simp only [Bool.and_true, Bool.and_false, Bool.true_and, Bool.false_and] at c1 c4
                 go_enter Tryd.func15, Tryd.ntmps15
                 go_wp2_with (first
                   | (go_at_call 35; refine (small02_any _).mono ?_; rintro e w' ⟨rfl, hs1⟩; replace HS := Lib.hid (HS.out.trans hs1); clear hs1)
                   | (go_at_call 38; first | (with_reducible refine (c1 _).mono ?_) | (with_reducible refine (c2 _).mono ?_) | (with_reducible refine (c3 _).mono ?_)
                      rintro e w' ⟨rfl, hs1⟩; replace HS := Lib.hid (HS.out.trans hs1); clear hs1)
                   | (go_at_call 40; first | (with_reducible refine (c4 _).mono ?_) | (with_reducible refine (c5 _).mono ?_) | (with_reducible refine (c6 _).mono ?_)
                      rintro e w' ⟨rfl, hs1⟩; replace HS := Lib.hid (HS.out.trans hs1); clear hs1))
                 rw [HR.out]
                 exact ⟨rfl, HS.out⟩)
          exact key 0 rfl
    · have h2' : 1000 < b.size := by omega
      go_enter Tryd.func15, Tryd.ntmps15
      go_wp2_with (go_at_call 35; refine (small02_any _).mono ?_; rintro e w' ⟨rfl, hs1⟩; replace HS := Lib.hid (HS.out.trans hs1); clear hs1)
      rw [HR.out]
      exact ⟨rfl, HS.out⟩
  · have h1' : 1000 < a.size := by omega
    go_enter Tryd.func15, Tryd.ntmps15
    go_wp2_with (go_at_call 35; refine (small02_any _).mono ?_; rintro e w' ⟨rfl, hs1⟩; replace HS := Lib.hid (HS.out.trans hs1); clear hs1)
    rw [HR.out]
    exact ⟨rfl, HS.out⟩

/-- The second half: a number and its text. -/
theorem back_num (n : Int) (h0 : 0 ≤ n) (h1 : n ≤ 999999999999999999) : ∃ k : Nat, n = k ∧ k ≤ 999999999999999999 ∧ numS (strB (Lib.decDigits k)).data.toList (k : Int) = ((k : Int), true) ∧ numS (strB (Lib.decDigits k)).data.toList ((k : Int) - 1) = (0, false) ∧ (strB (Lib.decDigits k)).size ≤ 9223372036854775807 := by
  obtain ⟨k, rfl⟩ := Int.eq_ofNat_of_zero_le h0
  refine ⟨k, rfl, by omega, by rw [strB_data]; exact num_text k k (by omega) (by omega), by rw [strB_data]; exact num_less k _ (by omega), ?_⟩
  rw [strB_size, Lib.decDigits_length]
  have := Lib.nDigits_le20 k (by omega)
  omega
set_option maxRecDepth 100000 in
set_option maxHeartbeats 8000000 in
theorem back02_law (s : ByteArray) (n : Int) (w : World) (ws : s.size ≤ 9223372036854775807) (wn : -9223372036854775808 ≤ n ∧ n ≤ 9223372036854775807) : Calls Tryd.prog 14 #[.string s, .int .i64 n] w (TrueStp w) := by
  have HS := Lib.hid (Stp.refl (fun _ => False) w)
  have HS0 := HS
  obtain ⟨R, hR⟩ : ∃ R, R = TrueStp w := ⟨_, rfl⟩
  rw [← hR]
  have HR := Lib.hid hR
  clear hR
  by_cases h1 : s.size ≤ 3000
  · have c1 := fun W => lower_any s W ws
    obtain ⟨x, hx⟩ : ∃ x, x = lowS s.data.toList := ⟨_, rfl⟩
    obtain ⟨L, hL⟩ : ∃ L, L = strB x := ⟨_, rfl⟩
    have hLs : L.size = s.size := by rw [hL, strB_size, hx, lowS_len, size_list]
    have c2 := fun W => lower_any L W (by omega)
    have c3 := fun W => same_any s L W ws (by omega)
    have hLd : lowS L.data.toList = x := by rw [hL, strB_data, hx, lowS_lowS]
    rw [← hx] at c1 c3
    rw [hLd] at c2 c3
    rw [← hL] at c1 c2
    have d1 : decide (x = x) = true := by simp
    rw [d1] at c3
    have e1 : (L.toList != L.toList) = false := by simp
    have e2 : ((L.size : Int) != (s.size : Int)) = false := by simp [hLs]
    have c4 := fun W => number_any s 9223372036854775807 W ws
    obtain ⟨⟨m, p⟩, hr⟩ : ∃ r, r = numS s.data.toList 9223372036854775807 := ⟨_, rfl⟩
    rw [← hr] at c4
    clear hx hL hLd d1 hLs
    have tail : ∀ (k : Nat), k = 0 → True := fun _ _ => trivial
    cases p with
    | true =>
      obtain ⟨u, rfl, hu, hule⟩ := num_back _ _ _ hr.symm
      have c5 := fun W => text_stp u W (by omega)
      rw [hu, strB_of] at c5
      have e3 : (s.toList != s.toList) = false := by simp
      clear hr hu
      by_cases h2 : 0 ≤ n ∧ n ≤ 999999999999999999
      · obtain ⟨k, rfl, hk, k1, k2, k3⟩ := back_num n h2.1 h2.2
        have c6 := fun W => text_stp k W (by omega)
        obtain ⟨T, hT⟩ : ∃ T, T = strB (Lib.decDigits k) := ⟨_, rfl⟩
        rw [← hT] at c6 k1 k2 k3
        have c7 := fun W => number_any T k W k3
        have c8 := fun W => number_any T (k - 1) W k3
        rw [k1] at c7
        rw [k2] at c8
        obtain ⟨h2, h3⟩ := h2
        clear hT k1 k2
        go_enter Tryd.func14, Tryd.ntmps14
        go_wp2_with (go_at_call 35; refine stopc ?_)
        refine Stop.go ?_
        refine (small02_any _).mono ?_
        rintro e w1 ⟨he, hs1⟩
        subst he
        have HS1 := Lib.hid (HS0.out.trans hs1)
        clear hs1
        go_wp2_with (go_at_call 26; refine stopc ?_)
        refine Stop.go ?_
        refine (c1 _).mono ?_
        rintro e w2 ⟨he, hs2⟩
        subst he
        have HS2 := Lib.hid (HS1.out.trans hs2)
        clear hs2
        go_wp2_with (go_at_call 26; refine stopc ?_)
        refine Stop.go ?_
        refine (c2 _).mono ?_
        rintro e w3 ⟨he, hs3⟩
        subst he
        have HS3 := Lib.hid (HS2.out.trans hs3)
        clear hs3
        go_wp2_with (go_at_call 37; refine stopc ?_)
        refine Stop.go ?_
        refine (c3 _).mono ?_
        rintro e w4 ⟨he, hs4⟩
        subst he
        have HS4 := Lib.hid (HS3.out.trans hs4)
        clear hs4
        go_wp2_with (go_at_call 44; refine stopc ?_)
        refine Stop.go ?_
        refine (c4 _).mono ?_
        rintro e w5 ⟨he, hs5⟩
        obtain rfl : e = .returned (.tuple #[.int .i64 u, .bool true]) := he.trans (rfl)
        have HS5 := Lib.hid (HS4.out.trans hs5)
        clear hs5 he
        go_wp2_with (go_at_call 48; refine stopc ?_)
        refine Stop.go ?_
        refine (c5 _).mono ?_
        rintro e w6 ⟨he, hs6⟩
        subst he
        have HS6 := Lib.hid (HS5.out.trans hs6)
        clear hs6
        go_wp2_with (go_at_call 48; refine stopc ?_)
        refine Stop.go ?_
        refine (c6 _).mono ?_
        rintro e w7 ⟨he, hs7⟩
        subst he
        have HS7 := Lib.hid (HS6.out.trans hs7)
        clear hs7
        go_wp2_with (go_at_call 44; refine stopc ?_)
        refine Stop.go ?_
        refine (c7 _).mono ?_
        rintro e w8 ⟨he, hs8⟩
        obtain rfl : e = .returned (.tuple #[.int .i64 k, .bool true]) := he.trans (rfl)
        have HS8 := Lib.hid (HS7.out.trans hs8)
        clear hs8 he
        go_wp2_with (go_at_call 44; refine stopc ?_)
        refine Stop.go ?_
        refine (c8 _).mono ?_
        rintro e w9 ⟨he, hs9⟩
        obtain rfl : e = .returned (.tuple #[.int .i64 0, .bool false]) := he.trans (rfl)
        have HS9 := Lib.hid (HS8.out.trans hs9)
        clear hs9 he
        go_wp2
        rw [HR.out]
        exact ⟨rfl, HS9.out⟩
      · have key : n < 0 ∨ (0 ≤ n ∧ 999999999999999999 < n) := by omega
        clear h2
        rcases key with h2 | ⟨h2, h3⟩
        all_goals
          go_enter Tryd.func14, Tryd.ntmps14
          go_wp2_with (go_at_call 35; refine stopc ?_)
          refine Stop.go ?_
          refine (small02_any _).mono ?_
          rintro e w1 ⟨he, hs1⟩
          subst he
          have HS1 := Lib.hid (HS0.out.trans hs1)
          clear hs1
          go_wp2_with (go_at_call 26; refine stopc ?_)
          refine Stop.go ?_
          refine (c1 _).mono ?_
          rintro e w2 ⟨he, hs2⟩
          subst he
          have HS2 := Lib.hid (HS1.out.trans hs2)
          clear hs2
          go_wp2_with (go_at_call 26; refine stopc ?_)
          refine Stop.go ?_
          refine (c2 _).mono ?_
          rintro e w3 ⟨he, hs3⟩
          subst he
          have HS3 := Lib.hid (HS2.out.trans hs3)
          clear hs3
          go_wp2_with (go_at_call 37; refine stopc ?_)
          refine Stop.go ?_
          refine (c3 _).mono ?_
          rintro e w4 ⟨he, hs4⟩
          subst he
          have HS4 := Lib.hid (HS3.out.trans hs4)
          clear hs4
          go_wp2_with (go_at_call 44; refine stopc ?_)
          refine Stop.go ?_
          refine (c4 _).mono ?_
          rintro e w5 ⟨he, hs5⟩
          obtain rfl : e = .returned (.tuple #[.int .i64 u, .bool true]) := he.trans (rfl)
          have HS5 := Lib.hid (HS4.out.trans hs5)
          clear hs5 he
          go_wp2_with (go_at_call 48; refine stopc ?_)
          refine Stop.go ?_
          refine (c5 _).mono ?_
          rintro e w6 ⟨he, hs6⟩
          subst he
          have HS6 := Lib.hid (HS5.out.trans hs6)
          clear hs6
          go_wp2
          rw [HR.out]
          exact ⟨rfl, HS6.out⟩
    | false =>
      clear hr
      by_cases h2 : 0 ≤ n ∧ n ≤ 999999999999999999
      · obtain ⟨k, rfl, hk, k1, k2, k3⟩ := back_num n h2.1 h2.2
        have c6 := fun W => text_stp k W (by omega)
        obtain ⟨T, hT⟩ : ∃ T, T = strB (Lib.decDigits k) := ⟨_, rfl⟩
        rw [← hT] at c6 k1 k2 k3
        have c7 := fun W => number_any T k W k3
        have c8 := fun W => number_any T (k - 1) W k3
        rw [k1] at c7
        rw [k2] at c8
        obtain ⟨h2, h3⟩ := h2
        clear hT k1 k2
        go_enter Tryd.func14, Tryd.ntmps14
        go_wp2_with (go_at_call 35; refine stopc ?_)
        refine Stop.go ?_
        refine (small02_any _).mono ?_
        rintro e w1 ⟨he, hs1⟩
        subst he
        have HS1 := Lib.hid (HS0.out.trans hs1)
        clear hs1
        go_wp2_with (go_at_call 26; refine stopc ?_)
        refine Stop.go ?_
        refine (c1 _).mono ?_
        rintro e w2 ⟨he, hs2⟩
        subst he
        have HS2 := Lib.hid (HS1.out.trans hs2)
        clear hs2
        go_wp2_with (go_at_call 26; refine stopc ?_)
        refine Stop.go ?_
        refine (c2 _).mono ?_
        rintro e w3 ⟨he, hs3⟩
        subst he
        have HS3 := Lib.hid (HS2.out.trans hs3)
        clear hs3
        go_wp2_with (go_at_call 37; refine stopc ?_)
        refine Stop.go ?_
        refine (c3 _).mono ?_
        rintro e w4 ⟨he, hs4⟩
        subst he
        have HS4 := Lib.hid (HS3.out.trans hs4)
        clear hs4
        go_wp2_with (go_at_call 44; refine stopc ?_)
        refine Stop.go ?_
        refine (c4 _).mono ?_
        rintro e w5 ⟨he, hs5⟩
        obtain rfl : e = .returned (.tuple #[.int .i64 m, .bool false]) := he.trans (rfl)
        have HS5 := Lib.hid (HS4.out.trans hs5)
        clear hs5 he
        go_wp2_with (go_at_call 48; refine stopc ?_)
        refine Stop.go ?_
        refine (c6 _).mono ?_
        rintro e w6 ⟨he, hs6⟩
        subst he
        have HS6 := Lib.hid (HS5.out.trans hs6)
        clear hs6
        go_wp2_with (go_at_call 44; refine stopc ?_)
        refine Stop.go ?_
        refine (c7 _).mono ?_
        rintro e w7 ⟨he, hs7⟩
        obtain rfl : e = .returned (.tuple #[.int .i64 k, .bool true]) := he.trans (rfl)
        have HS7 := Lib.hid (HS6.out.trans hs7)
        clear hs7 he
        go_wp2_with (go_at_call 44; refine stopc ?_)
        refine Stop.go ?_
        refine (c8 _).mono ?_
        rintro e w8 ⟨he, hs8⟩
        obtain rfl : e = .returned (.tuple #[.int .i64 0, .bool false]) := he.trans (rfl)
        have HS8 := Lib.hid (HS7.out.trans hs8)
        clear hs8 he
        go_wp2
        rw [HR.out]
        exact ⟨rfl, HS8.out⟩
      · have key : n < 0 ∨ (0 ≤ n ∧ 999999999999999999 < n) := by omega
        clear h2
        rcases key with h2 | ⟨h2, h3⟩
        all_goals
          go_enter Tryd.func14, Tryd.ntmps14
          go_wp2_with (go_at_call 35; refine stopc ?_)
          refine Stop.go ?_
          refine (small02_any _).mono ?_
          rintro e w1 ⟨he, hs1⟩
          subst he
          have HS1 := Lib.hid (HS0.out.trans hs1)
          clear hs1
          go_wp2_with (go_at_call 26; refine stopc ?_)
          refine Stop.go ?_
          refine (c1 _).mono ?_
          rintro e w2 ⟨he, hs2⟩
          subst he
          have HS2 := Lib.hid (HS1.out.trans hs2)
          clear hs2
          go_wp2_with (go_at_call 26; refine stopc ?_)
          refine Stop.go ?_
          refine (c2 _).mono ?_
          rintro e w3 ⟨he, hs3⟩
          subst he
          have HS3 := Lib.hid (HS2.out.trans hs3)
          clear hs3
          go_wp2_with (go_at_call 37; refine stopc ?_)
          refine Stop.go ?_
          refine (c3 _).mono ?_
          rintro e w4 ⟨he, hs4⟩
          subst he
          have HS4 := Lib.hid (HS3.out.trans hs4)
          clear hs4
          go_wp2_with (go_at_call 44; refine stopc ?_)
          refine Stop.go ?_
          refine (c4 _).mono ?_
          rintro e w5 ⟨he, hs5⟩
          obtain rfl : e = .returned (.tuple #[.int .i64 m, .bool false]) := he.trans (rfl)
          have HS5 := Lib.hid (HS4.out.trans hs5)
          clear hs5 he
          go_wp2
          rw [HR.out]
          exact ⟨rfl, HS5.out⟩
  · have h1' : 3000 < s.size := by omega
    go_enter Tryd.func14, Tryd.ntmps14
    go_wp2_with (go_at_call 35; refine stopc ?_)
    refine Stop.go ?_
    refine (small02_any _).mono ?_
    rintro e w1 ⟨he, hs1⟩
    subst he
    have HS1 := Lib.hid (HS0.out.trans hs1)
    clear hs1
    go_wp2
    rw [HR.out]
    exact ⟨rfl, HS1.out⟩
end Go.Proofs.YteoffbglbpdekaaDoor.L
