/- Layer 2: the laws of blanks, and hexadecimal digits. -/
import Derived.Test.YteoffbglbpdekaaDoorLh
set_option linter.unusedVariables false
set_option linter.unusedSimpArgs false
namespace Go.Proofs.YteoffbglbpdekaaDoor.L
open Go.RowKit Go.Proofs

theorem rep_snoc (k : Nat) (c : UInt8) : List.replicate k c ++ [c] = List.replicate (k + 1) c := by rw [List.replicate_succ']
theorem bl_not (c : UInt8) (h : isBl c = false) : ((c.toNat : Int) == 32) = false ∧ ((c.toNat : Int) == 9) = false := by
  rcases bl_cases c with ⟨h1, _⟩ | ⟨h1, _⟩ | ⟨_, h2⟩
  · rw [h] at h1; cases h1
  · rw [h] at h1; cases h1
  · exact h2
set_option maxRecDepth 100000 in
set_option maxHeartbeats 8000000 in
theorem trims02_law (s : ByteArray) (n m : Int) (w : World) (ws : s.size ≤ 9223372036854775807) (wn : -9223372036854775808 ≤ n ∧ n ≤ 9223372036854775807) (wm : -9223372036854775808 ≤ m ∧ m ≤ 9223372036854775807) :
    Calls Tryd.prog 16 #[.string s, .int .i64 n, .int .i64 m] w (TrueStp w) := by
  have HS0 := Lib.hid (Stp.refl (fun _ => False) w)
  obtain ⟨R, hR⟩ : ∃ R, R = TrueStp w := ⟨_, rfl⟩
  rw [← hR]
  have HR := Lib.hid hR
  clear hR
  by_cases hg : s.size ≤ 1000 ∧ 0 ≤ n ∧ n ≤ 50 ∧ 0 ≤ m ∧ m ≤ 50
  · obtain ⟨h1, n0, n1, m0, m1⟩ := hg
    obtain ⟨N, rfl⟩ := Int.eq_ofNat_of_zero_le n0
    obtain ⟨M, rfl⟩ := Int.eq_ofNat_of_zero_le m0
    have hN : N ≤ 50 := by omega
    have hM : M ≤ 50 := by omega
    go_enter Tryd.func16, Tryd.ntmps16
    go_wp2_with (go_at_call 35; refine stopc ?_)
    refine Stop.go ?_
    refine (small02_any _).mono ?_
    rintro e w1 ⟨he, hs1⟩
    subst he
    have HS1 := Lib.hid (HS0.out.trans hs1)
    clear hs1
    go_wp2
    go_loopg [8, 9] N (fun gf b i wr => ∃ k : Nat, k + gf = N ∧ i = .int .i64 k ∧ b = .string (strB (List.replicate k 32)) ∧ wr = w1)
    case atStart => exact ⟨0, by omega, rfl, rfl, rfl⟩
    case round =>
      obtain ⟨k, hk, rfl, rfl, hw⟩ := hrel
      obtain rfl := hw.symm
      by_cases hlt : k < N
      · obtain ⟨g', rfl⟩ : ∃ g', gk = g' + 1 := ⟨gk - 1, by omega⟩
        obtain ⟨B, hB⟩ : ∃ B, B = strB (List.replicate k 32) := ⟨_, rfl⟩
        rw [← hB]
        have hBs : B.size ≤ 50 := by rw [hB, strB_size, List.length_replicate]; omega
        have HB := Lib.hid hB
        clear hB hw
        go_wp2
        go_roundg g'
        case measure => omega
        case rel =>
          refine ⟨k + 1, by omega, by go_num, ?_, rfl⟩
          rw [HB.out]
          congr 1
          rw [← rep_snoc, ← strB_append]
          rfl
      · obtain rfl : k = N := by omega
        clear hw
        go_wp2
        go_loopg [8, 10] M (fun gf b i wr => ∃ j : Nat, j + gf = M ∧ i = .int .i64 j ∧ b = .string (strB (List.replicate k 32 ++ List.replicate j 9)) ∧ wr = w1)
        case atStart => exact ⟨0, by omega, rfl, by simp, rfl⟩
        case round =>
          obtain ⟨j, hj, rfl, rfl, hw⟩ := hrel
          obtain rfl := hw.symm
          clear hw
          obtain ⟨B, hB⟩ : ∃ B, B = strB (List.replicate k 32 ++ List.replicate j 9) := ⟨_, rfl⟩
          rw [← hB]
          have hBs : B.size ≤ 100 := by rw [hB, strB_size, List.length_append, List.length_replicate, List.length_replicate]; omega
          by_cases hlt2 : j < M
          · obtain ⟨g', rfl⟩ : ∃ g', gk = g' + 1 := ⟨gk - 1, by omega⟩
            have HB := Lib.hid hB
            clear hB
            go_wp2
            go_roundg g'
            case measure => omega
            case rel =>
              refine ⟨j + 1, by omega, by go_num, ?_, rfl⟩
              rw [HB.out]
              congr 1
              rw [← rep_snoc, ← List.append_assoc, ← strB_append]
              rfl
          · have hbl : (List.replicate k (32 : UInt8) ++ List.replicate j 9).all isBl = true := by
              rw [List.all_append, List.all_replicate, List.all_replicate]
              have e1 : isBl 32 = true := by decide
              have e2 : isBl 9 = true := by decide
              rw [e1, e2]
              simp
            have c2 := fun W => trim_any s W ws
            have c3 := fun W => trim_any (B ++ s ++ B) W (by simp; omega)
            obtain ⟨z, hz⟩ : ∃ z, z = trimS s.data.toList := ⟨_, rfl⟩
            have e3 : trimS (B ++ s ++ B).data.toList = z := by
              rw [app_data, app_data, hB, strB_data, hz]
              exact trim_wrap _ _ _ hbl hbl
            rw [e3] at c3
            rw [← hz] at c2
            have hz1 := fun c => trim_first s.data.toList c
            have hz2 := fun c => trim_last s.data.toList c
            have hz3 := trim_trim s.data.toList
            rw [← hz] at hz1 hz2 hz3
            obtain ⟨T, hT⟩ : ∃ T, T = strB z := ⟨_, rfl⟩
            have hTs : T.size ≤ 9223372036854775807 := by
              obtain ⟨a, b, he, _, _⟩ := trim_parts s.data.toList
              rw [← hz] at he
              have := congrArg List.length he
              rw [List.length_append, List.length_append, size_list] at this
              rw [hT, strB_size]
              omega
            have c4 := fun W => trim_any T W hTs
            have e4 : trimS T.data.toList = z := by rw [hT, strB_data]; exact hz3
            rw [e4] at c4
            rw [← hT] at c2 c3 c4
            have e5 : (T.toList == T.toList) = true := by simp
            by_cases hT0 : T.size = 0
            · clear hB hz e3 hz1 hz2 hz3 e4 hT hbl hN hM n0 n1 m0 m1 hlt
              go_wp2_with (go_at_call 42; refine stopc ?_)
              refine Stop.go ?_
              refine (c2 _).mono ?_
              rintro e w2 ⟨he, hs2⟩
              subst he
              have HS2 := Lib.hid (HS1.out.trans hs2)
              clear hs2
              go_wp2_with (go_at_call 42; refine stopc ?_)
              refine Stop.go ?_
              refine (c3 _).mono ?_
              rintro e w3 ⟨he, hs3⟩
              subst he
              have HS3 := Lib.hid (HS2.out.trans hs3)
              clear hs3
              go_wp2_with (go_at_call 42; refine stopc ?_)
              refine Stop.go ?_
              refine (c4 _).mono ?_
              rintro e w4 ⟨he, hs4⟩
              subst he
              have HS4 := Lib.hid (HS3.out.trans hs4)
              clear hs4
              go_wp2
              rw [HR.out]
              exact ⟨rfl, HS4.out⟩
            · obtain ⟨q, hq⟩ : ∃ q, T.size = q + 1 := ⟨T.size - 1, by omega⟩
              have l0 : 0 < T.size := by omega
              have lq : q < T.size := by omega
              have hTz : T.data.toList = z := by rw [hT, strB_data]
              have g1 := bl_not _ (hz1 T[0] (by have := get_list T 0 l0; rw [hTz] at this; exact this))
              have g2 := bl_not _ (hz2 T[q] (by
                have := get_list T q lq
                rw [hTz] at this
                have hlen : z.length = q + 1 := by rw [← hTz, size_list, hq]
                rw [List.getElem?_reverse (by omega), hlen, ← this]
                congr 1))
              obtain ⟨g1, g1'⟩ := g1
              obtain ⟨g2, g2'⟩ := g2
              clear hB hz e3 hz1 hz2 hz3 e4 hT hbl hN hM n0 n1 m0 m1 hlt hT0 hTz
              go_wp2_with (go_at_call 42; refine stopc ?_)
              refine Stop.go ?_
              refine (c2 _).mono ?_
              rintro e w2 ⟨he, hs2⟩
              subst he
              have HS2 := Lib.hid (HS1.out.trans hs2)
              clear hs2
              go_wp2_with (go_at_call 42; refine stopc ?_)
              refine Stop.go ?_
              refine (c3 _).mono ?_
              rintro e w3 ⟨he, hs3⟩
              subst he
              have HS3 := Lib.hid (HS2.out.trans hs3)
              clear hs3
              go_wp2_with (go_at_call 42; refine stopc ?_)
              refine Stop.go ?_
              refine (c4 _).mono ?_
              rintro e w4 ⟨he, hs4⟩
              subst he
              have HS4 := Lib.hid (HS3.out.trans hs4)
              clear hs4
              go_wp2
              rw [HR.out]
              exact ⟨rfl, HS4.out⟩
  · have key : 1000 < s.size ∨ (s.size ≤ 1000 ∧ (n < 0 ∨ (0 ≤ n ∧ (50 < n ∨ (n ≤ 50 ∧ (m < 0 ∨ (0 ≤ m ∧ 50 < m))))))) := by omega
    clear hg
    rcases key with k1 | ⟨k1, k2 | ⟨k2, k3 | ⟨k3, k4 | ⟨k4, k5⟩⟩⟩⟩
    all_goals
      go_enter Tryd.func16, Tryd.ntmps16
      go_wp2_with (go_at_call 35; refine stopc ?_)
      refine Stop.go ?_
      refine (small02_any _).mono ?_
      rintro e w1 ⟨he, hs1⟩
      subst he
      have HS1 := Lib.hid (HS0.out.trans hs1)
      clear hs1
      go_wp2
      rw [HR.out]
      exact ⟨rfl, HS1.out⟩
end Go.Proofs.YteoffbglbpdekaaDoor.L
