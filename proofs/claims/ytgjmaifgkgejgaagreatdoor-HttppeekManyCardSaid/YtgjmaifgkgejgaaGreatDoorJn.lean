/- Layer 16: the law HttppeekMany. -/
import Derived.Test.YtgjmaifgkgejgaaGreatDoorJk
set_option linter.unusedVariables false
set_option linter.unusedSimpArgs false
namespace Go.Proofs.YtgjmaifgkgejgaaGreatDoor.L
open Go.RowKit Go.Proofs

theorem many_next (k : Nat) : manyL (k + 1) = manyL k ++ [98, 58, 32, 99, 13, 10] := by
  unfold manyL
  have e : hostA :: List.replicate (k + 1) bcL = (hostA :: List.replicate k bcL) ++ [bcL] := by
    rw [List.cons_append, ← List.replicate_succ']
  rw [e, flat_snoc, ← List.append_assoc]
  rfl
set_option maxRecDepth 100000 in
set_option maxHeartbeats 8000000 in
theorem many16_any (n : Int) (w : World) (he : EnvP w) :
    Calls Tryz.prog 6 #[.int .i64 n] w (TrueV w) := by
  obtain ⟨R, hR⟩ : ∃ R, R = TrueV w := ⟨_, rfl⟩
  rw [← hR]
  have HR := Lib.hid hR
  have HM := Lib.hid he
  clear hR he
  by_cases hbig : 0 ≤ n ∧ n ≤ 130
  · obtain ⟨h0, h1⟩ := hbig
    obtain ⟨N, rfl⟩ : ∃ N : Nat, n = N := ⟨n.toNat, by omega⟩
    have d0 : decide ((N : Int) < 0) = false := decide_eq_false (by omega)
    have d1 : decide ((130 : Int) < (N : Int)) = false := decide_eq_false (by omega)
    have HS0 := Lib.hid (Stp.refl (fun _ => False) w)
    go_enter Tryz.func6, Tryz.ntmps6
    go_wp2_with (go_at_call 9; refine stopc ?_)
    refine Stop.go ?_
    refine (small16_any _ (HM.out.step HS0.out)).mono ?_
    rintro e w1 ⟨he, hs1⟩
    subst he
    have HS1 := Lib.hid (HS0.out.trans hs1)
    clear hs1
    go_wp2
    go_loopg [4, 5] N (fun gf s i wr => ∃ (k : Nat) (S : ByteArray), k + gf = N ∧ i = .int .i64 k ∧ s = .string S ∧ S.data.toList = manyL k ∧ wr = w1)
    case atStart => exact ⟨0, _, by omega, rfl, rfl, by decide, rfl⟩
    case round =>
      obtain ⟨k, S, hk, rfl, rfl, hs, hw⟩ := hrel
      obtain rfl := hw.symm
      have HSS := Lib.hid hs
      clear hs hw
      by_cases hlt : k < N
      · obtain ⟨g', rfl⟩ : ∃ g', gk = g' + 1 := ⟨gk - 1, by omega⟩
        have hsz : S.size ≤ 1000 := by rw [← size_list, HSS.out, many_len]; omega
        go_wp2
        go_roundg g'
        case measure => omega
        case rel => exact ⟨k + 1, _, by omega, by go_num, rfl, by rw [many_next, ← HSS.out]; simp, rfl⟩
      · obtain rfl : k = N := by omega
        have hsz : S.size = 25 + 6 * k := by rw [← size_list, HSS.out, many_len]
        have HSZ := Lib.hid hsz
        go_wp2_with (with_reducible refine stop (N := 24) rfl ?_)
        refine Stop.go ?_
        refine wp_bytesRd rfl _ _ _ rfl Tryz.underlying9 Tryz.underlying22 Tryz.underlying5 rfl (by rw [← size_list]; simp [HSS.out, many_len]; omega) ?_
        intro W2 c hrd hsW
        have hb : (S ++ ⟨#[13, 10]⟩ : ByteArray).data.toList = manyL k ++ [13, 10] := by rw [← HSS.out]; simp
        have hz2 : (S ++ ⟨#[13, 10]⟩ : ByteArray).size = 27 + 6 * k := by rw [← size_list, hb, List.length_append, many_len]; simp; omega
        rw [hb] at hrd
        obtain ⟨z, hz⟩ : ∃ z, z = (S ++ ⟨#[13, 10]⟩ : ByteArray).size := ⟨_, rfl⟩
        rw [← hz] at hrd hz2 ⊢
        have HS2 := Lib.hid (HS1.out.trans hsW)
        have HRD := Lib.hid hrd
        replace HM := Lib.hid (HM.out.step HS2.out)
        clear hrd hsW hz
        by_cases hn : k ≤ 99
        · have d2 : decide ((99 : Int) < (k : Int)) = false := decide_eq_false (by omega)
          have cA : Calls Tryz.prog 11 #[.slice (some ⟨w1.heap.size, 0, none⟩) z c] W2 fun e w' => e = .returned (.agg #[.int .i64 1, .int .i64 2, .int .i64 ((27 + 6 * k : Nat) : Int), .int .i64 0, .string ⟨#[97]⟩, .int .i64 0, .bool false, .string ⟨#[]⟩, .slice none 0 0, .slice none 0 0, .bool false]) ∧ Stp (fun _ => False) W2 w' := by
            have h := pall_any (fun _ => False) (.slice (some ⟨w1.heap.size, 0, none⟩) z c) _ W2 HRD.out (by rw [List.length_append, many_len]; simp; omega) HM.out
            unfold AllP at h
            rw [many_few k hn, many_len] at h
            rw [show 25 + 6 * k + 2 = 27 + 6 * k by omega] at h
            exact h
          obtain ⟨u, hu⟩ : ∃ u : Nat, u = 27 + 6 * k := ⟨_, rfl⟩
          have hnum : IntKind.i64.wrap ((S.size : Int) + 2) = (u : Int) := by
            rw [IntWalk.i64_in _ (by omega), HSZ.out]
            omega
          rw [← hu] at cA
          clear hsz hz2 hu hb
          have HS0 := Lib.hid (Stp.refl (fun _ => False) W2)
          go_wp2_with (go_at_call 11; refine stopc ?_)
          refine Stop.go ?_
          refine (cA).mono ?_
          rintro e w1 ⟨he, hs1⟩
          subst he
          have HS1 := Lib.hid (HS0.out.trans hs1)
          clear hs1
          go_wp2
          rw [HR.out]
          exact ⟨rfl, HS2.out.trans (HS1.out.alloc _)⟩
        · have d2 : decide ((99 : Int) < (k : Int)) = true := decide_eq_true (by omega)
          have cA : Calls Tryz.prog 11 #[.slice (some ⟨w1.heap.size, 0, none⟩) z c] W2 fun e w' => e = .returned (.agg #[.int .i64 2, .int .i64 2, .int .i64 625, .int .i64 2, .string ⟨#[]⟩, .int .i64 0, .bool false, .string ⟨#[]⟩, .slice none 0 0, .slice none 0 0, .bool false]) ∧ Stp (fun _ => False) W2 w' := by
            have h := pall_any (fun _ => False) (.slice (some ⟨w1.heap.size, 0, none⟩) z c) _ W2 HRD.out (by rw [List.length_append, many_len]; simp; omega) HM.out
            unfold AllP at h
            rw [many_more k hn] at h
            exact h
          clear hsz hz2 hb
          have HS0 := Lib.hid (Stp.refl (fun _ => False) W2)
          go_wp2_with (go_at_call 11; refine stopc ?_)
          refine Stop.go ?_
          refine (cA).mono ?_
          rintro e w1 ⟨he, hs1⟩
          subst he
          have HS1 := Lib.hid (HS0.out.trans hs1)
          clear hs1
          go_wp2
          rw [HR.out]
          exact ⟨rfl, HS2.out.trans (HS1.out.alloc _)⟩
  · have key : (decide (n < 0) = true) ∨ (decide (n < 0) = false ∧ decide ((130 : Int) < n) = true) := by
      simp only [decide_eq_true_eq, decide_eq_false_iff_not]
      omega
    clear hbig
    rcases key with h1 | ⟨h1, h2⟩
    all_goals
      have HS0 := Lib.hid (Stp.refl (fun _ => False) w)
      go_enter Tryz.func6, Tryz.ntmps6
      go_wp2_with (go_at_call 9; refine stopc ?_)
      refine Stop.go ?_
      refine (small16_any _ (HM.out.step HS0.out)).mono ?_
      rintro e w1 ⟨he, hs1⟩
      subst he
      have HS1 := Lib.hid (HS0.out.trans hs1)
      clear hs1
      go_wp2
      rw [HR.out]
      exact ⟨rfl, HS1.out⟩
end Go.Proofs.YtgjmaifgkgejgaaGreatDoor.L
