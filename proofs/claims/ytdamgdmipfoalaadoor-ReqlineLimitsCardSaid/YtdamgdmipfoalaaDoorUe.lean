/- Layer 11: the law ReqlineLimits. -/
import Derived.Test.YtdamgdmipfoalaaDoorUa
import Derived.Test.YtdamgdmipfoalaaDoorBp
set_option linter.unusedVariables false
set_option linter.unusedSimpArgs false
namespace Go.Proofs.YtdamgdmipfoalaaDoor.L
open Go.RowKit Go.Proofs

def limA (n : Nat) : List UInt8 := List.replicate n 65
def limB (m : Nat) : List UInt8 := 47 :: List.replicate (m - 1) 120
theorem lim_parse (n m : Nat) (h1 : 1 ≤ n) (h2 : 1 ≤ m) : parseRq (lineRq ⟨limA n, limB m, 0⟩) = if 32 < n then (Rq.none, 11) else if 8000 < m then (Rq.none, 6) else (⟨limA n, limB m, 0⟩, 0) := by
  have a1 : allS tokR (limA n) = true := by
    unfold allS limA
    rw [Bool.and_eq_true]
    refine ⟨?_, ?_⟩
    · rw [List.all_eq_true]
      intro x hx
      rw [List.eq_of_mem_replicate hx]
      decide
    · cases n with
      | zero => omega
      | succ n => simp [List.replicate_succ]
  have a2 : allS visR (limB m) = true := by
    unfold allS limB
    rw [Bool.and_eq_true]
    refine ⟨?_, ?_⟩
    · rw [List.all_eq_true]
      intro x hx
      rcases List.mem_cons.1 hx with rfl | hx
      · decide
      · rw [List.eq_of_mem_replicate hx]
        decide
    · simp
  have la : (limA n).length = n := by simp [limA]
  have lb : (limB m).length = m := by simp [limB]; omega
  unfold parseRq lineRq
  rw [split3 _ _ _ (tok_no32 _ a1) (vis_no32 _ a2) (ver_no32 _)]
  simp only
  unfold threeS wrongS
  rw [a1, a2, la, lb]
  by_cases g1 : 32 < n
  · simp [g1]
  · by_cases g2 : 8000 < m
    · simp [g1, g2]
    · simp [g1, g2]
theorem limA_succ (k : Nat) : strB (limA (k + 1)) = strB (limA k) ++ ⟨#[65]⟩ := by
  apply ByteArray.ext
  apply Array.ext'
  simp [strB, limA, List.replicate_succ']
theorem limB_succ (k : Nat) (h : 1 ≤ k) : limB (k + 1) = limB k ++ [120] := by
  unfold limB
  rw [show k + 1 - 1 = (k - 1) + 1 by omega, List.replicate_succ']
  rfl

set_option maxRecDepth 100000 in
set_option maxHeartbeats 8000000 in
theorem limits11_any (n m : Int) (w : World) (hml : MaxL w) :
    Calls Tryd.prog 6 #[.int .i64 n, .int .i64 m] w (TrueV w) := by
  obtain ⟨R, hR⟩ : ∃ R, R = TrueV w := ⟨_, rfl⟩
  rw [← hR]
  have HR := Lib.hid hR
  have HM := Lib.hid hml
  clear hR hml
  by_cases hbig : ¬ (1 ≤ n ∧ n ≤ 100 ∧ 1 ≤ m ∧ m ≤ 8100)
  · have key : (decide (n < 1) = true) ∨ (decide (n < 1) = false ∧ decide (100 < n) = true) ∨ (decide (n < 1) = false ∧ decide (100 < n) = false ∧ decide (m < 1) = true) ∨ (decide (n < 1) = false ∧ decide (100 < n) = false ∧ decide (m < 1) = false ∧ decide (8100 < m) = true) := by
      simp only [decide_eq_true_eq, decide_eq_false_iff_not]
      omega
    clear hbig
    rcases key with h1 | ⟨h1, h2⟩ | ⟨h1, h2, h3⟩ | ⟨h1, h2, h3, h4⟩
    all_goals
      have HS0 := Lib.hid (Stp.refl (fun _ => False) w)
      go_enter Tryd.func6, Tryd.ntmps6
      go_wp2_with (go_at_call 12; refine stopc ?_)
      refine Stop.go ?_
      refine (small11_any _ (HM.out.step HS0.out)).mono ?_
      rintro e w1 ⟨he, hs1⟩
      subst he
      have HS1 := Lib.hid (HS0.out.trans hs1)
      clear hs1
      go_wp2
      rw [HR.out]
      exact ⟨rfl, HS1.out⟩
  · obtain ⟨l1, l2, l3, l4⟩ := Classical.not_not.1 hbig
    obtain ⟨N, rfl⟩ : ∃ N : Nat, n = (N : Int) := ⟨n.toNat, by omega⟩
    obtain ⟨M, rfl⟩ : ∃ M : Nat, m = (M : Int) := ⟨m.toNat, by omega⟩
    have h1 : decide ((N : Int) < 1) = false := decide_eq_false (by omega)
    have h2 : decide ((100 : Int) < (N : Int)) = false := decide_eq_false (by omega)
    have h3 : decide ((M : Int) < 1) = false := decide_eq_false (by omega)
    have h4 : decide ((8100 : Int) < (M : Int)) = false := decide_eq_false (by omega)
    clear hbig
    have HS0 := Lib.hid (Stp.refl (fun _ => False) w)
    go_enter Tryd.func6, Tryd.ntmps6
    go_wp2_with (go_at_call 12; refine stopc ?_)
    refine Stop.go ?_
    refine (small11_any _ (HM.out.step HS0.out)).mono ?_
    rintro e w1 ⟨he, hs1⟩
    subst he
    have HS1 := Lib.hid (HS0.out.trans hs1)
    clear hs1
    go_wp2
    go_loopg [6, 7] N (fun gf x i wr => ∃ (k : Nat) (X : ByteArray), k + gf = N ∧ X = strB (limA k) ∧ X.size = k ∧ x = .string X ∧ i = .int .i64 k ∧ wr = w1)
    case atStart => exact ⟨0, ⟨#[]⟩, by omega, rfl, rfl, rfl, rfl, rfl⟩
    case round =>
      obtain ⟨k, X, hk, hX, hXs, rfl, rfl, hw⟩ := hrel
      obtain rfl := hw.symm
      clear hw
      have HX := Lib.hid hX
      clear hX
      by_cases hlt : k < N
      · obtain ⟨g', rfl⟩ : ∃ g', gk = g' + 1 := ⟨gk - 1, by omega⟩
        go_wp2
        go_roundg g'
        case measure => omega
        case rel => exact ⟨k + 1, X ++ ⟨#[65]⟩, by omega, by rw [HX.out, limA_succ], by rw [ByteArray.size_append, hXs]; rfl, rfl, by go_num, rfl⟩
      · obtain rfl : k = N := by omega
        have l3' : 1 ≤ M := by omega
        have l4' : M ≤ 8100 := by omega
        have l1' : 1 ≤ k := by omega
        have l2' : k ≤ 100 := by omega
        go_wp2
        go_loopg [8, 9] (M - 1) (fun gf v i wr => ∃ j : Nat, 1 ≤ j ∧ j + gf = M ∧ i = .int .i64 j ∧ Own enc8 5 w.heap.size wr v (limB j) ∧ Stp (fun _ => False) w wr)
        case atStart =>
          refine ⟨1, Nat.le_refl _, by omega, rfl, ?_, HS1.out.alloc _⟩
          exact Own.lit (enc := enc8) (e := 5) (B := w.heap.size) (W := w1) [47] #[.int .u8 47] rfl HS1.out.size (by decide)
        case round =>
          obtain ⟨j, hj1, hj, rfl, ho, hst⟩ := hrel
          have HO := Lib.hid ho
          have HS := Lib.hid hst
          clear ho hst
          have hlb : (limB j).length = j := by simp [limB]; omega
          by_cases hjm : j < M
          · obtain ⟨g', rfl⟩ : ∃ g', gk = g' + 1 := ⟨gk - 1, by omega⟩
            go_wp2_with (with_reducible refine stop (N := 43) rfl ?_)
            refine Stop.go ?_
            refine wp_append1 enc8 120 rfl rfl _ _ _ rfl Tryd.underlying38 info_u8 rfl (HO.out.stp0 ((Stp.refl _ _).alloc _)) rfl ⟨wr.heap.size, 0, none⟩ 1 rfl ?_ (by omega) (by omega) (by have := HS.out.size; simp; omega) ?_
            · exact blk_cell (j := 0) (heap_alloc_new _ _)
            · intro v3 w3 ho3 hg3
              rw [← limB_succ j hj1] at ho3
              have HO3 := Lib.hid ho3
              have HS3 := Lib.hid ((HS.out.alloc _).own (HO.out.stp0 ((Stp.refl _ _).alloc _)) hg3)
              clear ho3 hg3 hlb
              go_wp2
              go_roundg g'
              case measure => omega
              case rel => exact ⟨j + 1, by omega, by omega, by go_num, HO3.out, HS3.out⟩
          · obtain rfl : j = M := by omega
            obtain ⟨A, c, rfl, hle⟩ := HO.out.form
            rw [hlb]
            obtain ⟨Y, hY⟩ : ∃ Y, Y = strB (limB j) := ⟨_, rfl⟩
            have hYs : Y.size = j := by rw [hY, sB_size]; exact hlb
            have hcv : ∀ W, Stp (fun _ => False) wr W → (convert 38 9 (.slice A j c)).run Tryd.prog W = .ok (.string Y) W := fun W hW => by
              have h := conv_of ((HO.out.stp0 hW).rd (h1 := fun _ => rfl) (M := fun _ => False) (fun _ _ => id))
              unfold convB at h
              rw [hlb, ← hY] at h
              exact h
            have hline : X ++ ⟨#[32]⟩ ++ Y ++ ⟨#[32, 72, 84, 84, 80, 47, 49, 46, 48]⟩ = strB (lineRq ⟨limA k, limB j, 0⟩) := by
              rw [HX.out, hY]
              apply ByteArray.ext
              apply Array.ext'
              simp [lineRq, strB, olderL]
            have HCV := Lib.hid hcv
            have hc0 := hcv wr (Stp.refl _ _)
            have cp : ∀ W, MaxL W → Calls Tryd.prog 13 #[.string (X ++ ⟨#[32]⟩ ++ Y ++ ⟨#[32, 72, 84, 84, 80, 47, 49, 46, 48]⟩)] W fun e w' => e = .returned (ReqE (if 32 < k then (Rq.none, 11) else if 8000 < j then (Rq.none, 6) else (⟨limA k, limB j, 0⟩, 0))) ∧ Stp (fun _ => False) W w' := fun W hW => by
              have h := qparse_any (X ++ ⟨#[32]⟩ ++ Y ++ ⟨#[32, 72, 84, 84, 80, 47, 49, 46, 48]⟩) W (by
                have h9 : (⟨#[32, 72, 84, 84, 80, 47, 49, 46, 48]⟩ : ByteArray).size = 9 := rfl
                have h8 : (⟨#[32]⟩ : ByteArray).size = 1 := rfl
                simp only [ByteArray.size_append]
                omega) hW
              rw [hline, sB_data, lim_parse k j l1' hj1, ← hline] at h
              exact h
            have e1 : strB (limA k) = X := HX.out.symm
            have e2 : strB (limB j) = Y := hY.symm
            clear hcv hline hY hle hlb
            by_cases g1 : 32 < k
            · rw [if_pos g1] at cp
              have d1 : decide ((32 : Int) < (k : Int)) = true := decide_eq_true (by omega)
              unfold ReqE ReqV Rq.none at cp
              simp only [show strB [] = (⟨#[]⟩ : ByteArray) from rfl] at cp
              clear g1 e1 e2
              go_wp2_with (go_at_call 13; refine stopc ?_)
              refine Stop.go ?_
              refine (cp _ (HM.out.step HS.out)).mono ?_
              rintro e w9 ⟨rfl, hs9⟩
              have HS9 := Lib.hid (HS.out.trans hs9)
              clear hs9
              go_wp2
              rw [HR.out]
              exact ⟨rfl, HS9.out.alloc _⟩
            · rw [if_neg g1] at cp
              have d1 : decide ((32 : Int) < (k : Int)) = false := decide_eq_false (by omega)
              by_cases g2 : 8000 < j
              · rw [if_pos g2] at cp
                have d2 : decide ((8000 : Int) < (j : Int)) = true := decide_eq_true (by omega)
                unfold ReqE ReqV Rq.none at cp
                simp only [show strB [] = (⟨#[]⟩ : ByteArray) from rfl] at cp
                clear g1 g2 e1 e2
                go_wp2_with (go_at_call 13; refine stopc ?_)
                refine Stop.go ?_
                refine (cp _ (HM.out.step HS.out)).mono ?_
                rintro e w9 ⟨rfl, hs9⟩
                have HS9 := Lib.hid (HS.out.trans hs9)
                clear hs9
                go_wp2
                rw [HR.out]
                exact ⟨rfl, HS9.out.alloc _⟩
              · rw [if_neg g2] at cp
                have d2 : decide ((8000 : Int) < (j : Int)) = false := decide_eq_false (by omega)
                simp only [ReqE, ReqV, e1, e2] at cp
                clear g1 g2 e1 e2
                go_wp2_with (go_at_call 13; refine stopc ?_)
                refine Stop.go ?_
                refine (cp _ (HM.out.step HS.out)).mono ?_
                rintro e w9 ⟨rfl, hs9⟩
                have hcv2 := fun o => HCV.out _ (hs9.alloc o)
                have HS9 := Lib.hid (HS.out.trans hs9)
                clear hs9
                go_wp2
                rw [HR.out]
                exact ⟨rfl, HS9.out.alloc _⟩
end Go.Proofs.YtdamgdmipfoalaaDoor.L
