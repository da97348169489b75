/- Layer 2: the law of hexadecimal digits. -/
import Derived.Test.YteoffbglbpdekaaDoorLi
set_option linter.unusedVariables false
set_option linter.unusedSimpArgs false
namespace Go.Proofs.YteoffbglbpdekaaDoor.L
open Go.RowKit Go.Proofs

theorem hexT_cons (g : Bool) (j n : Nat) : hexT g (j + 1) n = hexD g (n / 16 ^ j % 16) :: hexT g j n := by
  induction j generalizing n with
  | zero => simp [hexT]
  | succ j ih =>
    rw [hexT, ih (n / 16)]
    show _ :: _ = _ :: (hexT g j (n / 16) ++ _)
    rw [Nat.div_div_eq_div_mul, ← Nat.pow_succ']
    rfl
def digB (g : Bool) : ByteArray := if g = true then ⟨#[48, 49, 50, 51, 52, 53, 54, 55, 56, 57, 65, 66, 67, 68, 69, 70]⟩ else ⟨#[48, 49, 50, 51, 52, 53, 54, 55, 56, 57, 97, 98, 99, 100, 101, 102]⟩
theorem digB_size (g : Bool) : (digB g).size = 16 := by cases g <;> rfl
theorem digB_at (g : Bool) (d : Nat) (h : d < 16) : (digB g).extract d (d + 1) = strB [hexD g d] := by
  have key : ∀ (g : Bool) (d : Fin 16), ((digB g).extract d.val (d.val + 1)).data.toList = [hexD g d.val] := by decide +kernel
  have := key g ⟨d, h⟩
  rw [← strB_of ((digB g).extract d (d + 1))]
  rw [this]
theorem ext1 (c : UInt8) (l : List UInt8) : (strB (c :: l)).extract 1 (strB (c :: l)).size = strB l := by
  rw [extract_strB, strB_data, strB_size, List.take_of_length_le (by simp)]
  rfl

theorem shortS_le (l : List UInt8) (h : ¬ 1 < l.length) : shortS l = l := by
  match l, h with
  | [], _ => rfl
  | [c], _ => rfl
  | c :: d :: r, h => simp at h
theorem shortS_no (l : List UInt8) (h : l[0]? ≠ some 48) : shortS l = l := by
  match l, h with
  | [], _ => rfl
  | [c], _ => rfl
  | c :: d :: r, h =>
    rw [shortS, if_neg]
    intro e
    exact h (by rw [e]; rfl)
theorem shortS_yes (c : UInt8) (l : List UInt8) (h : c = 48) (hl : l ≠ []) : shortS (c :: l) = shortS l := by
  match l, hl with
  | d :: r, _ => rw [shortS, if_pos h]

set_option maxRecDepth 100000 in
set_option maxHeartbeats 8000000 in
theorem hex02_law (n : Int) (g : Bool) (w : World) (hn : 0 ≤ n ∧ n ≤ 65535) : Calls Tryd.prog 17 #[.int .u16 n, .bool g] w (TrueStp w) := by
  have HS0 := Lib.hid (Stp.refl (fun _ => False) w)
  obtain ⟨R, hR⟩ : ∃ R, R = TrueStp w := ⟨_, rfl⟩
  rw [← hR]
  have HR := Lib.hid hR
  clear hR
  obtain ⟨n0, n1⟩ := hn
  obtain ⟨N, rfl⟩ := Int.eq_ofNat_of_zero_le n0
  have hN : N ≤ 65535 := by omega
  cases g
  case' false =>
    obtain ⟨D, hD⟩ : ∃ D, D = digB false := ⟨_, rfl⟩
    obtain ⟨g, hg⟩ : ∃ g, g = false := ⟨_, rfl⟩
    go_enter Tryd.func17, Tryd.ntmps17
    go_wp2_with (go_at_call 35; refine stopc ?_)
    refine Stop.go ?_
    refine (small02_any _).mono ?_
    rintro e w1 ⟨he, hs1⟩
    subst he
    have HS1 := Lib.hid (HS0.out.trans hs1)
    clear hs1
    go_wp2
    rw [show ({ data := #[48, 49, 50, 51, 52, 53, 54, 55, 56, 57, 97, 98, 99, 100, 101, 102] } : ByteArray) = D by rw [hD]; rfl]
    rw [← hg] at hD
    clear hg
  case' true =>
    obtain ⟨D, hD⟩ : ∃ D, D = digB true := ⟨_, rfl⟩
    obtain ⟨g, hg⟩ : ∃ g, g = true := ⟨_, rfl⟩
    go_enter Tryd.func17, Tryd.ntmps17
    go_wp2_with (go_at_call 35; refine stopc ?_)
    refine Stop.go ?_
    refine (small02_any _).mono ?_
    rintro e w1 ⟨he, hs1⟩
    subst he
    have HS1 := Lib.hid (HS0.out.trans hs1)
    clear hs1
    go_wp2
    rw [show ({ data := #[48, 49, 50, 51, 52, 53, 54, 55, 56, 57, 65, 66, 67, 68, 69, 70] } : ByteArray) = D by rw [hD]; rfl]
    rw [← hg] at hD
    clear hg
  all_goals
    have hDs : 16 ≤ D.size ∧ D.size ≤ 16 := by rw [hD, digB_size]; decide
    have HD := Lib.hid hD
    clear hD
    obtain ⟨hDs, hDs'⟩ := hDs
    go_loopg [7, 8, 9] 4 (fun gf x k i wr => ∃ j : Nat, j + gf = 4 ∧ i = .int .i64 j ∧ k = .int .i64 ((N / 16 ^ j : Nat) : Int) ∧ x = .string (strB (hexT g j N)) ∧ wr = w1)
    case atStart => exact ⟨0, by omega, rfl, by simp, rfl, rfl⟩
    case round =>
      obtain ⟨j, hj, rfl, rfl, rfl, hw⟩ := hrel
      obtain rfl := hw.symm
      clear hw
      by_cases hlt : j < 4
      · obtain ⟨g', rfl⟩ : ∃ g', gk = g' + 1 := ⟨gk - 1, by omega⟩
        obtain ⟨S, hS⟩ : ∃ S, S = strB (hexT g j N) := ⟨_, rfl⟩
        rw [← hS]
        have hSs : S.size ≤ 4 := by rw [hS, strB_size, hexT_len]; omega
        have HSS := Lib.hid hS
        obtain ⟨K, hK⟩ : ∃ K, K = N / 16 ^ j := ⟨_, rfl⟩
        rw [← hK]
        have hKb : K ≤ 65535 := by rw [hK]; exact Nat.le_trans (Nat.div_le_self _ _) hN
        have HK := Lib.hid hK
        obtain ⟨d, hd⟩ : ∃ d, d = K % 16 := ⟨_, rfl⟩
        have hd16 : d < 16 := by omega
        have hKd : ((K : Int) % 16) = (d : Int) := by omega
        have HDD := Lib.hid hd
        have HX := Lib.hid (digB_at g d hd16)
        clear hS hK hd
        go_wp2
        go_roundg g'
        case measure => omega
        case rel =>
          refine ⟨j + 1, by omega, by go_num, ?_, ?_, rfl⟩
          · congr 1
            rw [Nat.pow_succ, ← Nat.div_div_eq_div_mul, ← HK.out]
            omega
          · congr 1
            rw [hexT_cons, ← HK.out, ← HDD.out, HSS.out]
            rw [show hexD g d :: hexT g j N = [hexD g d] ++ hexT g j N from rfl, ← strB_append, ← HX.out, HD.out]
      · obtain rfl : j = 4 := by omega
        have hf := hexFrom_hexT g 4 N 0 (by omega)
        rw [Nat.zero_mul, Nat.zero_add] at hf
        have hlen := hexT_len g 4 N
        obtain ⟨l, hl⟩ : ∃ l, l = hexT g 4 N := ⟨_, rfl⟩
        rw [← hl] at hf hlen ⊢
        have hne : l ≠ [] := by intro e; rw [e] at hlen; simp at hlen
        have r1 := hexS_of l N hne (by omega) hf
        have r2 := hexS_of (shortS l) N ((shortS_len l).2 hne) (by have := (shortS_len l).1; omega) (by rw [shortS_from]; exact hf)
        have r3 := hexS_long (48 :: l) (by simp; omega)
        obtain ⟨S, hS⟩ : ∃ S, S = strB l := ⟨_, rfl⟩
        have hSs : S.size ≤ 4 := by rw [hS, strB_size]; omega
        have c2 := fun W => hex_any S W (by omega)
        have c4 := fun W => hex_any (⟨#[48]⟩ ++ S) W (by rw [← size_list, app_data, List.length_append, size_list, size_list]; have : (⟨#[48]⟩ : ByteArray).size = 1 := rfl; omega)
        rw [show (({ data := #[48] } : ByteArray) ++ S).data.toList = 48 :: l by rw [app_data, hS, strB_data]; rfl, r3] at c4
        rw [show S.data.toList = l by rw [hS, strB_data], r1] at c2
        have e1 : ((N : Int) == (N : Int)) = true := by simp
        have HR2 := Lib.hid r2
        have HNE := Lib.hid hne
        have HSB := Lib.hid hS
        rw [← hS]
        clear hl hf hlen hne r1 r2 r3 hS
        go_wp2_with (go_at_call 46; refine stopc ?_)
        refine Stop.go ?_
        refine (c2 _).mono ?_
        rintro e w2 ⟨he, hs2⟩
        obtain rfl : e = .returned (.tuple #[.int .i64 N, .bool true]) := he.trans (rfl)
        have HS2 := Lib.hid (HS1.out.trans hs2)
        clear hs2 he
        go_wp2
        go_loopg [12] 5 (fun gf x wr => ∃ t : List UInt8, (t.length < gf ∧ t.length ≤ 4) ∧ x = .string (strB t) ∧ shortS t = shortS l ∧ t ≠ [] ∧ wr = w2)
        case atStart => exact ⟨l, by have h2 := strB_size l; rw [← HSB.out] at h2; exact ⟨by omega, by omega⟩, by rw [HSB.out], rfl, HNE.out, rfl⟩
        case round =>
          obtain ⟨t, ⟨ht, ht4⟩, rfl, hsh, hne, hw⟩ := hrel
          obtain rfl := hw.symm
          clear hw
          obtain ⟨T, hT⟩ : ∃ T, T = strB t := ⟨_, rfl⟩
          have hTl : T.size = t.length := by rw [hT, strB_size]
          have h0 : 0 < T.size := by rw [hTl]; exact List.length_pos_iff.2 hne
          have e48 := byte48 T h0
          have hTd : T.data.toList = t := by rw [hT, strB_data]
          rw [hTd] at e48
          rw [← hT]
          by_cases hgo : 1 < T.size ∧ t[0]? = some 48
          · obtain ⟨h1, h2⟩ := hgo
            obtain ⟨c, t', rfl⟩ : ∃ c t', t = c :: t' := by
              cases t with
              | nil => exact absurd rfl hne
              | cons c t' => exact ⟨c, t', rfl⟩
            obtain ⟨g', rfl⟩ : ∃ g', gk = g' + 1 := ⟨gk - 1, by omega⟩
            rw [show decide ((c :: t')[0]? = some 48) = true by simpa using h2] at e48
            have hc : c = 48 := by simpa using h2
            have hne' : t' ≠ [] := by
              rintro rfl
              rw [hTl] at h1
              simp at h1
            have HX := Lib.hid (show T.extract 1 T.size = strB t' by rw [hT]; exact ext1 c t')
            have HSH := Lib.hid ((shortS_yes c t' hc hne').symm.trans hsh)
            have HNE' := Lib.hid hne'
            simp at ht ht4
            clear h2 hc hne hne' hsh hT hTd hTl
            go_wp2
            go_roundg g'
            case measure => omega
            case rel =>
              refine ⟨t', ⟨by omega, by omega⟩, ?_, HSH.out, HNE'.out, rfl⟩
              rw [← HX.out]
          · have hdone : shortS t = t := by
              by_cases h1 : 1 < T.size
              · exact shortS_no t (fun e => hgo ⟨h1, e⟩)
              · exact shortS_le t (by omega)
            have c3 := fun W => hex_any T W (by omega)
            rw [hTd, ← hdone, hsh, HR2.out] at c3
            have key : ¬ 1 < T.size ∨ (1 < T.size ∧ ((T[0].toNat : Int) == 48) = false) := by
              by_cases h1 : 1 < T.size
              · right
                refine ⟨h1, ?_⟩
                rw [e48, decide_eq_false_iff_not]
                exact fun e => hgo ⟨h1, e⟩
              · left
                exact h1
            clear hgo hdone e48 hT hTd hTl hsh hne ht
            rcases key with k1 | ⟨k1, k2⟩
            all_goals
              go_wp2_with (go_at_call 46; refine stopc ?_)
              refine Stop.go ?_
              refine (c3 _).mono ?_
              rintro e w3 ⟨he, hs3⟩
              obtain rfl : e = .returned (.tuple #[.int .i64 N, .bool true]) := he.trans (rfl)
              have HS3 := Lib.hid (HS2.out.trans hs3)
              clear hs3 he
              go_wp2_with (go_at_call 46; refine stopc ?_)
              refine Stop.go ?_
              refine (c4 _).mono ?_
              rintro e w4 ⟨he, hs4⟩
              obtain rfl : e = .returned (.tuple #[.int .i64 0, .bool false]) := he.trans (rfl)
              have HS4 := Lib.hid (HS3.out.trans hs4)
              clear hs4 he
              go_wp2
              rw [HR.out]
              exact ⟨rfl, HS4.out⟩
end Go.Proofs.YteoffbglbpdekaaDoor.L
