/- Layer 11: what is wrong of a method and a target; authorities. -/
import Derived.Test.YtgjmaifgkgejgaaGreatDoorRr
import Derived.Test.YtgjmaifgkgejgaaGreatDoorAp
import Derived.Test.YtgjmaifgkgejgaaGreatDoorAy
import Derived.Test.YtgjmaifgkgejgaaGreatDoorFc
import Derived.IntWalk
set_option linter.unusedVariables false
set_option linter.unusedSimpArgs false
namespace Go.Proofs.YtgjmaifgkgejgaaGreatDoor.L
open Go.RowKit Go.Proofs

set_option maxRecDepth 100000 in
set_option maxHeartbeats 4000000 in
theorem wrong_any (m t : ByteArray) (w : World) (hm : m.size ≤ 9223372036854775807) (ht : t.size ≤ 9223372036854775807) :
    Calls Tryz.prog 25 #[.string m, .string t] w fun e w' => e = .returned (.int .i64 (wrongS m.data.toList t.data.toList)) ∧ Stp (fun _ => False) w w' := by
  have ct := fun W => token_any m W hm
  have cv := fun W => visible_any t W ht
  obtain ⟨R, hR⟩ : ∃ R, R = wrongS m.data.toList t.data.toList := ⟨_, rfl⟩
  rw [← hR]
  unfold wrongS at hR
  rw [size_list, size_list] at hR
  obtain ⟨a, ha⟩ : ∃ a, a = allS tokR m.data.toList := ⟨_, rfl⟩
  obtain ⟨b, hb⟩ : ∃ b, b = allS visR t.data.toList := ⟨_, rfl⟩
  rw [← ha, ← hb] at hR
  rw [← ha] at ct
  rw [← hb] at cv
  clear ha hb
  cases a with
  | false =>
    rw [if_pos (.inl rfl)] at hR
    subst hR
    go_enter Tryz.func25, Tryz.ntmps25
    go_wp2_with (go_at_call 27; refine stopc ?_)
    refine Stop.go ?_
    refine (ct _).mono ?_
    rintro e w1 ⟨rfl, hs1⟩
    have HS1 := Lib.hid hs1
    clear hs1
    go_wp2
    go_ret
    exact ⟨rfl, HS1.out⟩
  | true =>
    cases hq : decide ((32 : Int) < (m.size : Int)) with
    | true =>
      have h32 : 32 < m.size := by have := of_decide_eq_true hq; omega
      rw [if_pos (.inr h32)] at hR
      subst hR
      clear h32
      go_enter Tryz.func25, Tryz.ntmps25
      go_wp2_with (go_at_call 27; refine stopc ?_)
      refine Stop.go ?_
      refine (ct _).mono ?_
      rintro e w1 ⟨rfl, hs1⟩
      have HS1 := Lib.hid hs1
      clear hs1
      go_wp2
      go_ret
      exact ⟨rfl, HS1.out⟩
    | false =>
      have h32 : ¬ 32 < m.size := by have := of_decide_eq_false hq; omega
      rw [if_neg (by simp; omega)] at hR
      clear h32
      cases b with
      | false =>
        rw [if_pos rfl] at hR
        subst hR
        go_enter Tryz.func25, Tryz.ntmps25
        go_wp2_with (go_at_call 27; refine stopc ?_)
        refine Stop.go ?_
        refine (ct _).mono ?_
        rintro e w1 ⟨rfl, hs1⟩
        have HS1 := Lib.hid hs1
        clear hs1
        go_wp2_with (go_at_call 56; refine stopc ?_)
        refine Stop.go ?_
        refine (cv _).mono ?_
        rintro e w2 ⟨rfl, hs2⟩
        have HS2 := Lib.hid (HS1.out.trans hs2)
        clear hs2
        go_wp2
        go_ret
        exact ⟨rfl, HS2.out⟩
      | true =>
        rw [if_neg (by decide)] at hR
        cases hq2 : decide ((8000 : Int) < (t.size : Int)) with
        | true =>
          have h80 : 8000 < t.size := by have := of_decide_eq_true hq2; omega
          rw [if_pos h80] at hR
          subst hR
          clear h80
          go_enter Tryz.func25, Tryz.ntmps25
          go_wp2_with (go_at_call 27; refine stopc ?_)
          refine Stop.go ?_
          refine (ct _).mono ?_
          rintro e w1 ⟨rfl, hs1⟩
          have HS1 := Lib.hid hs1
          clear hs1
          go_wp2_with (go_at_call 56; refine stopc ?_)
          refine Stop.go ?_
          refine (cv _).mono ?_
          rintro e w2 ⟨rfl, hs2⟩
          have HS2 := Lib.hid (HS1.out.trans hs2)
          clear hs2
          go_wp2
          go_ret
          exact ⟨rfl, HS2.out⟩
        | false =>
          have h80 : ¬ 8000 < t.size := by have := of_decide_eq_false hq2; omega
          rw [if_neg h80] at hR
          subst hR
          clear h80
          go_enter Tryz.func25, Tryz.ntmps25
          go_wp2_with (go_at_call 27; refine stopc ?_)
          refine Stop.go ?_
          refine (ct _).mono ?_
          rintro e w1 ⟨rfl, hs1⟩
          have HS1 := Lib.hid hs1
          clear hs1
          go_wp2_with (go_at_call 56; refine stopc ?_)
          refine Stop.go ?_
          refine (cv _).mono ?_
          rintro e w2 ⟨rfl, hs2⟩
          have HS2 := Lib.hid (HS1.out.trans hs2)
          clear hs2
          go_wp2
          go_ret
          exact ⟨rfl, HS2.out⟩

/-- The library's index and what stands ahead of it. -/
theorem idx_upto (l : List UInt8) : (0 ≤ Lib.indexAny l endsL → uptoEnd l = l.take (Lib.indexAny l endsL).toNat ∧ (Lib.indexAny l endsL).toNat ≤ l.length) ∧ (¬ 0 ≤ Lib.indexAny l endsL → uptoEnd l = l) := by
  induction l with
  | nil => exact ⟨fun h => by simp [Lib.indexAny] at h, fun _ => rfl⟩
  | cons b l ih =>
    have hge := Lib.indexAny_ge endsL l
    have e1 : endsL.contains b = isEnd b := by
      unfold endsL isEnd
      simp only [List.contains_cons, List.contains_nil, Bool.or_false, Bool.or_assoc]
    unfold Lib.indexAny uptoEnd
    rw [e1, List.takeWhile_cons]
    obtain ⟨K, hK⟩ : ∃ K, K = Lib.indexAny l endsL := ⟨_, rfl⟩
    rw [← hK] at ih hge ⊢
    unfold uptoEnd at ih
    obtain ⟨U, hU⟩ : ∃ U, U = List.takeWhile (fun c => !isEnd c) l := ⟨_, rfl⟩
    rw [← hU] at ih ⊢
    cases hb : isEnd b with
    | true =>
      simp
    | false =>
      simp only [Bool.not_false, if_true]
      rw [if_neg (by decide)]
      by_cases h1 : K = -1
      · subst h1
        rw [if_pos (by decide)]
        exact ⟨fun h => absurd h (by decide), fun _ => by rw [ih.2 (by decide)]⟩
      · rw [if_neg (by rw [beq_iff_eq]; exact h1)]
        obtain ⟨h2, h3⟩ := ih.1 (by omega)
        rw [h2, show (K + 1).toNat = K.toNat + 1 by omega]
        exact ⟨fun _ => ⟨rfl, by rw [List.length_cons]; omega⟩, fun h => absurd (by omega) h⟩

theorem sB_self (s : ByteArray) : strB s.data.toList = s := by
  apply ByteArray.ext
  simp [strB]

set_option maxRecDepth 100000 in
set_option maxHeartbeats 4000000 in
theorem auth_any (s : ByteArray) (w : World) (hs : s.size < 4294967281) :
    Calls Tryz.prog 34 #[.string s] w fun e w' => e = .returned (.tuple #[.string (strB (authS s.data.toList).1), .bool (authS s.data.toList).2]) ∧ Stp (fun _ => False) w w' := by
  obtain ⟨R1, hR1⟩ : ∃ R, R = authS s.data.toList := ⟨_, rfl⟩
  rw [← hR1]
  unfold authS at hR1
  rw [size_list] at hR1
  cases hq : decide ((s.size : Int) < 7) with
  | true =>
    have h7 : s.size < 7 := by have := of_decide_eq_true hq; omega
    rw [if_neg (by omega)] at hR1
    subst hR1
    clear h7
    go_enter Tryz.func34, Tryz.ntmps34
    go_wp2
    go_ret2
    exact ⟨rfl, Stp.refl _ _⟩
  | false =>
    have h7 : 7 ≤ s.size := by have := of_decide_eq_false hq; omega
    have h7i : (7 : Int) ≤ (s.size : Int) := by omega
    have ci := fun W => same_any (s.extract 0 7) ⟨#[104, 116, 116, 112, 58, 47, 47]⟩ W (by simp; omega) (by decide)
    obtain ⟨q, hqd⟩ : ∃ q, q = decide (lowS (s.data.toList.take 7) = httpL) := ⟨_, rfl⟩
    have e1 : (s.extract 0 7).data.toList = s.data.toList.take 7 := by rw [ext_upto, sB_data]
    have e2 : lowS (⟨#[104, 116, 116, 112, 58, 47, 47]⟩ : ByteArray).data.toList = httpL := by decide
    rw [e1, e2, ← hqd] at ci
    have hR2 : R1 = if q = true then (uptoEnd (s.data.toList.drop 7), true) else ([], false) := by
      rw [hR1, hqd]
      simp [h7]
    clear hR1 hqd e1 e2
    cases q with
    | false =>
      rw [if_neg (by decide)] at hR2
      subst hR2
      go_enter Tryz.func34, Tryz.ntmps34
      go_wp2_with (go_at_call 68; refine stopc ?_)
      refine Stop.go ?_
      refine (ci _).mono ?_
      rintro e w1 ⟨rfl, hs1⟩
      have HS1 := Lib.hid hs1
      clear hs1
      go_wp2
      go_ret2
      exact ⟨rfl, HS1.out⟩
    | true =>
      rw [if_pos rfl] at hR2
      obtain ⟨T, hT⟩ : ∃ T, T = s.extract 7 s.size := ⟨_, rfl⟩
      have hTl : T.data.toList = s.data.toList.drop 7 := by rw [hT, ext_from, sB_data]
      have hTs : T.size ≤ s.size := by rw [hT]; simp
      have cx := fun W => indexAny_any T W (by omega)
      rw [← hTl] at hR2
      obtain ⟨i1, i2⟩ := idx_upto T.data.toList
      rw [size_list] at i1
      obtain ⟨K, hK⟩ : ∃ K, K = Lib.indexAny T.data.toList endsL := ⟨_, rfl⟩
      rw [← hK] at i1 i2 cx
      have HT := Lib.hid hT.symm
      clear hT hK hTl
      cases hk : decide ((0 : Int) ≤ K) with
      | true =>
        have hk0 : (0 : Int) ≤ K := of_decide_eq_true hk
        obtain ⟨j1, j2⟩ := i1 hk0
        have hkT : K ≤ (T.size : Int) := by omega
        rw [j1] at hR2
        have HR := Lib.hid (show strB R1.1 = T.extract 0 K.toNat by rw [hR2, ext_upto])
        have HR2 := Lib.hid (show R1.2 = true by rw [hR2])
        clear hR2 i1 i2 j1 j2
        go_enter Tryz.func34, Tryz.ntmps34
        go_wp2_with (go_at_call 68; refine stopc ?_)
        refine Stop.go ?_
        refine (ci _).mono ?_
        rintro e w1 ⟨rfl, hs1⟩
        have HS1 := Lib.hid hs1
        clear hs1
        go_wp2_with (go_at_call 69; refine stopc ?_)
        refine Stop.go ?_
        simp only [HT.out]
        refine (cx _).mono ?_
        rintro e w2 ⟨rfl, hs2⟩
        have HS2 := Lib.hid (HS1.out.trans hs2)
        clear hs2
        go_wp2
        go_ret2
        exact ⟨by rw [HR.out, HR2.out]; rfl, HS2.out⟩
      | false =>
        have j := i2 (of_decide_eq_false hk)
        rw [j] at hR2
        have HR := Lib.hid (show strB R1.1 = T by rw [hR2]; exact sB_self T)
        have HR2 := Lib.hid (show R1.2 = true by rw [hR2])
        clear hR2 i1 i2 j
        go_enter Tryz.func34, Tryz.ntmps34
        go_wp2_with (go_at_call 68; refine stopc ?_)
        refine Stop.go ?_
        refine (ci _).mono ?_
        rintro e w1 ⟨rfl, hs1⟩
        have HS1 := Lib.hid hs1
        clear hs1
        go_wp2_with (go_at_call 69; refine stopc ?_)
        refine Stop.go ?_
        simp only [HT.out]
        refine (cx _).mono ?_
        rintro e w2 ⟨rfl, hs2⟩
        have HS2 := Lib.hid (HS1.out.trans hs2)
        clear hs2
        go_wp2
        go_ret2
        exact ⟨by rw [HR.out, HR2.out]; rfl, HS2.out⟩

theorem ends_cases (c : UInt8) : c = 47 ∨ c = 63 ∨ c = 35 ∨ (isEnd c = false ∧ ((c.toNat : Int) != 47) = true ∧ ((c.toNat : Int) != 63) = true ∧ ((c.toNat : Int) != 35) = true) := by
  have key : ∀ d : UInt8, c ≠ d → ((c.toNat : Int) != (d.toNat : Int)) = true := fun d h => by
    have : c.toNat ≠ d.toNat := fun e => h (UInt8.toNat_inj.1 e)
    simp
    omega
  by_cases h1 : c = 47
  · exact .inl h1
  · by_cases h2 : c = 63
    · exact .inr (.inl h2)
    · by_cases h3 : c = 35
      · exact .inr (.inr (.inl h3))
      · exact .inr (.inr (.inr ⟨by unfold isEnd; simp [h1, h2, h3], key 47 h1, key 63 h2, key 35 h3⟩))
theorem upto_stop (s : ByteArray) (k : Nat) (h7 : 7 ≤ k) (hk : k ≤ s.size) (hall : ∀ j (hj : j < s.size), 7 ≤ j → j < k → isEnd s[j] = false) (he : k = s.size ∨ ∃ hk : k < s.size, isEnd s[k] = true) :
    strB (uptoEnd (s.data.toList.drop 7)) = s.extract 7 k := by
  have e1 : s.data.toList.drop 7 = (s.data.toList.take k).drop 7 ++ s.data.toList.drop k := by
    rw [← List.drop_append_of_le_length (by rw [List.length_take, size_list]; omega), List.take_append_drop]
  rw [e1, upto_at, ← extract_strB]
  · rw [List.all_eq_true]
    intro x hx
    obtain ⟨j, hj⟩ := List.mem_iff_getElem?.1 hx
    rw [List.getElem?_drop, List.getElem?_take] at hj
    split at hj
    · have hjs : 7 + j < s.size := by omega
      rw [get_list s _ hjs] at hj
      rw [← Option.some.inj hj, hall _ hjs (by omega) ‹_›]
      rfl
    · cases hj
  · intro c hc
    rw [List.getElem?_drop, Nat.add_zero] at hc
    rcases he with rfl | ⟨hk2, he⟩
    · rw [List.getElem?_eq_none (by rw [size_list]; exact Nat.le_refl _)] at hc
      cases hc
    · rw [get_list s _ hk2] at hc
      rw [← Option.some.inj hc]
      exact he

set_option maxRecDepth 100000 in
set_option maxHeartbeats 8000000 in
theorem authR_any (s : ByteArray) (w : World) (hs : s.size < 4294967281) :
    Calls Tryz.prog 88 #[.string s] w fun e w' => e = .returned (.tuple #[.string (strB (authS s.data.toList).1), .bool (authS s.data.toList).2]) ∧ Stp (fun _ => False) w w' := by
  obtain ⟨R1, hR1⟩ : ∃ R, R = authS s.data.toList := ⟨_, rfl⟩
  rw [← hR1]
  unfold authS at hR1
  rw [size_list] at hR1
  cases hq : decide ((s.size : Int) < 7) with
  | true =>
    have h7 : s.size < 7 := by have := of_decide_eq_true hq; omega
    rw [if_neg (by omega)] at hR1
    subst hR1
    clear h7
    go_enter Tryz.func88, Tryz.ntmps88
    go_wp2
    go_ret2
    exact ⟨rfl, Stp.refl _ _⟩
  | false =>
    have h7 : 7 ≤ s.size := by have := of_decide_eq_false hq; omega
    have h7i : (7 : Int) ≤ (s.size : Int) := by omega
    have cl := fun W => lowerR_any (s.extract 0 7) W (by simp; omega)
    have e1 : (s.extract 0 7).data.toList = s.data.toList.take 7 := by rw [ext_upto, sB_data]
    rw [e1] at cl
    obtain ⟨X, hX⟩ : ∃ X, X = lowS (s.data.toList.take 7) := ⟨_, rfl⟩
    rw [← hX] at cl
    have hR2 : R1 = if X = httpL then (uptoEnd (s.data.toList.drop 7), true) else ([], false) := by
      rw [hR1, hX]
      simp [h7]
    have HX := Lib.hid hX
    clear hR1 hX e1
    obtain ⟨B, hB⟩ : ∃ B, B = strB X := ⟨_, rfl⟩
    rw [← hB] at cl
    have HB := Lib.hid hB
    clear hB
    by_cases hx : X = httpL
    · rw [if_pos hx] at hR2
      have HR := Lib.hid hR2
      have hbx : (B.toList == [104, 116, 116, 112, 58, 47, 47]) = true := by rw [HB.out, hx, Lib.toList_data, sB_data]; rfl
      clear hR2 hx
      go_enter Tryz.func88, Tryz.ntmps88
      go_wp2_with (go_at_call 51; refine stopc ?_)
      refine Stop.go ?_
      refine (cl _).mono ?_
      rintro e w1 ⟨rfl, hs1⟩
      have HS1 := Lib.hid hs1
      clear hs1
      go_wp2
      go_loopg [4] (s.size - 7) (fun gf i wr => ∃ k : Nat, k + gf = s.size ∧ 7 ≤ k ∧ i = .int .i64 k ∧ (∀ j (hj : j < s.size), 7 ≤ j → j < k → isEnd s[j] = false) ∧ wr = w1)
      case atStart => exact ⟨7, by omega, Nat.le_refl _, rfl, fun j hj h1 h2 => absurd h1 (by omega), rfl⟩
      case round =>
        obtain ⟨k, hk, hk7, rfl, hall, hw⟩ := hrel
        obtain rfl := hw.symm
        have HALL := Lib.hid hall
        clear hall hw
        by_cases hlt : k < s.size
        · have key := ends_cases s[k]
          obtain ⟨c, hc⟩ : ∃ c, c = s[k] := ⟨_, rfl⟩
          have HC := Lib.hid hc
          rcases key with he | he | he | ⟨he, h1, h2, h3⟩
          · have HE := Lib.hid he
            have i1 : (((s[k]).toNat : Int) != 47) = false := by rw [he]; rfl
            clear he hc
            go_wp2
            go_ret2
            exact ⟨by rw [HR.out, upto_stop s k hk7 (by omega) HALL.out (.inr ⟨hlt, by rw [HE.out]; rfl⟩)]; rfl, HS1.out⟩
          · have HE := Lib.hid he
            have i1 : (((s[k]).toNat : Int) != 47) = true := by rw [he]; rfl
            have i2 : (((s[k]).toNat : Int) != 63) = false := by rw [he]; rfl
            clear he hc
            go_wp2
            go_ret2
            exact ⟨by rw [HR.out, upto_stop s k hk7 (by omega) HALL.out (.inr ⟨hlt, by rw [HE.out]; rfl⟩)]; rfl, HS1.out⟩
          · have HE := Lib.hid he
            have i1 : (((s[k]).toNat : Int) != 47) = true := by rw [he]; rfl
            have i2 : (((s[k]).toNat : Int) != 63) = true := by rw [he]; rfl
            have i3 : (((s[k]).toNat : Int) != 35) = false := by rw [he]; rfl
            clear he hc
            go_wp2
            go_ret2
            exact ⟨by rw [HR.out, upto_stop s k hk7 (by omega) HALL.out (.inr ⟨hlt, by rw [HE.out]; rfl⟩)]; rfl, HS1.out⟩
          · have HE := Lib.hid he
            clear he hc
            obtain ⟨g', rfl⟩ : ∃ g', gk = g' + 1 := ⟨gk - 1, by omega⟩
            go_wp2
            go_roundg g'
            case measure => omega
            case rel =>
              refine ⟨k + 1, by omega, by omega, by go_num, fun j hj h1 h2 => ?_, rfl⟩
              by_cases hjk : j = k
              · subst hjk
                exact HE.out
              · exact HALL.out j hj h1 (by omega)
        · go_wp2
          go_ret2
          exact ⟨by rw [HR.out, upto_stop s k hk7 (by omega) HALL.out (.inl (by omega))]; rfl, HS1.out⟩
    · rw [if_neg hx] at hR2
      subst hR2
      have hbx : (B.toList == [104, 116, 116, 112, 58, 47, 47]) = false := by
        rw [HB.out, ← Bool.not_eq_true]
        intro h
        exact hx (by have := eq_of_beq h; rw [Lib.toList_data, sB_data] at this; exact this)
      clear hx
      go_enter Tryz.func88, Tryz.ntmps88
      go_wp2_with (go_at_call 51; refine stopc ?_)
      refine Stop.go ?_
      refine (cl _).mono ?_
      rintro e w1 ⟨rfl, hs1⟩
      have HS1 := Lib.hid hs1
      clear hs1
      go_wp2
      go_ret2
      exact ⟨rfl, HS1.out⟩
end Go.Proofs.YtgjmaifgkgejgaaGreatDoor.L

/-! Layer 11: the forms of targets. -/
namespace Go.Proofs.YtgjmaifgkgejgaaGreatDoor.L
open Go.RowKit Go.Proofs

theorem hasPrefix_one (l : List UInt8) (c : UInt8) : Lib.hasPrefix l [c] = decide (l[0]? = some c) := by
  cases l with
  | nil => simp [Lib.hasPrefix]
  | cons x l =>
    rw [Bool.eq_iff_iff]
    simp only [Lib.hasPrefix, List.isPrefixOf, Bool.and_true, beq_iff_eq, List.getElem?_cons_zero, Option.some.injEq, decide_eq_true_eq]
    exact ⟨fun h => h.symm, fun h => h.symm⟩
theorem list_eqb (s : ByteArray) (l : List UInt8) : (s.toList == l) = decide (s.data.toList = l) := by
  rw [Lib.toList_data, Bool.eq_iff_iff]
  simp
theorem form_key (m t : List UInt8) : (m = connectL ∧ formS m t = 4) ∨ (m ≠ connectL ∧ t = [42] ∧ formS m t = 3) ∨ (m ≠ connectL ∧ t ≠ [42] ∧ t[0]? = some 47 ∧ formS m t = 1) ∨ (m ≠ connectL ∧ t ≠ [42] ∧ ¬ t[0]? = some 47 ∧ formS m t = if (authS t).2 = true then 2 else 0) := by
  unfold formS
  by_cases h1 : m = connectL
  · exact .inl ⟨h1, by rw [if_pos h1]⟩
  · by_cases h2 : t = [42]
    · exact .inr (.inl ⟨h1, h2, by rw [if_neg h1, if_pos h2]⟩)
    · by_cases h3 : t[0]? = some 47
      · exact .inr (.inr (.inl ⟨h1, h2, h3, by rw [if_neg h1, if_neg h2, if_pos h3]⟩))
      · exact .inr (.inr (.inr ⟨h1, h2, h3, by rw [if_neg h1, if_neg h2, if_neg h3]⟩))

set_option maxRecDepth 100000 in
set_option maxHeartbeats 4000000 in
theorem form_any (m t : ByteArray) (n : Int) (w : World) (ht : t.size < 4294967281) :
    Calls Tryz.prog 33 #[.agg #[.string m, .string t, .int .i64 n]] w fun e w' => e = .returned (.int .i64 (formS m.data.toList t.data.toList)) ∧ Stp (fun _ => False) w w' := by
  have ca := fun W => auth_any t W ht
  have key := form_key m.data.toList t.data.toList
  obtain ⟨F, hF⟩ : ∃ F, F = formS m.data.toList t.data.toList := ⟨_, rfl⟩
  rw [← hF] at key ⊢
  obtain ⟨q, hq⟩ : ∃ q, q = (authS t.data.toList).2 := ⟨_, rfl⟩
  obtain ⟨A, hA⟩ : ∃ A, A = strB (authS t.data.toList).1 := ⟨_, rfl⟩
  rw [← hq] at key ca
  rw [← hA] at ca
  have b1 : (m.toList == [67, 79, 78, 78, 69, 67, 84]) = decide (m.data.toList = connectL) := list_eqb m _
  have b2 := list_eqb t [42]
  have b3 := hasPrefix_one t.data.toList 47
  clear hF hq hA
  rcases key with ⟨h1, rfl⟩ | ⟨h1, h2, rfl⟩ | ⟨h1, h2, h3, rfl⟩ | ⟨h1, h2, h3, h4⟩
  · rw [decide_eq_true h1] at b1
    clear h1 b2 b3
    have HS0 := Lib.hid (Stp.refl (fun _ => False) w)
    go_enter Tryz.func33, Tryz.ntmps33
    go_wp2_with (go_at_call 34; refine stopc ?_)
    refine Stop.go ?_
    refine (ca _).mono ?_
    rintro e w1 ⟨he, hs1⟩
    subst he
    have HS1 := Lib.hid ((HS0.out.alloc _).trans hs1)
    have HBR := Lib.hid (show w1.heap[w.heap.size]? = some (.cells #[.string m, .string t, .int .i64 n] 40 (0, 0)) from hs1.blk (heap_alloc_new w _) id)
    clear hs1
    have kR0 : w1.cell? ⟨w.heap.size, 0, none⟩ = some (.string m) := blk_cell (j := 0) HBR.out
    have kR1 : w1.cell? ⟨w.heap.size, 1, none⟩ = some (.string t) := blk_cell (j := 1) HBR.out
    have kR2 : w1.cell? ⟨w.heap.size, 2, none⟩ = some (.int .i64 n) := blk_cell (j := 2) HBR.out
    have ltR := blk_lt HBR.out
    go_wp2
    go_ret
    exact ⟨rfl, HS1.out⟩
  · rw [decide_eq_false h1] at b1
    rw [decide_eq_true h2] at b2
    clear h1 h2 b3
    have HS0 := Lib.hid (Stp.refl (fun _ => False) w)
    go_enter Tryz.func33, Tryz.ntmps33
    go_wp2_with (go_at_call 34; refine stopc ?_)
    refine Stop.go ?_
    refine (ca _).mono ?_
    rintro e w1 ⟨he, hs1⟩
    subst he
    have HS1 := Lib.hid ((HS0.out.alloc _).trans hs1)
    have HBR := Lib.hid (show w1.heap[w.heap.size]? = some (.cells #[.string m, .string t, .int .i64 n] 40 (0, 0)) from hs1.blk (heap_alloc_new w _) id)
    clear hs1
    have kR0 : w1.cell? ⟨w.heap.size, 0, none⟩ = some (.string m) := blk_cell (j := 0) HBR.out
    have kR1 : w1.cell? ⟨w.heap.size, 1, none⟩ = some (.string t) := blk_cell (j := 1) HBR.out
    have kR2 : w1.cell? ⟨w.heap.size, 2, none⟩ = some (.int .i64 n) := blk_cell (j := 2) HBR.out
    have ltR := blk_lt HBR.out
    go_wp2
    go_ret
    exact ⟨rfl, HS1.out⟩
  · rw [decide_eq_false h1] at b1
    rw [decide_eq_false h2] at b2
    rw [decide_eq_true h3] at b3
    have HB3 := Lib.hid b3
    clear h1 h2 h3 b3
    have HS0 := Lib.hid (Stp.refl (fun _ => False) w)
    go_enter Tryz.func33, Tryz.ntmps33
    go_wp2_with (go_at_call 34; refine stopc ?_)
    refine Stop.go ?_
    refine (ca _).mono ?_
    rintro e w1 ⟨he, hs1⟩
    subst he
    have HS1 := Lib.hid ((HS0.out.alloc _).trans hs1)
    have HBR := Lib.hid (show w1.heap[w.heap.size]? = some (.cells #[.string m, .string t, .int .i64 n] 40 (0, 0)) from hs1.blk (heap_alloc_new w _) id)
    clear hs1
    have kR0 : w1.cell? ⟨w.heap.size, 0, none⟩ = some (.string m) := blk_cell (j := 0) HBR.out
    have kR1 : w1.cell? ⟨w.heap.size, 1, none⟩ = some (.string t) := blk_cell (j := 1) HBR.out
    have kR2 : w1.cell? ⟨w.heap.size, 2, none⟩ = some (.int .i64 n) := blk_cell (j := 2) HBR.out
    have ltR := blk_lt HBR.out
    go_wp2_with fail
    refine wp_region_held_drew (S := (fun w' => w'.cell? ⟨w.heap.size, 1, none⟩ = some (.string t))) (by kernel_rfl) (kR1) (fun hHeld => ?_)
    try (change wpAnyH _ _ _ _ _ _ _ _ (World.drew _))
    refine rg_take (i := 0) (o := { dst := some 20, op := Op.fieldAddr 40 (Operand.tmp 1) 1, type := 0, pos := "reqline.go:81", after := #[], guard := none }) (v := ?rgv1) rfl (by kernel_rfl) (by kernel_rfl) (by kernel_rfl) (fun _ _ _ h => h) (by rfl) (fun w hSw => ?rgy1) hHeld ?_
    case rgy1 => (try dsimp only at hSw); first | (go_simp; done) | (go_simp; with_reducible rfl)
    try simp only [Act.put, List.setIfInBounds_toArray, List.set_cons_zero, List.set_cons_succ]
    refine rg_take (i := 1) (o := { dst := some 21, op := Op.load 9 (Operand.tmp 20), type := 9, pos := "reqline.go:81", after := #[{ on := 0, ground := Ground.data }], guard := none }) (v := ?rgv2) rfl (by kernel_rfl) (by kernel_rfl) (by kernel_rfl) (fun _ _ _ h => h) (by rfl) (fun w hSw => ?rgy2) hHeld ?_
    case rgy2 => (try dsimp only at hSw); first | (go_simp; done) | (go_simp; with_reducible rfl)
    try simp only [Act.put, List.setIfInBounds_toArray, List.set_cons_zero, List.set_cons_succ]
    refine rg_take (i := 2) (o := { dst := some 22, op := Op.slice 9 (Operand.const (Value.string { data := #[47, 63, 35] })) none (some (Operand.const (Value.int IntKind.i64 1))) none, type := 9, pos := "reqline.go:81", after := #[], guard := none }) (v := ?rgv3) rfl (by kernel_rfl) (by kernel_rfl) (by kernel_rfl) (fun _ _ _ h => h) (by rfl) (fun w hSw => ?rgy3) hHeld ?_
    case rgy3 => (try dsimp only at hSw); first | (go_simp; done) | (go_simp; with_reducible rfl)
    try simp only [Act.put, List.setIfInBounds_toArray, List.set_cons_zero, List.set_cons_succ]
    refine wpAnyH_ready (rs := [3]) (by kernel_rfl) (by simp) ?_
    refine (AllReadyH.cons (o := { dst := some 23, op := Op.call { callee := Callee.value (Operand.func 67), args := #[Operand.tmp 21, Operand.tmp 22], argTypes := #[9, 9] }, type := 4, pos := "reqline.go:81", after := #[{ on := 1, ground := Ground.data }, { on := 2, ground := Ground.data }], guard := none }) rfl (fun K hK => ?_) AllReadyH.nil)
    go_simp
    refine (Tryz.strings_HasPrefix t ⟨#[47]⟩ _).mono ?_
    rintro e w3 ⟨he, hw3⟩
    obtain rfl : e = .returned (.bool true) := he.trans (by rw [← HB3.out])
    obtain rfl := hw3.symm
    clear hw3 he
    show K _ _
    clear hHeld
    refine hK.out _ _ (kR1) (fun hHeld => ?_)
    clear hK K
    try simp only [Act.put, List.setIfInBounds_toArray, List.set_cons_zero, List.set_cons_succ]
    refine rg_take (i := 4) (o := { dst := some 19, op := Op.assign (Operand.tmp 23), type := 4, pos := "reqline.go:81", after := #[{ on := 3, ground := Ground.data }, { on := 3, ground := Ground.chain }], guard := none }) (v := ?rgv4) rfl (by kernel_rfl) (by kernel_rfl) (by kernel_rfl) (fun _ _ _ h => h) (by rfl) (fun w hSw => ?rgy4) hHeld ?_
    case rgy4 => (try dsimp only at hSw); first | (go_simp; done) | (go_simp; with_reducible rfl)
    try simp only [Act.put, List.setIfInBounds_toArray, List.set_cons_zero, List.set_cons_succ]
    clear hHeld
    refine wpAnyH_done (by kernel_rfl) ?_ _
    go_wp2
    go_ret
    exact ⟨rfl, HS1.out.drew⟩
  · rw [decide_eq_false h1] at b1
    rw [decide_eq_false h2] at b2
    rw [decide_eq_false h3] at b3
    have HB3 := Lib.hid b3
    clear h1 h2 h3 b3
    cases q
    all_goals
      try simp only [if_true] at h4
      try rw [if_neg (by decide)] at h4
      subst h4
      have HS0 := Lib.hid (Stp.refl (fun _ => False) w)
      go_enter Tryz.func33, Tryz.ntmps33
      go_wp2_with (go_at_call 34; refine stopc ?_)
      refine Stop.go ?_
      refine (ca _).mono ?_
      rintro e w1 ⟨he, hs1⟩
      subst he
      have HS1 := Lib.hid ((HS0.out.alloc _).trans hs1)
      have HBR := Lib.hid (show w1.heap[w.heap.size]? = some (.cells #[.string m, .string t, .int .i64 n] 40 (0, 0)) from hs1.blk (heap_alloc_new w _) id)
      clear hs1
      have kR0 : w1.cell? ⟨w.heap.size, 0, none⟩ = some (.string m) := blk_cell (j := 0) HBR.out
      have kR1 : w1.cell? ⟨w.heap.size, 1, none⟩ = some (.string t) := blk_cell (j := 1) HBR.out
      have kR2 : w1.cell? ⟨w.heap.size, 2, none⟩ = some (.int .i64 n) := blk_cell (j := 2) HBR.out
      have ltR := blk_lt HBR.out
      go_wp2_with fail
      refine wp_region_held_drew (S := (fun w' => w'.cell? ⟨w.heap.size, 1, none⟩ = some (.string t))) (by kernel_rfl) (kR1) (fun hHeld => ?_)
      try (change wpAnyH _ _ _ _ _ _ _ _ (World.drew _))
      refine rg_take (i := 0) (o := { dst := some 20, op := Op.fieldAddr 40 (Operand.tmp 1) 1, type := 0, pos := "reqline.go:81", after := #[], guard := none }) (v := ?rgv5) rfl (by kernel_rfl) (by kernel_rfl) (by kernel_rfl) (fun _ _ _ h => h) (by rfl) (fun w hSw => ?rgy5) hHeld ?_
      case rgy5 => (try dsimp only at hSw); first | (go_simp; done) | (go_simp; with_reducible rfl)
      try simp only [Act.put, List.setIfInBounds_toArray, List.set_cons_zero, List.set_cons_succ]
      refine rg_take (i := 1) (o := { dst := some 21, op := Op.load 9 (Operand.tmp 20), type := 9, pos := "reqline.go:81", after := #[{ on := 0, ground := Ground.data }], guard := none }) (v := ?rgv6) rfl (by kernel_rfl) (by kernel_rfl) (by kernel_rfl) (fun _ _ _ h => h) (by rfl) (fun w hSw => ?rgy6) hHeld ?_
      case rgy6 => (try dsimp only at hSw); first | (go_simp; done) | (go_simp; with_reducible rfl)
      try simp only [Act.put, List.setIfInBounds_toArray, List.set_cons_zero, List.set_cons_succ]
      refine rg_take (i := 2) (o := { dst := some 22, op := Op.slice 9 (Operand.const (Value.string { data := #[47, 63, 35] })) none (some (Operand.const (Value.int IntKind.i64 1))) none, type := 9, pos := "reqline.go:81", after := #[], guard := none }) (v := ?rgv7) rfl (by kernel_rfl) (by kernel_rfl) (by kernel_rfl) (fun _ _ _ h => h) (by rfl) (fun w hSw => ?rgy7) hHeld ?_
      case rgy7 => (try dsimp only at hSw); first | (go_simp; done) | (go_simp; with_reducible rfl)
      try simp only [Act.put, List.setIfInBounds_toArray, List.set_cons_zero, List.set_cons_succ]
      refine wpAnyH_ready (rs := [3]) (by kernel_rfl) (by simp) ?_
      refine (AllReadyH.cons (o := { dst := some 23, op := Op.call { callee := Callee.value (Operand.func 67), args := #[Operand.tmp 21, Operand.tmp 22], argTypes := #[9, 9] }, type := 4, pos := "reqline.go:81", after := #[{ on := 1, ground := Ground.data }, { on := 2, ground := Ground.data }], guard := none }) rfl (fun K hK => ?_) AllReadyH.nil)
      go_simp
      refine (Tryz.strings_HasPrefix t ⟨#[47]⟩ _).mono ?_
      rintro e w3 ⟨he, hw3⟩
      obtain rfl : e = .returned (.bool false) := he.trans (by rw [← HB3.out])
      obtain rfl := hw3.symm
      clear hw3 he
      show K _ _
      clear hHeld
      refine hK.out _ _ (kR1) (fun hHeld => ?_)
      clear hK K
      try simp only [Act.put, List.setIfInBounds_toArray, List.set_cons_zero, List.set_cons_succ]
      refine rg_take (i := 4) (o := { dst := some 19, op := Op.assign (Operand.tmp 23), type := 4, pos := "reqline.go:81", after := #[{ on := 3, ground := Ground.data }, { on := 3, ground := Ground.chain }], guard := none }) (v := ?rgv8) rfl (by kernel_rfl) (by kernel_rfl) (by kernel_rfl) (fun _ _ _ h => h) (by rfl) (fun w hSw => ?rgy8) hHeld ?_
      case rgy8 => (try dsimp only at hSw); first | (go_simp; done) | (go_simp; with_reducible rfl)
      try simp only [Act.put, List.setIfInBounds_toArray, List.set_cons_zero, List.set_cons_succ]
      clear hHeld
      refine wpAnyH_done (by kernel_rfl) ?_ _
      go_wp2
      go_ret
      exact ⟨rfl, HS1.out.drew⟩

set_option maxRecDepth 100000 in
set_option maxHeartbeats 4000000 in
theorem formR_any (m t : ByteArray) (n : Int) (w : World) (ht : t.size < 4294967281) :
    Calls Tryz.prog 89 #[.agg #[.string m, .string t, .int .i64 n]] w fun e w' => e = .returned (.int .i64 (formS m.data.toList t.data.toList)) ∧ Stp (fun _ => False) w w' := by
  have ca := fun W => authR_any t W ht
  have key := form_key m.data.toList t.data.toList
  obtain ⟨F, hF⟩ : ∃ F, F = formS m.data.toList t.data.toList := ⟨_, rfl⟩
  rw [← hF] at key ⊢
  obtain ⟨q, hq⟩ : ∃ q, q = (authS t.data.toList).2 := ⟨_, rfl⟩
  obtain ⟨A, hA⟩ : ∃ A, A = strB (authS t.data.toList).1 := ⟨_, rfl⟩
  rw [← hq] at key ca
  rw [← hA] at ca
  have b1 : (m.toList == [67, 79, 78, 78, 69, 67, 84]) = decide (m.data.toList = connectL) := list_eqb m _
  have b2 := list_eqb t [42]
  clear hF hq hA
  rcases key with ⟨h1, rfl⟩ | ⟨h1, h2, rfl⟩ | ⟨h1, h2, h3, rfl⟩ | ⟨h1, h2, h3, h4⟩
  · rw [decide_eq_true h1] at b1
    clear h1 b2
    have HS0 := Lib.hid (Stp.refl (fun _ => False) w)
    go_enter Tryz.func89, Tryz.ntmps89
    go_wp2_with (go_at_call 88; refine stopc ?_)
    refine Stop.go ?_
    refine (ca _).mono ?_
    rintro e w1 ⟨he, hs1⟩
    subst he
    have HS1 := Lib.hid ((HS0.out.alloc _).trans hs1)
    have HBR := Lib.hid (show w1.heap[w.heap.size]? = some (.cells #[.string m, .string t, .int .i64 n] 40 (0, 0)) from hs1.blk (heap_alloc_new w _) id)
    clear hs1
    have kR0 : w1.cell? ⟨w.heap.size, 0, none⟩ = some (.string m) := blk_cell (j := 0) HBR.out
    have kR1 : w1.cell? ⟨w.heap.size, 1, none⟩ = some (.string t) := blk_cell (j := 1) HBR.out
    have kR2 : w1.cell? ⟨w.heap.size, 2, none⟩ = some (.int .i64 n) := blk_cell (j := 2) HBR.out
    have ltR := blk_lt HBR.out
    go_wp2
    go_ret
    exact ⟨rfl, HS1.out⟩
  · rw [decide_eq_false h1] at b1
    rw [decide_eq_true h2] at b2
    clear h1 h2
    have HS0 := Lib.hid (Stp.refl (fun _ => False) w)
    go_enter Tryz.func89, Tryz.ntmps89
    go_wp2_with (go_at_call 88; refine stopc ?_)
    refine Stop.go ?_
    refine (ca _).mono ?_
    rintro e w1 ⟨he, hs1⟩
    subst he
    have HS1 := Lib.hid ((HS0.out.alloc _).trans hs1)
    have HBR := Lib.hid (show w1.heap[w.heap.size]? = some (.cells #[.string m, .string t, .int .i64 n] 40 (0, 0)) from hs1.blk (heap_alloc_new w _) id)
    clear hs1
    have kR0 : w1.cell? ⟨w.heap.size, 0, none⟩ = some (.string m) := blk_cell (j := 0) HBR.out
    have kR1 : w1.cell? ⟨w.heap.size, 1, none⟩ = some (.string t) := blk_cell (j := 1) HBR.out
    have kR2 : w1.cell? ⟨w.heap.size, 2, none⟩ = some (.int .i64 n) := blk_cell (j := 2) HBR.out
    have ltR := blk_lt HBR.out
    go_wp2
    go_ret
    exact ⟨rfl, HS1.out⟩
  · rw [decide_eq_false h1] at b1
    rw [decide_eq_false h2] at b2
    have h0 : 0 < t.size := by
      obtain ⟨x, -⟩ := List.getElem?_eq_some_iff.1 h3
      rw [size_list] at x
      exact x
    rw [get_list t 0 h0] at h3
    have c47 : (((t[0]).toNat : Int) == 47) = true := by rw [Option.some.inj h3]; rfl
    have g0 : (0 : Int) < (t.size : Int) := by omega
    clear h1 h2 h3
    have HS0 := Lib.hid (Stp.refl (fun _ => False) w)
    go_enter Tryz.func89, Tryz.ntmps89
    go_wp2_with (go_at_call 88; refine stopc ?_)
    refine Stop.go ?_
    refine (ca _).mono ?_
    rintro e w1 ⟨he, hs1⟩
    subst he
    have HS1 := Lib.hid ((HS0.out.alloc _).trans hs1)
    have HBR := Lib.hid (show w1.heap[w.heap.size]? = some (.cells #[.string m, .string t, .int .i64 n] 40 (0, 0)) from hs1.blk (heap_alloc_new w _) id)
    clear hs1
    have kR0 : w1.cell? ⟨w.heap.size, 0, none⟩ = some (.string m) := blk_cell (j := 0) HBR.out
    have kR1 : w1.cell? ⟨w.heap.size, 1, none⟩ = some (.string t) := blk_cell (j := 1) HBR.out
    have kR2 : w1.cell? ⟨w.heap.size, 2, none⟩ = some (.int .i64 n) := blk_cell (j := 2) HBR.out
    have ltR := blk_lt HBR.out
    go_wp2
    go_ret
    exact ⟨rfl, HS1.out⟩
  · rw [decide_eq_false h1] at b1
    rw [decide_eq_false h2] at b2
    clear h1 h2
    by_cases h0 : 0 < t.size
    · rw [get_list t 0 h0] at h3
      have c47 : (((t[0]).toNat : Int) == 47) = false := by
        have : (t[0]).toNat ≠ 47 := fun e => h3 (congrArg some (UInt8.toNat_inj.1 e))
        simp
        omega
      have g0 : (0 : Int) < (t.size : Int) := by omega
      clear h3
      cases q
      all_goals
        try simp only [if_true] at h4
        try rw [if_neg (by decide)] at h4
        subst h4
        have HS0 := Lib.hid (Stp.refl (fun _ => False) w)
        go_enter Tryz.func89, Tryz.ntmps89
        go_wp2_with (go_at_call 88; refine stopc ?_)
        refine Stop.go ?_
        refine (ca _).mono ?_
        rintro e w1 ⟨he, hs1⟩
        subst he
        have HS1 := Lib.hid ((HS0.out.alloc _).trans hs1)
        have HBR := Lib.hid (show w1.heap[w.heap.size]? = some (.cells #[.string m, .string t, .int .i64 n] 40 (0, 0)) from hs1.blk (heap_alloc_new w _) id)
        clear hs1
        have kR0 : w1.cell? ⟨w.heap.size, 0, none⟩ = some (.string m) := blk_cell (j := 0) HBR.out
        have kR1 : w1.cell? ⟨w.heap.size, 1, none⟩ = some (.string t) := blk_cell (j := 1) HBR.out
        have kR2 : w1.cell? ⟨w.heap.size, 2, none⟩ = some (.int .i64 n) := blk_cell (j := 2) HBR.out
        have ltR := blk_lt HBR.out
        go_wp2
        go_ret
        exact ⟨rfl, HS1.out⟩
    · have g0 : ¬ (0 : Int) < (t.size : Int) := by omega
      clear h3
      cases q
      all_goals
        try simp only [if_true] at h4
        try rw [if_neg (by decide)] at h4
        subst h4
        have HS0 := Lib.hid (Stp.refl (fun _ => False) w)
        go_enter Tryz.func89, Tryz.ntmps89
        go_wp2_with (go_at_call 88; refine stopc ?_)
        refine Stop.go ?_
        refine (ca _).mono ?_
        rintro e w1 ⟨he, hs1⟩
        subst he
        have HS1 := Lib.hid ((HS0.out.alloc _).trans hs1)
        have HBR := Lib.hid (show w1.heap[w.heap.size]? = some (.cells #[.string m, .string t, .int .i64 n] 40 (0, 0)) from hs1.blk (heap_alloc_new w _) id)
        clear hs1
        have kR0 : w1.cell? ⟨w.heap.size, 0, none⟩ = some (.string m) := blk_cell (j := 0) HBR.out
        have kR1 : w1.cell? ⟨w.heap.size, 1, none⟩ = some (.string t) := blk_cell (j := 1) HBR.out
        have kR2 : w1.cell? ⟨w.heap.size, 2, none⟩ = some (.int .i64 n) := blk_cell (j := 2) HBR.out
        have ltR := blk_lt HBR.out
        go_wp2
        go_ret
        exact ⟨rfl, HS1.out⟩
end Go.Proofs.YtgjmaifgkgejgaaGreatDoor.L

/-! Layer 11: a request's line is parsed. -/
namespace Go.Proofs.YtgjmaifgkgejgaaGreatDoor.L
open Go.RowKit Go.Proofs

set_option maxRecDepth 100000 in
set_option maxHeartbeats 4000000 in
theorem sidx_any (g : Nat) (x y v : ByteArray) (w : World) (h0 : w.cell? ⟨g, 0, none⟩ = some (.string x)) (h1 : w.cell? ⟨g, 1, none⟩ = some (.string y)) :
    Calls Tryz.prog 96 #[.slice (some ⟨g, 0, none⟩) 2 2, .string v] w fun e w' => e = .returned (.int .i64 (if v.toList == x.toList then 0 else if v.toList == y.toList then 1 else -1)) ∧ w' = w := by
  obtain ⟨q1, hq1⟩ : ∃ q, (v.toList == x.toList) = q := ⟨_, rfl⟩
  obtain ⟨q2, hq2⟩ : ∃ q, (v.toList == y.toList) = q := ⟨_, rfl⟩
  rw [hq1, hq2]
  go_enter Tryz.func96, Tryz.ntmps96
  go_wp2
  go_loopg [5, 8] 2 (fun gf _ i wx => ∃ k : Nat, k + gf = 2 ∧ i = .int .i64 k ∧ (0 < k → q1 = false) ∧ (1 < k → q2 = false) ∧ wx = w)
  case atStart => exact ⟨0, rfl, rfl, fun h => absurd h (by decide), fun h => absurd h (by decide), rfl⟩
  case round =>
    obtain ⟨k, hk, rfl, k1, k2, hw⟩ := hrel
    obtain rfl := hw.symm
    clear hw
    rcases (by omega : k = 0 ∨ k = 1 ∨ k = 2) with rfl | rfl | rfl
    · obtain rfl : gk = 2 := by omega
      clear k1 k2
      cases q1
      · go_wp2
        go_roundg 1
        case measure => omega
        case rel => exact ⟨1, rfl, rfl, fun _ => trivial, fun h => absurd h (by decide), rfl⟩
      · go_wp2
        go_ret
        exact ⟨rfl, rfl⟩
    · obtain rfl : gk = 1 := by omega
      obtain rfl := k1 (by decide)
      clear k1 k2
      cases q2
      · go_wp2
        go_roundg 0
        case measure => omega
        case rel => exact ⟨2, rfl, rfl, fun _ => trivial, fun _ => trivial, rfl⟩
      · go_wp2
        go_ret
        exact ⟨rfl, rfl⟩
    · obtain rfl := k1 (by decide)
      obtain rfl := k2 (by decide)
      clear k1 k2
      go_wp2
      go_ret
      exact ⟨rfl, rfl⟩

theorem split_call (s : ByteArray) (hs : s.size < 4294967281) : ∃ X : List ByteArray, X.map (·.data.toList) = splitC 32 s.data.toList ∧ ∀ w, MaxL w →
    Calls Tryz.prog 39 #[.string s, .string ⟨#[32]⟩] w fun e w' => e = .returned (.slice (some ⟨w.heap.size, 0, none⟩) X.length X.length) ∧ Stp (fun _ => False) w w' ∧ w'.heap[w.heap.size]? = some (.cells (X.map Value.string).toArray 9 (0, 0)) := by
  have h1 : 1 ≤ (⟨#[32]⟩ : ByteArray).size := by decide
  have hlen := Lib.splitB_all ⟨#[32]⟩ h1 0 _ s rfl
  refine ⟨Lib.splitB ⟨#[32]⟩ 0 (Lib.countB s ⟨#[32]⟩) s, ?_, ?_⟩
  · rw [Lib.splitB_data, ← split_one]
    rfl
  · rintro w ⟨m, hm⟩
    refine (Tryz.strings_Split s ⟨#[32]⟩ m w hs hm h1).mono ?_
    rintro e w' ⟨rfl, rfl⟩
    refine ⟨?_, (Stp.refl _ w).alloc _, heap_alloc_new w _⟩
    rw [hlen]
theorem split_le (l : List UInt8) (x : List UInt8) (h : x ∈ splitC 32 l) : x.length ≤ l.length := by
  induction l generalizing x with
  | nil => simp [splitC] at h; simp [h]
  | cons a r ih =>
    rw [splitC] at h
    split at h
    · rcases List.mem_cons.1 h with rfl | h
      · simp
      · have := ih x h
        simp
        omega
    · split at h
      · rename_i y ys hy
        rcases List.mem_cons.1 h with rfl | h
        · have := ih y (by rw [hy]; simp)
          simp
          omega
        · have := ih x (by rw [hy]; simp [h])
          simp
          omega
      · rw [List.mem_singleton] at h
        subst h
        simp
end Go.Proofs.YtgjmaifgkgejgaaGreatDoor.L
