/- Layer 11: what is wrong of a method and a target; authorities. -/
import Derived.Test.YtdamgdmipfoalaaGreatDoorRs
import Derived.Test.YtdamgdmipfoalaaGreatDoorRp
import Derived.Test.YtdamgdmipfoalaaGreatDoorAy
import Derived.Test.YtdamgdmipfoalaaGreatDoorFc
set_option linter.unusedVariables false
set_option linter.unusedSimpArgs false
namespace Go.Proofs.YtdamgdmipfoalaaGreatDoor.L
open Go.RowKit Go.Proofs

/-- The library's index and what stands ahead of it. -/
theorem idx_upto (l : List UInt8) : (0 ≤ Lib.indexAny l endsL → uptoEnd l = l.take (Lib.indexAny l endsL).toNat ∧ (Lib.indexAny l endsL).toNat ≤ l.length) ∧ (¬ 0 ≤ Lib.indexAny l endsL → uptoEnd l = l) := by
  induction l with
  | nil => exact ⟨fun h => by simp [Lib.indexAny] at h, fun _ => rfl⟩
  | cons b l ih =>
    have hge := Lib.indexAny_ge endsL l
    have e1 : endsL.contains b = isEnd b := by
      unfold endsL isEnd
      simp only [List.contains_cons, List.contains_nil, Bool.or_false, Bool.or_assoc]
    unfold Lib.indexAny uptoEnd
    rw [e1, List.takeWhile_cons]
    obtain ⟨K, hK⟩ : ∃ K, K = Lib.indexAny l endsL := ⟨_, rfl⟩
    rw [← hK] at ih hge ⊢
    unfold uptoEnd at ih
    obtain ⟨U, hU⟩ : ∃ U, U = List.takeWhile (fun c => !isEnd c) l := ⟨_, rfl⟩
    rw [← hU] at ih ⊢
    cases hb : isEnd b with
    | true =>
      simp
    | false =>
      simp only [Bool.not_false, if_true]
      rw [if_neg (by decide)]
      by_cases h1 : K = -1
      · subst h1
        rw [if_pos (by decide)]
        exact ⟨fun h => absurd h (by decide), fun _ => by rw [ih.2 (by decide)]⟩
      · rw [if_neg (by rw [beq_iff_eq]; exact h1)]
        obtain ⟨h2, h3⟩ := ih.1 (by omega)
        rw [h2, show (K + 1).toNat = K.toNat + 1 by omega]
        exact ⟨fun _ => ⟨rfl, by rw [List.length_cons]; omega⟩, fun h => absurd (by omega) h⟩

theorem sB_self (s : ByteArray) : strB s.data.toList = s := by
  apply ByteArray.ext
  simp [strB]

set_option maxRecDepth 100000 in
set_option maxHeartbeats 4000000 in
theorem auth_any (s : ByteArray) (w : World) (hs : s.size < 4294967281) :
    Calls Tryz.prog 23 #[.string s] w fun e w' => e = .returned (.tuple #[.string (strB (authS s.data.toList).1), .bool (authS s.data.toList).2]) ∧ Stp (fun _ => False) w w' := by
  obtain ⟨R1, hR1⟩ : ∃ R, R = authS s.data.toList := ⟨_, rfl⟩
  rw [← hR1]
  unfold authS at hR1
  rw [size_list] at hR1
  cases hq : decide ((s.size : Int) < 7) with
  | true =>
    have h7 : s.size < 7 := by have := of_decide_eq_true hq; omega
    rw [if_neg (by omega)] at hR1
    subst hR1
    clear h7
    go_enter Tryz.func23, Tryz.ntmps23
    go_wp2
    go_ret2
    exact ⟨rfl, Stp.refl _ _⟩
  | false =>
    have h7 : 7 ≤ s.size := by have := of_decide_eq_false hq; omega
    have h7i : (7 : Int) ≤ (s.size : Int) := by omega
    have ci := fun W => same_any (s.extract 0 7) ⟨#[104, 116, 116, 112, 58, 47, 47]⟩ W (by simp; omega) (by decide)
    obtain ⟨q, hqd⟩ : ∃ q, q = decide (lowS (s.data.toList.take 7) = httpL) := ⟨_, rfl⟩
    have e1 : (s.extract 0 7).data.toList = s.data.toList.take 7 := by rw [ext_upto, sB_data]
    have e2 : lowS (⟨#[104, 116, 116, 112, 58, 47, 47]⟩ : ByteArray).data.toList = httpL := by decide
    rw [e1, e2, ← hqd] at ci
    have hR2 : R1 = if q = true then (uptoEnd (s.data.toList.drop 7), true) else ([], false) := by
      rw [hR1, hqd]
      simp [h7]
    clear hR1 hqd e1 e2
    cases q with
    | false =>
      rw [if_neg (by decide)] at hR2
      subst hR2
      go_enter Tryz.func23, Tryz.ntmps23
      go_wp2_with (go_at_call 43; refine stopc ?_)
      refine Stop.go ?_
      refine (ci _).mono ?_
      rintro e w1 ⟨rfl, hs1⟩
      have HS1 := Lib.hid hs1
      clear hs1
      go_wp2
      go_ret2
      exact ⟨rfl, HS1.out⟩
    | true =>
      rw [if_pos rfl] at hR2
      obtain ⟨T, hT⟩ : ∃ T, T = s.extract 7 s.size := ⟨_, rfl⟩
      have hTl : T.data.toList = s.data.toList.drop 7 := by rw [hT, ext_from, sB_data]
      have hTs : T.size ≤ s.size := by rw [hT]; simp
      have cx := fun W => indexAny_any T W (by omega)
      rw [← hTl] at hR2
      obtain ⟨i1, i2⟩ := idx_upto T.data.toList
      rw [size_list] at i1
      obtain ⟨K, hK⟩ : ∃ K, K = Lib.indexAny T.data.toList endsL := ⟨_, rfl⟩
      rw [← hK] at i1 i2 cx
      have HT := Lib.hid hT.symm
      clear hT hK hTl
      cases hk : decide ((0 : Int) ≤ K) with
      | true =>
        have hk0 : (0 : Int) ≤ K := of_decide_eq_true hk
        obtain ⟨j1, j2⟩ := i1 hk0
        have hkT : K ≤ (T.size : Int) := by omega
        rw [j1] at hR2
        have HR := Lib.hid (show strB R1.1 = T.extract 0 K.toNat by rw [hR2, ext_upto])
        have HR2 := Lib.hid (show R1.2 = true by rw [hR2])
        clear hR2 i1 i2 j1 j2
        go_enter Tryz.func23, Tryz.ntmps23
        go_wp2_with (go_at_call 43; refine stopc ?_)
        refine Stop.go ?_
        refine (ci _).mono ?_
        rintro e w1 ⟨rfl, hs1⟩
        have HS1 := Lib.hid hs1
        clear hs1
        go_wp2_with (go_at_call 44; refine stopc ?_)
        refine Stop.go ?_
        simp only [HT.out]
        refine (cx _).mono ?_
        rintro e w2 ⟨rfl, hs2⟩
        have HS2 := Lib.hid (HS1.out.trans hs2)
        clear hs2
        go_wp2
        go_ret2
        exact ⟨by rw [HR.out, HR2.out]; rfl, HS2.out⟩
      | false =>
        have j := i2 (of_decide_eq_false hk)
        rw [j] at hR2
        have HR := Lib.hid (show strB R1.1 = T by rw [hR2]; exact sB_self T)
        have HR2 := Lib.hid (show R1.2 = true by rw [hR2])
        clear hR2 i1 i2 j
        go_enter Tryz.func23, Tryz.ntmps23
        go_wp2_with (go_at_call 43; refine stopc ?_)
        refine Stop.go ?_
        refine (ci _).mono ?_
        rintro e w1 ⟨rfl, hs1⟩
        have HS1 := Lib.hid hs1
        clear hs1
        go_wp2_with (go_at_call 44; refine stopc ?_)
        refine Stop.go ?_
        simp only [HT.out]
        refine (cx _).mono ?_
        rintro e w2 ⟨rfl, hs2⟩
        have HS2 := Lib.hid (HS1.out.trans hs2)
        clear hs2
        go_wp2
        go_ret2
        exact ⟨by rw [HR.out, HR2.out]; rfl, HS2.out⟩

theorem ends_cases (c : UInt8) : c = 47 ∨ c = 63 ∨ c = 35 ∨ (isEnd c = false ∧ ((c.toNat : Int) != 47) = true ∧ ((c.toNat : Int) != 63) = true ∧ ((c.toNat : Int) != 35) = true) := by
  have key : ∀ d : UInt8, c ≠ d → ((c.toNat : Int) != (d.toNat : Int)) = true := fun d h => by
    have : c.toNat ≠ d.toNat := fun e => h (UInt8.toNat_inj.1 e)
    simp
    omega
  by_cases h1 : c = 47
  · exact .inl h1
  · by_cases h2 : c = 63
    · exact .inr (.inl h2)
    · by_cases h3 : c = 35
      · exact .inr (.inr (.inl h3))
      · exact .inr (.inr (.inr ⟨by unfold isEnd; simp [h1, h2, h3], key 47 h1, key 63 h2, key 35 h3⟩))
theorem upto_stop (s : ByteArray) (k : Nat) (h7 : 7 ≤ k) (hk : k ≤ s.size) (hall : ∀ j (hj : j < s.size), 7 ≤ j → j < k → isEnd s[j] = false) (he : k = s.size ∨ ∃ hk : k < s.size, isEnd s[k] = true) :
    strB (uptoEnd (s.data.toList.drop 7)) = s.extract 7 k := by
  have e1 : s.data.toList.drop 7 = (s.data.toList.take k).drop 7 ++ s.data.toList.drop k := by
    rw [← List.drop_append_of_le_length (by rw [List.length_take, size_list]; omega), List.take_append_drop]
  rw [e1, upto_at, ← extract_strB]
  · rw [List.all_eq_true]
    intro x hx
    obtain ⟨j, hj⟩ := List.mem_iff_getElem?.1 hx
    rw [List.getElem?_drop, List.getElem?_take] at hj
    split at hj
    · have hjs : 7 + j < s.size := by omega
      rw [get_list s _ hjs] at hj
      rw [← Option.some.inj hj, hall _ hjs (by omega) ‹_›]
      rfl
    · cases hj
  · intro c hc
    rw [List.getElem?_drop, Nat.add_zero] at hc
    rcases he with rfl | ⟨hk2, he⟩
    · rw [List.getElem?_eq_none (by rw [size_list]; exact Nat.le_refl _)] at hc
      cases hc
    · rw [get_list s _ hk2] at hc
      rw [← Option.some.inj hc]
      exact he

set_option maxRecDepth 100000 in
set_option maxHeartbeats 8000000 in
theorem authR_any (s : ByteArray) (w : World) (hs : s.size < 4294967281) :
    Calls Tryz.prog 25 #[.string s] w fun e w' => e = .returned (.tuple #[.string (strB (authS s.data.toList).1), .bool (authS s.data.toList).2]) ∧ Stp (fun _ => False) w w' := by
  obtain ⟨R1, hR1⟩ : ∃ R, R = authS s.data.toList := ⟨_, rfl⟩
  rw [← hR1]
  unfold authS at hR1
  rw [size_list] at hR1
  cases hq : decide ((s.size : Int) < 7) with
  | true =>
    have h7 : s.size < 7 := by have := of_decide_eq_true hq; omega
    rw [if_neg (by omega)] at hR1
    subst hR1
    clear h7
    go_enter Tryz.func25, Tryz.ntmps25
    go_wp2
    go_ret2
    exact ⟨rfl, Stp.refl _ _⟩
  | false =>
    have h7 : 7 ≤ s.size := by have := of_decide_eq_false hq; omega
    have h7i : (7 : Int) ≤ (s.size : Int) := by omega
    have cl := fun W => lowerR_any (s.extract 0 7) W (by simp; omega)
    have e1 : (s.extract 0 7).data.toList = s.data.toList.take 7 := by rw [ext_upto, sB_data]
    rw [e1] at cl
    obtain ⟨X, hX⟩ : ∃ X, X = lowS (s.data.toList.take 7) := ⟨_, rfl⟩
    rw [← hX] at cl
    have hR2 : R1 = if X = httpL then (uptoEnd (s.data.toList.drop 7), true) else ([], false) := by
      rw [hR1, hX]
      simp [h7]
    have HX := Lib.hid hX
    clear hR1 hX e1
    obtain ⟨B, hB⟩ : ∃ B, B = strB X := ⟨_, rfl⟩
    rw [← hB] at cl
    have HB := Lib.hid hB
    clear hB
    by_cases hx : X = httpL
    · rw [if_pos hx] at hR2
      have HR := Lib.hid hR2
      have hbx : (B.toList == [104, 116, 116, 112, 58, 47, 47]) = true := by rw [HB.out, hx, Lib.toList_data, sB_data]; rfl
      clear hR2 hx
      go_enter Tryz.func25, Tryz.ntmps25
      go_wp2_with (go_at_call 45; refine stopc ?_)
      refine Stop.go ?_
      refine (cl _).mono ?_
      rintro e w1 ⟨rfl, hs1⟩
      have HS1 := Lib.hid hs1
      clear hs1
      go_wp2
      go_loopg [4] (s.size - 7) (fun gf i wr => ∃ k : Nat, k + gf = s.size ∧ 7 ≤ k ∧ i = .int .i64 k ∧ (∀ j (hj : j < s.size), 7 ≤ j → j < k → isEnd s[j] = false) ∧ wr = w1)
      case atStart => exact ⟨7, by omega, Nat.le_refl _, rfl, fun j hj h1 h2 => absurd h1 (by omega), rfl⟩
      case round =>
        obtain ⟨k, hk, hk7, rfl, hall, hw⟩ := hrel
        obtain rfl := hw.symm
        have HALL := Lib.hid hall
        clear hall hw
        by_cases hlt : k < s.size
        · have key := ends_cases s[k]
          obtain ⟨c, hc⟩ : ∃ c, c = s[k] := ⟨_, rfl⟩
          have HC := Lib.hid hc
          rcases key with he | he | he | ⟨he, h1, h2, h3⟩
          · have HE := Lib.hid he
            have i1 : (((s[k]).toNat : Int) != 47) = false := by rw [he]; rfl
            clear he hc
            go_wp2
            go_ret2
            exact ⟨by rw [HR.out, upto_stop s k hk7 (by omega) HALL.out (.inr ⟨hlt, by rw [HE.out]; rfl⟩)]; rfl, HS1.out⟩
          · have HE := Lib.hid he
            have i1 : (((s[k]).toNat : Int) != 47) = true := by rw [he]; rfl
            have i2 : (((s[k]).toNat : Int) != 63) = false := by rw [he]; rfl
            clear he hc
            go_wp2
            go_ret2
            exact ⟨by rw [HR.out, upto_stop s k hk7 (by omega) HALL.out (.inr ⟨hlt, by rw [HE.out]; rfl⟩)]; rfl, HS1.out⟩
          · have HE := Lib.hid he
            have i1 : (((s[k]).toNat : Int) != 47) = true := by rw [he]; rfl
            have i2 : (((s[k]).toNat : Int) != 63) = true := by rw [he]; rfl
            have i3 : (((s[k]).toNat : Int) != 35) = false := by rw [he]; rfl
            clear he hc
            go_wp2
            go_ret2
            exact ⟨by rw [HR.out, upto_stop s k hk7 (by omega) HALL.out (.inr ⟨hlt, by rw [HE.out]; rfl⟩)]; rfl, HS1.out⟩
          · have HE := Lib.hid he
            clear he hc
            obtain ⟨g', rfl⟩ : ∃ g', gk = g' + 1 := ⟨gk - 1, by omega⟩
            go_wp2
            go_roundg g'
            case measure => omega
            case rel =>
              refine ⟨k + 1, by omega, by omega, by go_num, fun j hj h1 h2 => ?_, rfl⟩
              by_cases hjk : j = k
              · subst hjk
                exact HE.out
              · exact HALL.out j hj h1 (by omega)
        · go_wp2
          go_ret2
          exact ⟨by rw [HR.out, upto_stop s k hk7 (by omega) HALL.out (.inl (by omega))]; rfl, HS1.out⟩
    · rw [if_neg hx] at hR2
      subst hR2
      have hbx : (B.toList == [104, 116, 116, 112, 58, 47, 47]) = false := by
        rw [HB.out, ← Bool.not_eq_true]
        intro h
        exact hx (by have := eq_of_beq h; rw [Lib.toList_data, sB_data] at this; exact this)
      clear hx
      go_enter Tryz.func25, Tryz.ntmps25
      go_wp2_with (go_at_call 45; refine stopc ?_)
      refine Stop.go ?_
      refine (cl _).mono ?_
      rintro e w1 ⟨rfl, hs1⟩
      have HS1 := Lib.hid hs1
      clear hs1
      go_wp2
      go_ret2
      exact ⟨rfl, HS1.out⟩
end Go.Proofs.YtdamgdmipfoalaaGreatDoor.L
