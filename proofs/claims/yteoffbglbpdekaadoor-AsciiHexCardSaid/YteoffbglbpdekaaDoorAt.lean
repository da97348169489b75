/- Layer 2: the reference's numbers and texts. -/
import Derived.Test.YteoffbglbpdekaaDoorAn
import Derived.Lib.ItoaLen
set_option linter.unusedVariables false
set_option linter.unusedSimpArgs false
namespace Go.Proofs.YteoffbglbpdekaaDoor.L
open Go.RowKit Go.Proofs

theorem numS_empty (l : List UInt8) (most : Int) (h : l.length = 0) : numS l most = (0, false) := by
  obtain rfl := List.eq_nil_of_length_eq_zero h
  rfl
theorem digR_of (c : UInt8) (h1 : 48 ≤ c.toNat) (h2 : c.toNat ≤ 57) : Lib.digitVal c = some (c.toNat - 48) := by
  unfold Lib.digitVal
  rw [if_pos ⟨h1, h2⟩]

set_option maxRecDepth 100000 in
set_option maxHeartbeats 4000000 in
theorem numberR_any (s : ByteArray) (most : Int) (w : World) (hs : s.size ≤ 9223372036854775807) :
    Calls Tryd.prog 45 #[.string s, .int .i64 most] w (NumRet w (numS s.data.toList most)) := by
  obtain ⟨r, hr⟩ : ∃ r, r = numS s.data.toList most := ⟨_, rfl⟩
  rw [← hr]
  by_cases h1 : 1 ≤ s.size
  · by_cases h18 : s.size ≤ 18
    · have h18' : ¬ 18 < s.size := by omega
      have h0 : 0 < s.size := by omega
      by_cases hz : 1 < s.size ∧ s.data.toList[0]? = some 48
      · rw [numS_zero _ _ (by rw [size_list]; exact hz.1) hz.2] at hr
        subst hr
        obtain ⟨h1, h2⟩ := hz
        have e48 := byte48 s h0
        rw [show decide (s.data.toList[0]? = some 48) = true by simpa using h2] at e48
        clear h2
        go_enter Tryd.func45, Tryd.ntmps45
        go_wp2
        go_ret2
        exact ⟨rfl, Stp.refl _ _⟩
      · have key : (¬ 1 < s.size) ∨ (1 < s.size ∧ ((s[0].toNat : Int) == 48) = false) := by
          by_cases h1 : 1 < s.size
          · right
            refine ⟨h1, ?_⟩
            rw [byte48 s h0, decide_eq_false_iff_not]
            exact fun h => hz ⟨h1, h⟩
          · left
            exact h1
        have HZ := Lib.hid hz
        have HR := Lib.hid hr
        clear hz hr
        rcases key with k1 | ⟨k1, k2⟩
        all_goals
          go_enter Tryd.func45, Tryd.ntmps45
          go_wp2
          go_loopg [6, 7] s.size (fun gf n i wr => ∃ k m : Nat, k + gf = s.size ∧ i = .int .i64 k ∧ n = .int .i64 m ∧ Lib.decFrom 0 (s.data.toList.take k) = some m ∧ wr = w)
          case atStart => exact ⟨0, 0, by omega, rfl, rfl, rfl, rfl⟩
          case round =>
            obtain ⟨k, m, hk, rfl, rfl, hm, rfl⟩ := hrel
            by_cases hlt : k < s.size
            · obtain ⟨g', rfl⟩ : ∃ g', gk = g' + 1 := ⟨gk - 1, by omega⟩
              have hb := Lib.decFrom_take_lt hm (by omega)
              have hc := (s[k]).toNat_lt
              have HM := Lib.hid hm
              clear hm
              by_cases c1 : 48 ≤ (s[k]).toNat
              · by_cases c2 : (s[k]).toNat ≤ 57
                · have HN := Lib.hid (Lib.decFrom_take s.data.toList k 0 m (s[k]) _ HM.out (get_list s k hlt) (digR_of _ c1 c2))
                  go_wp2
                  go_roundg g'
                  case measure => omega
                  case rel =>
                    refine ⟨k + 1, m * 10 + ((s[k]).toNat - 48), by omega, by go_num, ?_, HN.out, rfl⟩
                    congr 1
                    omega
                · have HF := Lib.hid (allS_false (p := digR) hlt (by unfold digR; rw [show decide ((s[k]).toNat ≤ 57) = false by simpa using c2, Bool.and_false]))
                  go_wp2
                  go_ret2
                  exact ⟨by rw [HR.out, numS_no _ _ HF.out]; rfl, Stp.refl _ _⟩
              · have HF := Lib.hid (allS_false (p := digR) hlt (by unfold digR; rw [show decide (48 ≤ (s[k]).toNat) = false by simpa using c1]; rfl))
                go_wp2
                go_ret2
                exact ⟨by rw [HR.out, numS_no _ _ HF.out]; rfl, Stp.refl _ _⟩
            · rw [List.take_of_length_le (by rw [size_list]; omega)] at hm
              have hd : Lib.decNat s.data.toList = some m := by
                unfold Lib.decNat
                rw [if_neg ?_]
                · exact hm
                · intro he
                  have : s.data.toList = [] := by simpa using he
                  rw [← size_list, this] at h0
                  simp at h0
              have HD := Lib.hid hd
              clear hd hm
              by_cases hmo : most < m
              · have HR2 := Lib.hid (HR.out.trans (numS_gt _ _ m HD.out hmo))
                go_wp2
                go_ret2
                exact ⟨by rw [HR2.out]; rfl, Stp.refl _ _⟩
              · have HR2 := Lib.hid (HR.out.trans (numS_ok _ _ m HD.out (by rw [size_list]; exact h18) (by rw [size_list]; exact HZ.out) hmo))
                go_wp2
                go_ret2
                exact ⟨by rw [HR2.out]; rfl, Stp.refl _ _⟩
    · rw [numS_long _ _ (by rw [size_list]; exact h18)] at hr
      subst hr
      have h18' : 18 < s.size := by omega
      go_enter Tryd.func45, Tryd.ntmps45
      go_wp2
      go_ret2
      exact ⟨rfl, Stp.refl _ _⟩
  · rw [numS_empty _ _ (by rw [size_list]; omega)] at hr
    subst hr
    go_enter Tryd.func45, Tryd.ntmps45
    go_wp2
    go_ret2
    exact ⟨rfl, Stp.refl _ _⟩

theorem strB_append (x y : List UInt8) : strB x ++ strB y = strB (x ++ y) := by
  apply ByteArray.ext
  simp [strB]
theorem strB_size (l : List UInt8) : (strB l).size = l.length := by simp [strB, ByteArray.size]
theorem digits10_at (n : Nat) (h : n < 10) : (⟨#[48, 49, 50, 51, 52, 53, 54, 55, 56, 57]⟩ : ByteArray).extract n (n + 1) = strB [UInt8.ofNat (48 + n)] := by
  match n, h with
  | 0, _ => rfl
  | 1, _ => rfl
  | 2, _ => rfl
  | 3, _ => rfl
  | 4, _ => rfl
  | 5, _ => rfl
  | 6, _ => rfl
  | 7, _ => rfl
  | 8, _ => rfl
  | 9, _ => rfl

set_option maxRecDepth 100000 in
set_option maxHeartbeats 4000000 in
theorem text_any (n : Nat) (w : World) (h : n ≤ 9223372036854775807) :
    Calls Tryd.prog 48 #[.int .i64 (n : Int)] w fun e w' => e = .returned (.string (strB (Lib.decDigits n))) ∧ w' = w := by
  induction n using Nat.strongRecOn generalizing w with
  | ind n ih =>
    obtain ⟨R, hR⟩ : ∃ R : ByteArray, R = strB (Lib.decDigits n) := ⟨_, rfl⟩
    rw [← hR]
    by_cases h10 : n < 10
    · have HR := Lib.hid (show R = (⟨#[48, 49, 50, 51, 52, 53, 54, 55, 56, 57]⟩ : ByteArray).extract n (n + 1) by rw [hR, digits10_at n h10, Lib.decDigits_one h10])
      clear hR ih
      go_enter Tryd.func48, Tryd.ntmps48
      go_wp2
      go_ret
      exact ⟨ret_s HR.out.symm, rfl⟩
    · have i1 := fun W => ih (n / 10) (by omega) W (by omega)
      have i2 := fun W => ih (n % 10) (by omega) W (by omega)
      have HR := Lib.hid (show R = strB (Lib.decDigits (n / 10)) ++ strB (Lib.decDigits (n % 10)) by
        rw [hR, strB_append, Lib.decDigits_one (show n % 10 < 10 by omega)]
        conv => lhs; rw [Lib.decDigits, dif_neg h10])
      obtain ⟨x, hx⟩ : ∃ x, x = strB (Lib.decDigits (n / 10)) := ⟨_, rfl⟩
      obtain ⟨y, hy⟩ : ∃ y, y = strB (Lib.decDigits (n % 10)) := ⟨_, rfl⟩
      rw [← hx] at i1 HR
      rw [← hy] at i2 HR
      have hxs : x.size ≤ 20 := by rw [hx, strB_size, Lib.decDigits_length]; exact Lib.nDigits_le20 _ (by omega)
      have hys : y.size ≤ 20 := by rw [hy, strB_size, Lib.decDigits_length]; exact Lib.nDigits_le20 _ (by omega)
      clear hR ih hx hy
      have e1 : ((n : Int) / 10) = ((n / 10 : Nat) : Int) := by omega
      have e2 : ((n : Int) % 10) = ((n % 10 : Nat) : Int) := by omega
      rw [← e1] at i1
      rw [← e2] at i2
      clear e1 e2
      go_enter Tryd.func48, Tryd.ntmps48
      go_wp2_with (go_at_call 48; refine stopc ?_)
      refine Stop.go ?_
      refine (i1 _).mono ?_
      rintro e w1 ⟨rfl, rfl⟩
      go_wp2_with (go_at_call 48; refine stopc ?_)
      refine Stop.go ?_
      refine (i2 _).mono ?_
      rintro e w2 ⟨rfl, rfl⟩
      go_wp2
      go_ret
      exact ⟨ret_s HR.out.symm, rfl⟩
end Go.Proofs.YteoffbglbpdekaaDoor.L
