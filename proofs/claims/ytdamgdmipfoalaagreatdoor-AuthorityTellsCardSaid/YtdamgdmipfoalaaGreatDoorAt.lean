/- Layer 2: the reference's numbers and texts. -/
import Derived.Test.YtdamgdmipfoalaaGreatDoorAn
import Derived.Test.YtdamgdmipfoalaaGreatDoorTx
set_option linter.unusedVariables false
set_option linter.unusedSimpArgs false
namespace Go.Proofs.YtdamgdmipfoalaaGreatDoor.L
open Go.RowKit Go.Proofs

theorem numS_empty (l : List UInt8) (most : Int) (h : l.length = 0) : numS l most = (0, false) := by
  obtain rfl := List.eq_nil_of_length_eq_zero h
  rfl
theorem digR_of (c : UInt8) (h1 : 48 ≤ c.toNat) (h2 : c.toNat ≤ 57) : Lib.digitVal c = some (c.toNat - 48) := by
  unfold Lib.digitVal
  rw [if_pos ⟨h1, h2⟩]

set_option maxRecDepth 100000 in
set_option maxHeartbeats 4000000 in
theorem numberR_any (s : ByteArray) (most : Int) (w : World) (hs : s.size ≤ 9223372036854775807) :
    Calls Tryz.prog 16 #[.string s, .int .i64 most] w (NumRet w (numS s.data.toList most)) := by
  obtain ⟨r, hr⟩ : ∃ r, r = numS s.data.toList most := ⟨_, rfl⟩
  rw [← hr]
  by_cases h1 : 1 ≤ s.size
  · by_cases h18 : s.size ≤ 18
    · have h18' : ¬ 18 < s.size := by omega
      have h0 : 0 < s.size := by omega
      by_cases hz : 1 < s.size ∧ s.data.toList[0]? = some 48
      · rw [numS_zero _ _ (by rw [size_list]; exact hz.1) hz.2] at hr
        subst hr
        obtain ⟨h1, h2⟩ := hz
        have e48 := byte48 s h0
        rw [show decide (s.data.toList[0]? = some 48) = true by simpa using h2] at e48
        clear h2
        go_enter Tryz.func16, Tryz.ntmps16
        go_wp2
        go_ret2
        exact ⟨rfl, Stp.refl _ _⟩
      · have key : (¬ 1 < s.size) ∨ (1 < s.size ∧ ((s[0].toNat : Int) == 48) = false) := by
          by_cases h1 : 1 < s.size
          · right
            refine ⟨h1, ?_⟩
            rw [byte48 s h0, decide_eq_false_iff_not]
            exact fun h => hz ⟨h1, h⟩
          · left
            exact h1
        have HZ := Lib.hid hz
        have HR := Lib.hid hr
        clear hz hr
        rcases key with k1 | ⟨k1, k2⟩
        all_goals
          go_enter Tryz.func16, Tryz.ntmps16
          go_wp2
          go_loopg [6, 7] s.size (fun gf n i wr => ∃ k m : Nat, k + gf = s.size ∧ i = .int .i64 k ∧ n = .int .i64 m ∧ Lib.decFrom 0 (s.data.toList.take k) = some m ∧ wr = w)
          case atStart => exact ⟨0, 0, by omega, rfl, rfl, rfl, rfl⟩
          case round =>
            obtain ⟨k, m, hk, rfl, rfl, hm, rfl⟩ := hrel
            by_cases hlt : k < s.size
            · obtain ⟨g', rfl⟩ : ∃ g', gk = g' + 1 := ⟨gk - 1, by omega⟩
              have hb := Lib.decFrom_take_lt hm (by omega)
              have hc := (s[k]).toNat_lt
              have HM := Lib.hid hm
              clear hm
              by_cases c1 : 48 ≤ (s[k]).toNat
              · by_cases c2 : (s[k]).toNat ≤ 57
                · have HN := Lib.hid (Lib.decFrom_take s.data.toList k 0 m (s[k]) _ HM.out (get_list s k hlt) (digR_of _ c1 c2))
                  go_wp2
                  go_roundg g'
                  case measure => omega
                  case rel =>
                    refine ⟨k + 1, m * 10 + ((s[k]).toNat - 48), by omega, by go_num, ?_, HN.out, rfl⟩
                    congr 1
                    omega
                · have HF := Lib.hid (allS_false (p := digR) hlt (by unfold digR; rw [show decide ((s[k]).toNat ≤ 57) = false by simpa using c2, Bool.and_false]))
                  go_wp2
                  go_ret2
                  exact ⟨by rw [HR.out, numS_no _ _ HF.out]; rfl, Stp.refl _ _⟩
              · have HF := Lib.hid (allS_false (p := digR) hlt (by unfold digR; rw [show decide (48 ≤ (s[k]).toNat) = false by simpa using c1]; rfl))
                go_wp2
                go_ret2
                exact ⟨by rw [HR.out, numS_no _ _ HF.out]; rfl, Stp.refl _ _⟩
            · rw [List.take_of_length_le (by rw [size_list]; omega)] at hm
              have hd : Lib.decNat s.data.toList = some m := by
                unfold Lib.decNat
                rw [if_neg ?_]
                · exact hm
                · intro he
                  have : s.data.toList = [] := by simpa using he
                  rw [← size_list, this] at h0
                  simp at h0
              have HD := Lib.hid hd
              clear hd hm
              by_cases hmo : most < m
              · have HR2 := Lib.hid (HR.out.trans (numS_gt _ _ m HD.out hmo))
                go_wp2
                go_ret2
                exact ⟨by rw [HR2.out]; rfl, Stp.refl _ _⟩
              · have HR2 := Lib.hid (HR.out.trans (numS_ok _ _ m HD.out (by rw [size_list]; exact h18) (by rw [size_list]; exact HZ.out) hmo))
                go_wp2
                go_ret2
                exact ⟨by rw [HR2.out]; rfl, Stp.refl _ _⟩
    · rw [numS_long _ _ (by rw [size_list]; exact h18)] at hr
      subst hr
      have h18' : 18 < s.size := by omega
      go_enter Tryz.func16, Tryz.ntmps16
      go_wp2
      go_ret2
      exact ⟨rfl, Stp.refl _ _⟩
  · rw [numS_empty _ _ (by rw [size_list]; omega)] at hr
    subst hr
    go_enter Tryz.func16, Tryz.ntmps16
    go_wp2
    go_ret2
    exact ⟨rfl, Stp.refl _ _⟩

end Go.Proofs.YtdamgdmipfoalaaGreatDoor.L
