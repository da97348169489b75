/- Layer 2: the reference's Trim; numbers and their texts. -/
import Derived.Test.YtgjmaifgkgejgaaGreatDoorAy
set_option linter.unusedVariables false
set_option linter.unusedSimpArgs false
namespace Go.Proofs.YtgjmaifgkgejgaaGreatDoor.L
open Go.RowKit Go.Proofs

theorem trim_cut (l : List UInt8) (a b : Nat) (hab : a ≤ b) (hb : b ≤ l.length) (h1 : ∀ j c, j < a → l[j]? = some c → isBl c = true) (h2 : ∀ j c, b ≤ j → l[j]? = some c → isBl c = true)
    (h3 : a = b ∨ ((∀ c, l[a]? = some c → isBl c = false) ∧ ∀ c, l[b - 1]? = some c → isBl c = false)) : trimS l = (l.take b).drop a := by
  have e : l = (l.take a) ++ ((l.take b).drop a) ++ l.drop b := by
    conv => lhs; rw [← List.take_append_drop b l]
    congr 1
    conv => lhs; rw [← List.take_append_drop a (l.take b)]
    rw [List.take_take, Nat.min_eq_left hab]
  have ha : (l.take a).all isBl = true := by
    rw [List.all_eq_true]
    intro c hc
    obtain ⟨j, hj⟩ := List.mem_iff_getElem?.1 hc
    rw [List.getElem?_take] at hj
    split at hj
    · exact h1 j c ‹_› hj
    · cases hj
  have hbb : (l.drop b).all isBl = true := by
    rw [List.all_eq_true]
    intro c hc
    obtain ⟨j, hj⟩ := List.mem_iff_getElem?.1 hc
    rw [List.getElem?_drop] at hj
    exact h2 (b + j) c (by omega) hj
  conv => lhs; rw [e]
  rw [trim_wrap _ _ _ ha hbb]
  rcases h3 with rfl | ⟨h3, h4⟩
  · rw [List.drop_of_length_le (by rw [List.length_take]; omega)]
    rfl
  · by_cases hlt : a = b
    · subst hlt
      rw [List.drop_of_length_le (by rw [List.length_take]; omega)]
      rfl
    · refine trim_same _ (fun c hc => ?_) (fun c hc => ?_)
      · rw [List.getElem?_drop, List.getElem?_take, if_pos (by omega)] at hc
        exact h3 c (by simpa using hc)
      · rw [List.getElem?_reverse (by rw [List.length_drop, List.length_take]; omega)] at hc
        rw [List.length_drop, List.length_take, Nat.min_eq_left hb, List.getElem?_drop, List.getElem?_take, if_pos (by omega)] at hc
        refine h4 c ?_
        rw [← hc]
        congr 1
        omega
theorem bl_cases (c : UInt8) : (isBl c = true ∧ ((c.toNat : Int) == 32) = true) ∨ (isBl c = true ∧ ((c.toNat : Int) == 32) = false ∧ ((c.toNat : Int) == 9) = true) ∨ (isBl c = false ∧ ((c.toNat : Int) == 32) = false ∧ ((c.toNat : Int) == 9) = false) := by
  rw [isBl_iff]
  have h32 : (c == 32) = ((c.toNat : Int) == 32) := by
    rw [Bool.eq_iff_iff, beq_iff_eq, beq_iff_eq]
    constructor
    · rintro rfl; rfl
    · intro h; apply UInt8.toNat_inj.1; have e : (32 : UInt8).toNat = 32 := rfl; omega
  have h9 : (c == 9) = ((c.toNat : Int) == 9) := by
    rw [Bool.eq_iff_iff, beq_iff_eq, beq_iff_eq]
    constructor
    · rintro rfl; rfl
    · intro h; apply UInt8.toNat_inj.1; have e : (9 : UInt8).toNat = 9 := rfl; omega
  rw [h32, h9]
  cases h1 : ((c.toNat : Int) == 32) <;> cases h2 : ((c.toNat : Int) == 9) <;> simp
theorem extract_strB (s : ByteArray) (a b : Nat) : s.extract a b = strB ((s.data.toList.take b).drop a) := by
  rw [Lib.extract_eq]
  unfold strB
  rw [List.drop_take]

set_option maxRecDepth 100000 in
set_option maxHeartbeats 4000000 in
theorem trimR_any (s : ByteArray) (w : World) (hs : s.size ≤ 9223372036854775807) :
    Calls Tryz.prog 52 #[.string s] w fun e w' => e = .returned (.string (strB (trimS s.data.toList))) ∧ w' = w := by
  obtain ⟨R, hR⟩ : ∃ R : ByteArray, R = strB (trimS s.data.toList) := ⟨_, rfl⟩
  rw [← hR]
  have HR := Lib.hid hR
  clear hR
  go_enter Tryz.func52, Tryz.ntmps52
  go_wp2
  go_loopg [3] s.size (fun gf i wr => ∃ k : Nat, k + gf = s.size ∧ i = .int .i64 k ∧ (∀ j c, j < k → s.data.toList[j]? = some c → isBl c = true) ∧ wr = w)
  case atStart => exact ⟨0, by omega, rfl, fun j c h => absurd h (by omega), rfl⟩
  case round =>
    obtain ⟨k, hk, rfl, hall, rfl⟩ := hrel
    have HALL := Lib.hid hall
    clear hall
    by_cases hgo : ∃ hlt : k < s.size, isBl s[k] = true
    · obtain ⟨hlt, hbl⟩ := hgo
      obtain ⟨g', rfl⟩ : ∃ g', gk = g' + 1 := ⟨gk - 1, by omega⟩
      have HBL := Lib.hid hbl
      rcases bl_cases s[k] with ⟨_, e1⟩ | ⟨_, e1, e2⟩ | ⟨h, _⟩
      · clear hbl
        go_wp2
        go_roundg g'
        case measure => omega
        case rel =>
          refine ⟨k + 1, by omega, by go_num, fun j c hj hx => ?_, rfl⟩
          by_cases e : j = k
          · subst e
            obtain rfl := Option.some.inj (hx.symm.trans (get_list s j hlt))
            exact HBL.out
          · exact HALL.out j c (by omega) hx
      · clear hbl
        go_wp2
        go_roundg g'
        case measure => omega
        case rel =>
          refine ⟨k + 1, by omega, by go_num, fun j c hj hx => ?_, rfl⟩
          by_cases e : j = k
          · subst e
            obtain rfl := Option.some.inj (hx.symm.trans (get_list s j hlt))
            exact HBL.out
          · exact HALL.out j c (by omega) hx
      · rw [hbl] at h
        cases h
    · have hstop : ∀ c, s.data.toList[k]? = some c → isBl c = false := by
        intro c hc
        by_cases hlt : k < s.size
        · obtain rfl := Option.some.inj (hc.symm.trans (get_list s k hlt))
          cases h : isBl s[k] with
          | false => rfl
          | true => exact absurd ⟨hlt, h⟩ hgo
        · rw [List.getElem?_eq_none (by rw [size_list]; omega)] at hc
          cases hc
      have HSTOP := Lib.hid hstop
      have key : (k < s.size ∧ ∃ hlt : k < s.size, ((s[k].toNat : Int) == 32) = false ∧ ((s[k].toNat : Int) == 9) = false) ∨ k = s.size := by
        by_cases hlt : k < s.size
        · left
          refine ⟨hlt, hlt, ?_⟩
          rcases bl_cases s[k] with ⟨h, _⟩ | ⟨h, _⟩ | ⟨_, h⟩
          · exact absurd ⟨hlt, h⟩ hgo
          · exact absurd ⟨hlt, h⟩ hgo
          · exact h
        · right
          omega
      clear hgo hstop
      have hkle : k ≤ s.size := by omega
      obtain ⟨p, q, hp⟩ : ∃ p q : Bool, True := ⟨true, true, trivial⟩
      rcases key with ⟨_, hlt, e1, e2⟩ | hke
      all_goals
        go_wp2
        go_loopg [4] s.size (fun gf i wx => k ≤ gf ∧ gf ≤ s.size ∧ i = .int .i64 gf ∧ (∀ j c, gf ≤ j → s.data.toList[j]? = some c → isBl c = true) ∧ wx = wr)
        case atStart => exact ⟨hkle, Nat.le_refl _, rfl, (fun j c hj hx => by rw [List.getElem?_eq_none (by rw [size_list]; omega)] at hx; cases hx), rfl⟩
        case round =>
          obtain ⟨hkg, hgs, rfl, hbl, rfl⟩ := hrel
          have HBL := Lib.hid hbl
          have HKE := Lib.hid hkle
          clear hbl
          by_cases hgt : k < gk
          · obtain ⟨m, rfl⟩ : ∃ m, gk = m + 1 := ⟨gk - 1, by omega⟩
            have hm : m < s.size := by omega
            rcases bl_cases s[m] with ⟨hb, f1⟩ | ⟨hb, f1, f2⟩ | ⟨hb, f1, f2⟩
            · have HB := Lib.hid hb
              clear hb
              go_wp2
              all_goals
                go_roundg m
                case measure => omega
                case rel =>
                  refine ⟨by omega, by omega, by go_num, fun j c hj hx => ?_, rfl⟩
                  by_cases e : j = m
                  · subst e
                    obtain rfl := Option.some.inj (hx.symm.trans (get_list s j hm))
                    exact HB.out
                  · exact HBL.out j c (by omega) hx
            · have HB := Lib.hid hb
              clear hb
              go_wp2
              all_goals
                go_roundg m
                case measure => omega
                case rel =>
                  refine ⟨by omega, by omega, by go_num, fun j c hj hx => ?_, rfl⟩
                  by_cases e : j = m
                  · subst e
                    obtain rfl := Option.some.inj (hx.symm.trans (get_list s j hm))
                    exact HB.out
                  · exact HBL.out j c (by omega) hx
            · have HB := Lib.hid hb
              clear hb
              go_wp2
              all_goals
                go_ret
                refine ⟨ret_s ?_, rfl⟩
                rw [HR.out, trim_cut s.data.toList k (m + 1) (by omega) (by rw [size_list]; omega) HALL.out HBL.out (.inr ⟨HSTOP.out, fun c hc => ?_⟩), ← extract_strB]
                obtain rfl := Option.some.inj (hc.symm.trans (get_list s m hm))
                exact HB.out
          · obtain rfl : gk = k := by omega
            go_wp2
            go_ret
            refine ⟨ret_s ?_, rfl⟩
            rw [HR.out, trim_cut s.data.toList gk gk (Nat.le_refl _) (by rw [size_list]; omega) HALL.out HBL.out (.inl rfl), List.drop_of_length_le (by rw [List.length_take]; omega)]
            rfl
end Go.Proofs.YtgjmaifgkgejgaaGreatDoor.L
