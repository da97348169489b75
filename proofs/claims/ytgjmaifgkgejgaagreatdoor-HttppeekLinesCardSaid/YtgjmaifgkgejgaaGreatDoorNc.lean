/- Layer 14: the document's one form of a name. -/
import Derived.Test.YtgjmaifgkgejgaaGreatDoorNa
import Derived.Test.YtgjmaifgkgejgaaGreatDoorWe
import Derived.Test.YtgjmaifgkgejgaaGreatDoorAy
set_option linter.unusedVariables false
set_option linter.unusedSimpArgs false
namespace Go.Proofs.YtgjmaifgkgejgaaGreatDoor.L
open Go.RowKit Go.Proofs

theorem anyR_true {p : Nat → Bool} {s : ByteArray} {k : Nat} (hk : k < s.size) (h : p (s[k]).toNat = true) : anyS p s.data.toList = true := anyS_true hk h
set_option maxRecDepth 100000 in
set_option maxHeartbeats 4000000 in
theorem digitsR_any (s : ByteArray) (w : World) (hs : s.size ≤ 9223372036854775807) : Calls Tryz.prog 94 #[.string s] w fun e w' => e = .returned (.bool (!anyS othR s.data.toList)) ∧ w' = w := by
  obtain ⟨b, hb⟩ : ∃ b, b = !anyS othR s.data.toList := ⟨_, rfl⟩
  rw [← hb]
  have HB := Lib.hid hb
  clear hb
  go_enter Tryz.func94, Tryz.ntmps94
  go_wp2
  go_loopg [3] s.size (fun gf i wr => ∃ k : Nat, k + gf = s.size ∧ i = .int .i64 k ∧ (∀ j (hj : j < s.size), j < k → othR (s[j]).toNat = false) ∧ wr = w)
  case atStart => exact ⟨0, by omega, rfl, fun j hj h => absurd h (by omega), rfl⟩
  case round =>
    obtain ⟨k, hk, rfl, hall, hw⟩ := hrel
    obtain rfl := hw.symm
    have HALL := Lib.hid hall
    clear hall hw
    by_cases hlt : k < s.size
    · obtain ⟨g', rfl⟩ : ∃ g', gk = g' + 1 := ⟨gk - 1, by omega⟩
      by_cases h1 : (s[k]).toNat < 48
      · have HSP := Lib.hid (show othR (s[k]).toNat = true by unfold othR; rw [decide_eq_true h1]; rfl)
        go_wp2
        go_ret
        exact ⟨ret_b (by rw [HB.out, anyR_true hlt HSP.out]; rfl), rfl⟩
      · by_cases h2 : 57 < (s[k]).toNat
        · have HSP := Lib.hid (show othR (s[k]).toNat = true by unfold othR; rw [decide_eq_true h2]; simp)
          go_wp2
          go_ret
          exact ⟨ret_b (by rw [HB.out, anyR_true hlt HSP.out]; rfl), rfl⟩
        · have HSP := Lib.hid (show othR (s[k]).toNat = false by unfold othR; rw [decide_eq_false h1, decide_eq_false h2]; rfl)
          go_wp2
          go_roundg g'
          case measure => omega
          case rel =>
            refine ⟨k + 1, by omega, by go_num, fun j hj hx => ?_, rfl⟩
            by_cases e : j = k
            · subst e
              exact HSP.out
            · exact HALL.out j hj (by omega)
    · have HF := Lib.hid (show anyS othR s.data.toList = false from anyS_false (fun j hj => HALL.out j hj (by omega)))
      go_wp2
      go_ret
      exact ⟨ret_b (by rw [HB.out, HF.out]; rfl), rfl⟩

def LabP (w : World) (l : List UInt8) (e : Ending) (w' : World) : Prop := e = .returned (.bool (!badL l)) ∧ w' = w
theorem last_at (s : ByteArray) (n : Nat) (h : s.size = n + 1) : s.data.toList.getLast? = some (s[n]'(by omega)) := by
  rw [List.getLast?_eq_getElem?, size_list, show s.size - 1 = n by omega]
  exact get_list s n (by omega)
theorem lab_cases (x : Nat) : (97 ≤ x ∧ x ≤ 122) ∨ (65 ≤ x ∧ x ≤ 90) ∨ (48 ≤ x ∧ x ≤ 57) ∨ x = 45 ∨ x = 95 ∨ (x < 48 ∧ x ≠ 45) ∨ (58 ≤ x ∧ x < 65) ∨ (91 ≤ x ∧ x < 97 ∧ x ≠ 95) ∨ 123 ≤ x := by omega
set_option maxRecDepth 100000 in
set_option maxHeartbeats 8000000 in
theorem labelR_any (s : ByteArray) (w : World) (hs : s.size ≤ 9223372036854775807) : Calls Tryz.prog 93 #[.string s] w (LabP w s.data.toList) := by
  obtain ⟨R, hR⟩ : ∃ R, R = LabP w s.data.toList := ⟨_, rfl⟩
  rw [← hR]
  have HR := Lib.hid hR
  clear hR
  go_enter Tryz.func93, Tryz.ntmps93
  go_wp2
  go_loopg [3, 4, 5] s.size (fun gf i _ _ wr => ∃ k : Nat, k + gf = s.size ∧ i = .int .i64 k ∧ (∀ j (hj : j < s.size), j < k → badR (s[j]).toNat = false) ∧ wr = w)
  case atStart => exact ⟨0, by omega, rfl, fun j hj h => absurd h (by omega), rfl⟩
  case round =>
    obtain ⟨k, hk, rfl, hall, hw⟩ := hrel
    obtain rfl := hw.symm
    have HALL := Lib.hid hall
    clear hall hw
    by_cases hlt : k < s.size
    · obtain ⟨g', rfl⟩ : ∃ g', gk = g' + 1 := ⟨gk - 1, by omega⟩
      obtain ⟨x, hx⟩ : ∃ x, x = (s[k]).toNat := ⟨_, rfl⟩
      have hgood : badR x = false → Hid (∀ j (hj : j < s.size), j < k + 1 → badR (s[j]).toNat = false) := fun h => Lib.hid fun j hj hx2 => by
        by_cases e : j = k
        · subst e
          rw [← hx]
          exact h
        · exact HALL.out j hj (by omega)
      have hbad : badR x = true → Hid (badL s.data.toList = true) := fun h => Lib.hid (by
        have := anyR_true (p := badR) hlt (by rw [← hx]; exact h)
        unfold badL
        rw [this]
        simp)
      have hcell := get_list s k hlt
      rcases lab_cases x with ⟨h1, h2⟩ | ⟨h1, h2⟩ | ⟨h1, h2⟩ | h1 | h1 | ⟨h1, h2⟩ | ⟨h1, h2⟩ | ⟨h1, h2, h3⟩ | h1
      iterate 5
        · have HG := hgood (by unfold badR othR; simp; omega)
          rw [hx] at *
          (first | have q1 : decide (((s[k]).toNat : Int) ≤ 122) = true := decide_eq_true (by omega) | have q1 : decide (((s[k]).toNat : Int) ≤ 122) = false := decide_eq_false (by omega))
          (first | have q2 : decide (((s[k]).toNat : Int) ≤ 90) = true := decide_eq_true (by omega) | have q2 : decide (((s[k]).toNat : Int) ≤ 90) = false := decide_eq_false (by omega))
          (first | have q3 : decide (((s[k]).toNat : Int) ≤ 57) = true := decide_eq_true (by omega) | have q3 : decide (((s[k]).toNat : Int) ≤ 57) = false := decide_eq_false (by omega))
          clear hgood hbad
          try (have h3 : (s[k]).toNat < 97 := by omega)
          try (have h4 : (s[k]).toNat < 65 := by omega)
          try (have h5 : (s[k]).toNat < 48 := by omega)
          go_wp2
          go_roundg g'
          case measure => omega
          case rel => exact ⟨k + 1, by omega, by go_num, HG.out, rfl⟩
      all_goals
        have HG := hbad (by unfold badR othR; simp; omega)
        have e45 : ((x : Int) == 45) = false := by simp; omega
        have e95 : ((x : Int) == 95) = false := by simp; omega
        rw [hx] at *
        (first | have q1 : decide (((s[k]).toNat : Int) ≤ 122) = true := decide_eq_true (by omega) | have q1 : decide (((s[k]).toNat : Int) ≤ 122) = false := decide_eq_false (by omega))
        (first | have q2 : decide (((s[k]).toNat : Int) ≤ 90) = true := decide_eq_true (by omega) | have q2 : decide (((s[k]).toNat : Int) ≤ 90) = false := decide_eq_false (by omega))
        (first | have q3 : decide (((s[k]).toNat : Int) ≤ 57) = true := decide_eq_true (by omega) | have q3 : decide (((s[k]).toNat : Int) ≤ 57) = false := decide_eq_false (by omega))
        clear hgood hbad
        go_wp2
        rw [HR.out]
        exact ⟨ret_b (by rw [HG.out]; rfl), rfl⟩
    · have HF := Lib.hid (show anyS badR s.data.toList = false from anyS_false (fun j hj => HALL.out j hj (by omega)))
      by_cases h0 : 0 < s.size
      · obtain ⟨n, hn⟩ : ∃ n, s.size = n + 1 := ⟨s.size - 1, by omega⟩
        have hn2 : n < s.size := by omega
        have hla : s.data.toList.getLast? = some (s[n]'hn2) := last_at s n hn
        have hfi := get_list s 0 h0
        have hne : s.data.toList.isEmpty = false := by
          cases h : s.data.toList with
          | nil => have := size_list s; rw [h] at this; simp at this; omega
          | cons a r => rfl
        have HD : Hid (badL s.data.toList = (decide (63 < s.size) || decide (s[0] = 45) || decide (s[n] = 45))) := Lib.hid (by
          unfold badL
          rw [hne, HF.out, size_list, hla, hfi]
          simp)
        have hw1 : IntKind.i64.wrap ((s.size : Int) - 1) = (n : Int) := by rw [IntWalk.i64_in _ (by omega)]; omega
        have hn3 : (n : Int) < (s.size : Int) := by omega
        clear hn
        clear hla hfi hne HF
        by_cases h64 : s.size < 64
        · have d64 : decide ((s.size : Int) < 64) = true := decide_eq_true (by omega)
          by_cases hf : s[0] = 45
          · have hf2 : (((s[0]).toNat : Int) != 45) = false := by rw [hf]; rfl
            have HG : Hid (badL s.data.toList = true) := Lib.hid (by rw [HD.out, hf]; simp)
            clear hf
            go_wp2
            rw [HR.out]
            exact ⟨ret_b (by rw [HG.out]; rfl), rfl⟩
          · have hf2 : (((s[0]).toNat : Int) != 45) = true := by
              have : (s[0]).toNat ≠ 45 := fun e => hf (UInt8.toNat_inj.1 e)
              simp
              omega
            by_cases hl : s[n] = 45
            · have hl2 : (((s[n]).toNat : Int) != 45) = false := by rw [hl]; rfl
              have HG : Hid (badL s.data.toList = true) := Lib.hid (by rw [HD.out, hl]; simp)
              clear hf hl
              go_wp2
              rw [HR.out]
              exact ⟨ret_b (by rw [HG.out]; rfl), rfl⟩
            · have hl2 : (((s[n]).toNat : Int) != 45) = true := by
                have : (s[n]).toNat ≠ 45 := fun e => hl (UInt8.toNat_inj.1 e)
                simp
                omega
              have HG : Hid (badL s.data.toList = false) := Lib.hid (by rw [HD.out, decide_eq_false hf, decide_eq_false hl, decide_eq_false (by omega)]; rfl)
              clear hf hl
              go_wp2
              rw [HR.out]
              exact ⟨ret_b (by rw [HG.out]; rfl), rfl⟩
        · have d64 : decide ((s.size : Int) < 64) = false := decide_eq_false (by omega)
          have HG : Hid (badL s.data.toList = true) := Lib.hid (by rw [HD.out, decide_eq_true (by omega)]; simp)
          clear h64
          go_wp2
          rw [HR.out]
          exact ⟨ret_b (by rw [HG.out]; rfl), rfl⟩
      · have HG : Hid (badL s.data.toList = true) := Lib.hid (by
          have : s.data.toList = [] := List.eq_nil_of_length_eq_zero (by rw [size_list]; omega)
          rw [this]
          rfl)
        go_wp2
        rw [HR.out]
        exact ⟨ret_b (by rw [HG.out]; rfl), rfl⟩
end Go.Proofs.YtgjmaifgkgejgaaGreatDoor.L

/-! Layer 14: the document's Normal. -/
namespace Go.Proofs.YtgjmaifgkgejgaaGreatDoor.L
open Go.RowKit Go.Proofs

theorem undot_cut (y : ByteArray) (n : Nat) (h : y.size = n + 1) (hc : y[n]'(by omega) = 46) : (y.extract 0 n).data.toList = undot y.data.toList := by
  have hl := last_at y n h
  rw [hc] at hl
  unfold undot
  rw [if_pos hl, List.dropLast_eq_take, size_list, ByteArray.data_extract, Array.toList_extract]
  simp [h]
theorem undot_same (y : ByteArray) (n : Nat) (h : y.size = n + 1) (hc : y[n]'(by omega) ≠ 46) : undot y.data.toList = y.data.toList := by
  have hl := last_at y n h
  unfold undot
  rw [if_neg (by rw [hl]; simpa using hc)]
set_option maxRecDepth 100000 in
set_option maxHeartbeats 8000000 in
theorem normR_any (s : ByteArray) (w : World) (hs : s.size < 4294967280) : Calls Tryz.prog 49 #[.string s] w (NormP w (normN s.data.toList)) := by
  obtain ⟨R, hR⟩ : ∃ R, R = NormP w (normN s.data.toList) := ⟨_, rfl⟩
  rw [← hR]
  have HR := Lib.hid hR
  clear hR
  have hsl := size_list s
  have cA := fun W => aparseR_any s W (by omega)
  obtain ⟨O, hO⟩ : ∃ O, O = (parseA s.data.toList).isSome := ⟨_, rfl⟩
  unfold AdrP at cA
  simp only [← hO] at cA
  have HOV := Lib.hid hO
  have cL := fun W => lowerR_any s W (by omega)
  obtain ⟨y, hy⟩ : ∃ y, y = strB (lowS s.data.toList) := ⟨_, rfl⟩
  have hyd : y.data.toList = lowS s.data.toList := by rw [hy]; simp [strB]
  have hys : y.size = s.size := by rw [hy, strB_size, lowS_len, size_list]
  simp only [← hy] at cL
  have HYD := Lib.hid hyd
  clear hO hy hyd
  go_enter Tryz.func49, Tryz.ntmps49
  go_wp2_with (go_at_call 91; refine stopc ?_)
  refine Stop.go ?_
  refine (cA _).mono ?_
  rintro e w6 ⟨a, rfl, hal, hsome, -, hs6⟩
  have HS6 := Lib.hid hs6
  have HAL := Lib.hid hal
  have HSO := Lib.hid hsome
  clear hs6 hal hsome
  go_wp2_with (refine wp_storeA rfl _ _ _ rfl rfl rfl (arr_new _ _ _ (zerosL 16) rfl) size_addr HAL.out rfl ?_; intro w7 hA7 hs7; refine stopw ?_)
  refine Stop.go ?_
  have HS7 := Lib.hid ((HS6.out.alloc _).then_ hs7 (fun k hk h => absurd h (by have := HS6.out.size; omega)))
  have HA7 := Lib.hid hA7
  clear hs7 hA7
  cases O with
  | true =>
    have HPA : Hid (parseA s.data.toList = some a) := Lib.hid (by
      cases hq : parseA s.data.toList with
      | none => have := HOV.out; rw [hq] at this; cases this
      | some b => rw [HSO.out b hq])
    have HD : Hid (normN s.data.toList = (printA a, 0)) := Lib.hid (by unfold normN; rw [HPA.out])
    have cP := fun W => aprintR_any a HAL.out W
    go_wp2_with (with_reducible refine stop (N := 16) rfl ?_)
    refine Stop.go ?_
    refine wp_loadA rfl _ _ rfl rfl HA7.out Tryz.underlying76 size_addr HAL.out ?_
    go_wp2_with (go_at_call 92; refine stopc ?_)
    refine Stop.go ?_
    refine (cP _).mono ?_
    rintro e w9 ⟨rfl, hs9⟩
    have HS9 := Lib.hid (HS7.out.trans hs9)
    clear hs9
    go_wp2
    rw [HR.out, HD.out]
    exact ⟨rfl, HS9.out⟩
  | false =>
    have HDN : Hid (normN s.data.toList = nameN (undot y.data.toList)) := Lib.hid (by
      unfold normN
      cases hq : parseA s.data.toList with
      | none => rw [HYD.out]
      | some b => have := HOV.out; rw [hq] at this; cases this)
    go_wp2_with (go_at_call 51; refine stopc ?_)
    refine Stop.go ?_
    refine (cL _).mono ?_
    rintro e w8 ⟨rfl, hs8⟩
    have HS8 := Lib.hid (HS7.out.trans hs8)
    clear hs8
    have key : (y.size = 0) ∨ ∃ n, ∃ h : y.size = n + 1, y[n]'(by omega) = 46 ∨ y[n]'(by omega) ≠ 46 := by
      by_cases h0 : y.size = 0
      · exact Or.inl h0
      · exact Or.inr ⟨y.size - 1, by omega, Classical.em _⟩
    have HYS := Lib.hid hys
    clear cL cA
    rcases key with h0 | ⟨n, hn, hc | hc⟩
    rotate_left
    focus
      obtain ⟨x, hx⟩ : ∃ x, y.extract 0 n = x := ⟨_, rfl⟩
      have hxd : x.data.toList = undot y.data.toList := by rw [← hx]; exact undot_cut y n hn hc
      have HDX : Hid (normN s.data.toList = nameN x.data.toList) := Lib.hid (by rw [HDN.out, hxd])
      have hxs : x.size ≤ s.size := by
        have := congrArg List.length hxd
        rw [size_list] at this
        have h2 := undot_len y.data.toList
        rw [size_list] at h2
        omega
      have hd : 0 < y.size := by omega
      have hw1 : IntKind.i64.wrap ((y.size : Int) - 1) = (n : Int) := by rw [IntWalk.i64_in _ (by omega)]; omega
      have hn2 : n < y.size := by omega
      have hn3 : (n : Int) < (y.size : Int) := by omega
      have hc2 : (((y[n]).toNat : Int) == 46) = true := by rw [hc]; rfl
      clear hc hn hys hxd
    rotate_left
    focus
      have hxd := undot_same y n hn hc
      have hd : 0 < y.size := by omega
      have hw1 : IntKind.i64.wrap ((y.size : Int) - 1) = (n : Int) := by rw [IntWalk.i64_in _ (by omega)]; omega
      have hn2 : n < y.size := by omega
      have hn3 : (n : Int) < (y.size : Int) := by omega
      have hc2 : (((y[n]).toNat : Int) == 46) = false := by
        have : (y[n]).toNat ≠ 46 := fun e => hc (UInt8.toNat_inj.1 e)
        simp
        omega
      have HDX : Hid (normN s.data.toList = nameN y.data.toList) := Lib.hid (by rw [HDN.out, hxd])
      have hxs : y.size ≤ s.size := by omega
      clear hc hn hys hxd
      obtain ⟨x, hx⟩ : ∃ x, x = y := ⟨_, rfl⟩
      subst hx
    rotate_left
    focus
      have hxd : undot y.data.toList = y.data.toList := by
        have : y.data.toList = [] := List.eq_nil_of_length_eq_zero (by rw [size_list]; exact h0)
        rw [this]
        rfl
      have hd : ¬ 0 < y.size := by omega
      have HDX : Hid (normN s.data.toList = nameN y.data.toList) := Lib.hid (by rw [HDN.out, hxd])
      have hxs : y.size ≤ s.size := by omega
      clear h0 hys hxd
      obtain ⟨x, hx⟩ : ∃ x, x = y := ⟨_, rfl⟩
      subst hx
    all_goals
      by_cases h0 : x.data.toList = []
      · have ht : (x.toList == []) = true := by rw [list_eqb]; simp [h0]
        have HD : Hid (normN s.data.toList = ([], 8)) := Lib.hid (by rw [HDX.out]; unfold nameN; rw [if_pos h0])
        clear h0
        go_wp2
        rw [HR.out, HD.out]
        exact ⟨rfl, HS8.out⟩
      have ht : (x.toList == []) = false := by rw [list_eqb]; simp [h0]
      by_cases h253 : 253 < x.size
      · have hd253 : decide ((253 : Int) < (x.size : Int)) = true := decide_eq_true (by omega)
        have HD : Hid (normN s.data.toList = ([], 6)) := Lib.hid (by rw [HDX.out]; unfold nameN; rw [if_neg h0, if_pos (by rw [size_list]; exact h253)])
        clear h0 h253
        go_wp2
        rw [HR.out, HD.out]
        exact ⟨rfl, HS8.out⟩
      have hd253 : decide ((253 : Int) < (x.size : Int)) = false := decide_eq_false (by omega)
      have HDL : Hid (normN s.data.toList = if (splitC 46 x.data.toList).any badL = true ∨ anyS othR (lastC (splitC 46 x.data.toList)) = false then ([], 9) else (x.data.toList, 0)) := Lib.hid (by
        rw [HDX.out]
        unfold nameN
        rw [if_neg h0, if_neg (by rw [size_list]; exact h253)])
      have cc := fun W => cutR_any x 46 W (by omega)
      clear h0 h253
      go_wp2_with (go_at_call 45; refine stopc ?_)
      refine Stop.go ?_
      refine (cc _).mono ?_
      rintro e w9 ⟨v, X, rfl, hX, hown, hs9⟩
      have HXX := Lib.hid hX
      have hXl : 0 < X.length := by
        have := congrArg List.length hX
        rw [List.length_map] at this
        have h2 := List.length_pos_iff.2 (splitC_ne 46 x.data.toList)
        omega
      have hXn : X.length ≤ x.size + 1 := by
        have := congrArg List.length hX
        rw [List.length_map, splitC_len] at this
        have h2 := List.count_le_length (a := (46 : UInt8)) (l := x.data.toList)
        rw [size_list] at h2
        omega
      have hXz : ∀ z ∈ X, z.size ≤ 9223372036854775807 := by
        intro z hz
        have h1 : z.data.toList ∈ splitC 46 x.data.toList := by rw [← hX]; exact List.mem_map_of_mem hz
        have h2 := splitc_le 46 _ _ h1
        rw [size_list, size_list] at h2
        omega
      have HXZ := Lib.hid hXz
      have HDM : Hid (normN s.data.toList = if X.any (fun z => badL z.data.toList) = true ∨ anyS othR (X[X.length - 1]'(by omega)).data.toList = false then ([], 9) else (x.data.toList, 0)) := Lib.hid (by
        rw [HDL.out, ← HXX.out, last_get X hXl, List.any_map]
        rfl)
      have HS9 := Lib.hid (HS8.out.trans hs9)
      have HRX := Lib.hid (show Rd str (fun _ => False) w9 v X from hown.rd (fun _ _ h => h))
      obtain ⟨A, c, rfl, hle⟩ := hown.form
      clear hs9 hown hX hXz HDL cc
      go_wp2
      go_loopg [8, 9] X.length (fun gf i _ wr => ∃ k : Nat, k + gf = X.length ∧ i = .int .i64 k ∧ (∀ j (hj : j < X.length), j < k → badL (X[j]).data.toList = false) ∧ wr = w9)
      case atStart => exact ⟨0, by omega, rfl, fun j hj h => absurd h (by omega), rfl⟩
      case round =>
        obtain ⟨k, hk, rfl, hall, hw⟩ := hrel
        obtain rfl := hw.symm
        have HALL := Lib.hid hall
        clear hall hw
        by_cases hlt : k < X.length
        · obtain ⟨ad, rfl, -, hc⟩ := plain_cell HRX.out k hlt
          obtain ⟨z, hz⟩ : ∃ z, z = X[k] := ⟨_, rfl⟩
          rw [← hz] at hc
          have cb := fun W => labelR_any z W (by rw [hz]; exact HXZ.out _ (List.getElem_mem hlt))
          unfold LabP at cb
          obtain ⟨b, hb⟩ : ∃ b, b = badL z.data.toList := ⟨_, rfl⟩
          rw [← hb] at cb
          have HZ := Lib.hid hz
          have HB := Lib.hid hb
          have hin : (k : Int) < (X.length : Int) := by omega
          have hw : IntKind.i64.wrap ((k : Int) + 1) = (k : Int) + 1 := IntWalk.i64_in _ (by omega)
          clear hz hb
          cases b with
          | true =>
            have HD : Hid (normN s.data.toList = ([], 9)) := Lib.hid (by rw [HDM.out, if_pos (Or.inl (any_hit X k hlt (by rw [← HZ.out, ← HB.out])))])
            go_wp2_with (go_at_call 93; refine (cb _).mono ?_; rintro e w1 ⟨rfl, rfl⟩)
            rw [HR.out, HD.out]
            exact ⟨rfl, HS9.out⟩
          | false =>
            obtain ⟨g', rfl⟩ : ∃ g', gk = g' + 1 := ⟨gk - 1, by omega⟩
            go_wp2_with (go_at_call 93; refine (cb _).mono ?_; rintro e w1 ⟨rfl, rfl⟩)
            go_roundg g'
            case measure => omega
            case rel =>
              refine ⟨k + 1, by omega, by go_num, fun j hj h1 => ?_, rfl⟩
              by_cases hjk : j = k
              · subst hjk
                rw [← HZ.out, ← HB.out]
              · exact HALL.out j hj (by omega)
        · have hno := any_take X k HALL.out (by omega)
          obtain ⟨n9, hn9⟩ : ∃ n, X.length = n + 1 := ⟨X.length - 1, by omega⟩
          have hn9l : n9 < X.length := by omega
          obtain ⟨ad, rfl, -, hc⟩ := plain_cell HRX.out n9 hn9l
          obtain ⟨z, hz⟩ : ∃ z, z = X[n9] := ⟨_, rfl⟩
          rw [← hz] at hc
          have hzz : z.size ≤ 9223372036854775807 := by rw [hz]; exact HXZ.out _ (List.getElem_mem hn9l)
          have cb := fun W => digitsR_any z W hzz
          obtain ⟨b, hb⟩ : ∃ b, b = anyS othR z.data.toList := ⟨_, rfl⟩
          rw [← hb] at cb
          have HDK : Hid (normN s.data.toList = if b = false then ([], 9) else (x.data.toList, 0)) := Lib.hid (by
            rw [HDM.out, hno]
            have : X[X.length - 1]'(by omega) = z := by rw [hz]; congr 1; omega
            rw [this, ← hb]
            simp)
          have hw1' : IntKind.i64.wrap ((X.length : Int) - 1) = (n9 : Int) := by rw [IntWalk.i64_in _ (by omega)]; omega
          have hlt9 : (n9 : Int) < (X.length : Int) := by omega
          clear hz hb hno hn9
          cases b with
          | true =>
            have HD : Hid (normN s.data.toList = (x.data.toList, 0)) := Lib.hid (by rw [HDK.out, if_neg (by decide)])
            go_wp2_with (go_at_call 94; refine (cb _).mono ?_; rintro e w1 ⟨rfl, rfl⟩)
            rw [HR.out, HD.out]
            exact ⟨by rw [strB_of']; rfl, HS9.out⟩
          | false =>
            have HD : Hid (normN s.data.toList = ([], 9)) := Lib.hid (by rw [HDK.out, if_pos rfl])
            go_wp2_with (go_at_call 94; refine (cb _).mono ?_; rintro e w1 ⟨rfl, rfl⟩)
            rw [HR.out, HD.out]
            exact ⟨rfl, HS9.out⟩
end Go.Proofs.YtgjmaifgkgejgaaGreatDoor.L
