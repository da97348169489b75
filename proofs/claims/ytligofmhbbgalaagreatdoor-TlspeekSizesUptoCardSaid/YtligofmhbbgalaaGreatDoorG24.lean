/- Texts of the proof, joined: Nc Tj. -/
import Derived.Test.YtligofmhbbgalaaGreatDoorG19
import Derived.Test.YtligofmhbbgalaaGreatDoorG23
import Derived.Test.YtligofmhbbgalaaGreatDoorG10
import Derived.Test.YtligofmhbbgalaaGreatDoorG12
import Derived.Test.YtligofmhbbgalaaGreatDoorG20
import Derived.Test.YtligofmhbbgalaaGreatDoorG16
import Derived.Test.YtligofmhbbgalaaGreatDoorG05
set_option linter.unusedVariables false
set_option linter.unusedSimpArgs false
/- Layer 14: the document's one form of a name. -/
namespace Go.Proofs.YtligofmhbbgalaaGreatDoor.L
open Go.RowKit Go.Proofs

theorem anyR_true {p : Nat → Bool} {s : ByteArray} {k : Nat} (hk : k < s.size) (h : p (s[k]).toNat = true) : anyS p s.data.toList = true := anyS_true hk h
set_option maxRecDepth 100000 in
set_option maxHeartbeats 4000000 in
theorem digitsR_any (s : ByteArray) (w : World) (hs : s.size ≤ 9223372036854775807) : Calls Tryz.prog 94 #[.string s] w fun e w' => e = .returned (.bool (!anyS othR s.data.toList)) ∧ w' = w := by
  obtain ⟨b, hb⟩ : ∃ b, b = !anyS othR s.data.toList := ⟨_, rfl⟩
  rw [← hb]
  have HB := Lib.hid hb
  clear hb
  go_enter Tryz.func94, Tryz.ntmps94
  go_wp2
  go_loopg [3] s.size (fun gf i wr => ∃ k : Nat, k + gf = s.size ∧ i = .int .i64 k ∧ (∀ j (hj : j < s.size), j < k → othR (s[j]).toNat = false) ∧ wr = w)
  case atStart => exact ⟨0, by omega, rfl, fun j hj h => absurd h (by omega), rfl⟩
  case round =>
    obtain ⟨k, hk, rfl, hall, hw⟩ := hrel
    obtain rfl := hw.symm
    have HALL := Lib.hid hall
    clear hall hw
    by_cases hlt : k < s.size
    · obtain ⟨g', rfl⟩ : ∃ g', gk = g' + 1 := ⟨gk - 1, by omega⟩
      by_cases h1 : (s[k]).toNat < 48
      · have HSP := Lib.hid (show othR (s[k]).toNat = true by unfold othR; rw [decide_eq_true h1]; rfl)
        go_wp2
        go_ret
        exact ⟨ret_b (by rw [HB.out, anyR_true hlt HSP.out]; rfl), rfl⟩
      · by_cases h2 : 57 < (s[k]).toNat
        · have HSP := Lib.hid (show othR (s[k]).toNat = true by unfold othR; rw [decide_eq_true h2]; simp)
          go_wp2
          go_ret
          exact ⟨ret_b (by rw [HB.out, anyR_true hlt HSP.out]; rfl), rfl⟩
        · have HSP := Lib.hid (show othR (s[k]).toNat = false by unfold othR; rw [decide_eq_false h1, decide_eq_false h2]; rfl)
          go_wp2
          go_roundg g'
          case measure => omega
          case rel =>
            refine ⟨k + 1, by omega, by go_num, fun j hj hx => ?_, rfl⟩
            by_cases e : j = k
            · subst e
              exact HSP.out
            · exact HALL.out j hj (by omega)
    · have HF := Lib.hid (show anyS othR s.data.toList = false from anyS_false (fun j hj => HALL.out j hj (by omega)))
      go_wp2
      go_ret
      exact ⟨ret_b (by rw [HB.out, HF.out]; rfl), rfl⟩

def LabP (w : World) (l : List UInt8) (e : Ending) (w' : World) : Prop := e = .returned (.bool (!badL l)) ∧ w' = w
theorem last_at (s : ByteArray) (n : Nat) (h : s.size = n + 1) : s.data.toList.getLast? = some (s[n]'(by omega)) := by
  rw [List.getLast?_eq_getElem?, size_list, show s.size - 1 = n by omega]
  exact get_list s n (by omega)
theorem lab_cases (x : Nat) : (97 ≤ x ∧ x ≤ 122) ∨ (65 ≤ x ∧ x ≤ 90) ∨ (48 ≤ x ∧ x ≤ 57) ∨ x = 45 ∨ x = 95 ∨ (x < 48 ∧ x ≠ 45) ∨ (58 ≤ x ∧ x < 65) ∨ (91 ≤ x ∧ x < 97 ∧ x ≠ 95) ∨ 123 ≤ x := by omega
set_option maxRecDepth 100000 in
set_option maxHeartbeats 8000000 in
theorem labelR_any (s : ByteArray) (w : World) (hs : s.size ≤ 9223372036854775807) : Calls Tryz.prog 93 #[.string s] w (LabP w s.data.toList) := by
  obtain ⟨R, hR⟩ : ∃ R, R = LabP w s.data.toList := ⟨_, rfl⟩
  rw [← hR]
  have HR := Lib.hid hR
  clear hR
  go_enter Tryz.func93, Tryz.ntmps93
  go_wp2
  go_loopg [3, 4, 5] s.size (fun gf i _ _ wr => ∃ k : Nat, k + gf = s.size ∧ i = .int .i64 k ∧ (∀ j (hj : j < s.size), j < k → badR (s[j]).toNat = false) ∧ wr = w)
  case atStart => exact ⟨0, by omega, rfl, fun j hj h => absurd h (by omega), rfl⟩
  case round =>
    obtain ⟨k, hk, rfl, hall, hw⟩ := hrel
    obtain rfl := hw.symm
    have HALL := Lib.hid hall
    clear hall hw
    by_cases hlt : k < s.size
    · obtain ⟨g', rfl⟩ : ∃ g', gk = g' + 1 := ⟨gk - 1, by omega⟩
      obtain ⟨x, hx⟩ : ∃ x, x = (s[k]).toNat := ⟨_, rfl⟩
      have hgood : badR x = false → Hid (∀ j (hj : j < s.size), j < k + 1 → badR (s[j]).toNat = false) := fun h => Lib.hid fun j hj hx2 => by
        by_cases e : j = k
        · subst e
          rw [← hx]
          exact h
        · exact HALL.out j hj (by omega)
      have hbad : badR x = true → Hid (badL s.data.toList = true) := fun h => Lib.hid (by
        have := anyR_true (p := badR) hlt (by rw [← hx]; exact h)
        unfold badL
        rw [this]
        simp)
      have hcell := get_list s k hlt
      rcases lab_cases x with ⟨h1, h2⟩ | ⟨h1, h2⟩ | ⟨h1, h2⟩ | h1 | h1 | ⟨h1, h2⟩ | ⟨h1, h2⟩ | ⟨h1, h2, h3⟩ | h1
      iterate 5
        · have HG := hgood (by unfold badR othR; simp; omega)
          rw [hx] at *
          (first | have q1 : decide (((s[k]).toNat : Int) ≤ 122) = true := decide_eq_true (by omega) | have q1 : decide (((s[k]).toNat : Int) ≤ 122) = false := decide_eq_false (by omega))
          (first | have q2 : decide (((s[k]).toNat : Int) ≤ 90) = true := decide_eq_true (by omega) | have q2 : decide (((s[k]).toNat : Int) ≤ 90) = false := decide_eq_false (by omega))
          (first | have q3 : decide (((s[k]).toNat : Int) ≤ 57) = true := decide_eq_true (by omega) | have q3 : decide (((s[k]).toNat : Int) ≤ 57) = false := decide_eq_false (by omega))
          clear hgood hbad
          try (have h3 : (s[k]).toNat < 97 := by omega)
          try (have h4 : (s[k]).toNat < 65 := by omega)
          try (have h5 : (s[k]).toNat < 48 := by omega)
          go_wp2
          go_roundg g'
          case measure => omega
          case rel => exact ⟨k + 1, by omega, by go_num, HG.out, rfl⟩
      all_goals
        have HG := hbad (by unfold badR othR; simp; omega)
        have e45 : ((x : Int) == 45) = false := by simp; omega
        have e95 : ((x : Int) == 95) = false := by simp; omega
        rw [hx] at *
        (first | have q1 : decide (((s[k]).toNat : Int) ≤ 122) = true := decide_eq_true (by omega) | have q1 : decide (((s[k]).toNat : Int) ≤ 122) = false := decide_eq_false (by omega))
        (first | have q2 : decide (((s[k]).toNat : Int) ≤ 90) = true := decide_eq_true (by omega) | have q2 : decide (((s[k]).toNat : Int) ≤ 90) = false := decide_eq_false (by omega))
        (first | have q3 : decide (((s[k]).toNat : Int) ≤ 57) = true := decide_eq_true (by omega) | have q3 : decide (((s[k]).toNat : Int) ≤ 57) = false := decide_eq_false (by omega))
        clear hgood hbad
        go_wp2
        rw [HR.out]
        exact ⟨ret_b (by rw [HG.out]; rfl), rfl⟩
    · have HF := Lib.hid (show anyS badR s.data.toList = false from anyS_false (fun j hj => HALL.out j hj (by omega)))
      by_cases h0 : 0 < s.size
      · obtain ⟨n, hn⟩ : ∃ n, s.size = n + 1 := ⟨s.size - 1, by omega⟩
        have hn2 : n < s.size := by omega
        have hla : s.data.toList.getLast? = some (s[n]'hn2) := last_at s n hn
        have hfi := get_list s 0 h0
        have hne : s.data.toList.isEmpty = false := by
          cases h : s.data.toList with
          | nil => have := size_list s; rw [h] at this; simp at this; omega
          | cons a r => rfl
        have HD : Hid (badL s.data.toList = (decide (63 < s.size) || decide (s[0] = 45) || decide (s[n] = 45))) := Lib.hid (by
          unfold badL
          rw [hne, HF.out, size_list, hla, hfi]
          simp)
        have hw1 : IntKind.i64.wrap ((s.size : Int) - 1) = (n : Int) := by rw [IntWalk.i64_in _ (by omega)]; omega
        have hn3 : (n : Int) < (s.size : Int) := by omega
        clear hn
        clear hla hfi hne HF
        by_cases h64 : s.size < 64
        · have d64 : decide ((s.size : Int) < 64) = true := decide_eq_true (by omega)
          by_cases hf : s[0] = 45
          · have hf2 : (((s[0]).toNat : Int) != 45) = false := by rw [hf]; rfl
            have HG : Hid (badL s.data.toList = true) := Lib.hid (by rw [HD.out, hf]; simp)
            clear hf
            go_wp2
            rw [HR.out]
            exact ⟨ret_b (by rw [HG.out]; rfl), rfl⟩
          · have hf2 : (((s[0]).toNat : Int) != 45) = true := by
              have : (s[0]).toNat ≠ 45 := fun e => hf (UInt8.toNat_inj.1 e)
              simp
              omega
            by_cases hl : s[n] = 45
            · have hl2 : (((s[n]).toNat : Int) != 45) = false := by rw [hl]; rfl
              have HG : Hid (badL s.data.toList = true) := Lib.hid (by rw [HD.out, hl]; simp)
              clear hf hl
              go_wp2
              rw [HR.out]
              exact ⟨ret_b (by rw [HG.out]; rfl), rfl⟩
            · have hl2 : (((s[n]).toNat : Int) != 45) = true := by
                have : (s[n]).toNat ≠ 45 := fun e => hl (UInt8.toNat_inj.1 e)
                simp
                omega
              have HG : Hid (badL s.data.toList = false) := Lib.hid (by rw [HD.out, decide_eq_false hf, decide_eq_false hl, decide_eq_false (by omega)]; rfl)
              clear hf hl
              go_wp2
              rw [HR.out]
              exact ⟨ret_b (by rw [HG.out]; rfl), rfl⟩
        · have d64 : decide ((s.size : Int) < 64) = false := decide_eq_false (by omega)
          have HG : Hid (badL s.data.toList = true) := Lib.hid (by rw [HD.out, decide_eq_true (by omega)]; simp)
          clear h64
          go_wp2
          rw [HR.out]
          exact ⟨ret_b (by rw [HG.out]; rfl), rfl⟩
      · have HG : Hid (badL s.data.toList = true) := Lib.hid (by
          have : s.data.toList = [] := List.eq_nil_of_length_eq_zero (by rw [size_list]; omega)
          rw [this]
          rfl)
        go_wp2
        rw [HR.out]
        exact ⟨ret_b (by rw [HG.out]; rfl), rfl⟩
end Go.Proofs.YtligofmhbbgalaaGreatDoor.L

/-! Layer 14: the document's Normal. -/
namespace Go.Proofs.YtligofmhbbgalaaGreatDoor.L
open Go.RowKit Go.Proofs

theorem undot_cut (y : ByteArray) (n : Nat) (h : y.size = n + 1) (hc : y[n]'(by omega) = 46) : (y.extract 0 n).data.toList = undot y.data.toList := by
  have hl := last_at y n h
  rw [hc] at hl
  unfold undot
  rw [if_pos hl, List.dropLast_eq_take, size_list, ByteArray.data_extract, Array.toList_extract]
  simp [h]
theorem undot_same (y : ByteArray) (n : Nat) (h : y.size = n + 1) (hc : y[n]'(by omega) ≠ 46) : undot y.data.toList = y.data.toList := by
  have hl := last_at y n h
  unfold undot
  rw [if_neg (by rw [hl]; simpa using hc)]
set_option maxRecDepth 100000 in
set_option maxHeartbeats 8000000 in
theorem normR_any (s : ByteArray) (w : World) (hs : s.size < 4294967280) : Calls Tryz.prog 51 #[.string s] w (NormP w (normN s.data.toList)) := by
  obtain ⟨R, hR⟩ : ∃ R, R = NormP w (normN s.data.toList) := ⟨_, rfl⟩
  rw [← hR]
  have HR := Lib.hid hR
  clear hR
  have hsl := size_list s
  have cA := fun W => aparseR_any s W (by omega)
  obtain ⟨O, hO⟩ : ∃ O, O = (parseA s.data.toList).isSome := ⟨_, rfl⟩
  unfold AdrP at cA
  simp only [← hO] at cA
  have HOV := Lib.hid hO
  have cL := fun W => lowerR_any s W (by omega)
  obtain ⟨y, hy⟩ : ∃ y, y = strB (lowS s.data.toList) := ⟨_, rfl⟩
  have hyd : y.data.toList = lowS s.data.toList := by rw [hy]; simp [strB]
  have hys : y.size = s.size := by rw [hy, strB_size, lowS_len, size_list]
  simp only [← hy] at cL
  have HYD := Lib.hid hyd
  clear hO hy hyd
  go_enter Tryz.func51, Tryz.ntmps51
  go_wp2_with (go_at_call 89; refine stopc ?_)
  refine Stop.go ?_
  refine (cA _).mono ?_
  rintro e w6 ⟨a, rfl, hal, hsome, -, hs6⟩
  have HS6 := Lib.hid hs6
  have HAL := Lib.hid hal
  have HSO := Lib.hid hsome
  clear hs6 hal hsome
  go_wp2_with (refine wp_storeA rfl _ _ _ rfl rfl rfl (arr_new _ _ _ (zerosL 16) rfl) size_addr HAL.out rfl ?_; intro w7 hA7 hs7; refine stopw ?_)
  refine Stop.go ?_
  have HS7 := Lib.hid ((HS6.out.alloc _).then_ hs7 (fun k hk h => absurd h (by have := HS6.out.size; omega)))
  have HA7 := Lib.hid hA7
  clear hs7 hA7
  cases O with
  | true =>
    have HPA : Hid (parseA s.data.toList = some a) := Lib.hid (by
      cases hq : parseA s.data.toList with
      | none => have := HOV.out; rw [hq] at this; cases this
      | some b => rw [HSO.out b hq])
    have HD : Hid (normN s.data.toList = (printA a, 0)) := Lib.hid (by unfold normN; rw [HPA.out])
    have cP := fun W => aprintR_any a HAL.out W
    go_wp2_with (with_reducible refine stop (N := 16) rfl ?_)
    refine Stop.go ?_
    refine wp_loadA rfl _ _ rfl rfl HA7.out Tryz.underlying76 size_addr HAL.out ?_
    go_wp2_with (go_at_call 90; refine stopc ?_)
    refine Stop.go ?_
    refine (cP _).mono ?_
    rintro e w9 ⟨rfl, hs9⟩
    have HS9 := Lib.hid (HS7.out.trans hs9)
    clear hs9
    go_wp2
    rw [HR.out, HD.out]
    exact ⟨rfl, HS9.out⟩
  | false =>
    have HDN : Hid (normN s.data.toList = nameN (undot y.data.toList)) := Lib.hid (by
      unfold normN
      cases hq : parseA s.data.toList with
      | none => rw [HYD.out]
      | some b => have := HOV.out; rw [hq] at this; cases this)
    go_wp2_with (go_at_call 91; refine stopc ?_)
    refine Stop.go ?_
    refine (cL _).mono ?_
    rintro e w8 ⟨rfl, hs8⟩
    have HS8 := Lib.hid (HS7.out.trans hs8)
    clear hs8
    have key : (y.size = 0) ∨ ∃ n, ∃ h : y.size = n + 1, y[n]'(by omega) = 46 ∨ y[n]'(by omega) ≠ 46 := by
      by_cases h0 : y.size = 0
      · exact Or.inl h0
      · exact Or.inr ⟨y.size - 1, by omega, Classical.em _⟩
    have HYS := Lib.hid hys
    clear cL cA
    rcases key with h0 | ⟨n, hn, hc | hc⟩
    rotate_left
    focus
      obtain ⟨x, hx⟩ : ∃ x, y.extract 0 n = x := ⟨_, rfl⟩
      have hxd : x.data.toList = undot y.data.toList := by rw [← hx]; exact undot_cut y n hn hc
      have HDX : Hid (normN s.data.toList = nameN x.data.toList) := Lib.hid (by rw [HDN.out, hxd])
      have hxs : x.size ≤ s.size := by
        have := congrArg List.length hxd
        rw [size_list] at this
        have h2 := undot_len y.data.toList
        rw [size_list] at h2
        omega
      have hd : 0 < y.size := by omega
      have hw1 : IntKind.i64.wrap ((y.size : Int) - 1) = (n : Int) := by rw [IntWalk.i64_in _ (by omega)]; omega
      have hn2 : n < y.size := by omega
      have hn3 : (n : Int) < (y.size : Int) := by omega
      have hc2 : (((y[n]).toNat : Int) == 46) = true := by rw [hc]; rfl
      clear hc hn hys hxd
    rotate_left
    focus
      have hxd := undot_same y n hn hc
      have hd : 0 < y.size := by omega
      have hw1 : IntKind.i64.wrap ((y.size : Int) - 1) = (n : Int) := by rw [IntWalk.i64_in _ (by omega)]; omega
      have hn2 : n < y.size := by omega
      have hn3 : (n : Int) < (y.size : Int) := by omega
      have hc2 : (((y[n]).toNat : Int) == 46) = false := by
        have : (y[n]).toNat ≠ 46 := fun e => hc (UInt8.toNat_inj.1 e)
        simp
        omega
      have HDX : Hid (normN s.data.toList = nameN y.data.toList) := Lib.hid (by rw [HDN.out, hxd])
      have hxs : y.size ≤ s.size := by omega
      clear hc hn hys hxd
      obtain ⟨x, hx⟩ : ∃ x, x = y := ⟨_, rfl⟩
      subst hx
    rotate_left
    focus
      have hxd : undot y.data.toList = y.data.toList := by
        have : y.data.toList = [] := List.eq_nil_of_length_eq_zero (by rw [size_list]; exact h0)
        rw [this]
        rfl
      have hd : ¬ 0 < y.size := by omega
      have HDX : Hid (normN s.data.toList = nameN y.data.toList) := Lib.hid (by rw [HDN.out, hxd])
      have hxs : y.size ≤ s.size := by omega
      clear h0 hys hxd
      obtain ⟨x, hx⟩ : ∃ x, x = y := ⟨_, rfl⟩
      subst hx
    all_goals
      by_cases h0 : x.data.toList = []
      · have ht : (x.toList == []) = true := by rw [list_eqb]; simp [h0]
        have HD : Hid (normN s.data.toList = ([], 8)) := Lib.hid (by rw [HDX.out]; unfold nameN; rw [if_pos h0])
        clear h0
        go_wp2
        rw [HR.out, HD.out]
        exact ⟨rfl, HS8.out⟩
      have ht : (x.toList == []) = false := by rw [list_eqb]; simp [h0]
      by_cases h253 : 253 < x.size
      · have hd253 : decide ((253 : Int) < (x.size : Int)) = true := decide_eq_true (by omega)
        have HD : Hid (normN s.data.toList = ([], 6)) := Lib.hid (by rw [HDX.out]; unfold nameN; rw [if_neg h0, if_pos (by rw [size_list]; exact h253)])
        clear h0 h253
        go_wp2
        rw [HR.out, HD.out]
        exact ⟨rfl, HS8.out⟩
      have hd253 : decide ((253 : Int) < (x.size : Int)) = false := decide_eq_false (by omega)
      have HDL : Hid (normN s.data.toList = if (splitC 46 x.data.toList).any badL = true ∨ anyS othR (lastC (splitC 46 x.data.toList)) = false then ([], 9) else (x.data.toList, 0)) := Lib.hid (by
        rw [HDX.out]
        unfold nameN
        rw [if_neg h0, if_neg (by rw [size_list]; exact h253)])
      have cc := fun W => cutR_any x 46 W (by omega)
      clear h0 h253
      go_wp2_with (go_at_call 92; refine stopc ?_)
      refine Stop.go ?_
      refine (cc _).mono ?_
      rintro e w9 ⟨v, X, rfl, hX, hown, hs9⟩
      have HXX := Lib.hid hX
      have hXl : 0 < X.length := by
        have := congrArg List.length hX
        rw [List.length_map] at this
        have h2 := List.length_pos_iff.2 (splitC_ne 46 x.data.toList)
        omega
      have hXn : X.length ≤ x.size + 1 := by
        have := congrArg List.length hX
        rw [List.length_map, splitC_len] at this
        have h2 := List.count_le_length (a := (46 : UInt8)) (l := x.data.toList)
        rw [size_list] at h2
        omega
      have hXz : ∀ z ∈ X, z.size ≤ 9223372036854775807 := by
        intro z hz
        have h1 : z.data.toList ∈ splitC 46 x.data.toList := by rw [← hX]; exact List.mem_map_of_mem hz
        have h2 := splitc_le 46 _ _ h1
        rw [size_list, size_list] at h2
        omega
      have HXZ := Lib.hid hXz
      have HDM : Hid (normN s.data.toList = if X.any (fun z => badL z.data.toList) = true ∨ anyS othR (X[X.length - 1]'(by omega)).data.toList = false then ([], 9) else (x.data.toList, 0)) := Lib.hid (by
        rw [HDL.out, ← HXX.out, last_get X hXl, List.any_map]
        rfl)
      have HS9 := Lib.hid (HS8.out.trans hs9)
      have HRX := Lib.hid (show Rd str (fun _ => False) w9 v X from hown.rd (fun _ _ h => h))
      obtain ⟨A, c, rfl, hle⟩ := hown.form
      clear hs9 hown hX hXz HDL cc
      go_wp2
      go_loopg [8, 9] X.length (fun gf i _ wr => ∃ k : Nat, k + gf = X.length ∧ i = .int .i64 k ∧ (∀ j (hj : j < X.length), j < k → badL (X[j]).data.toList = false) ∧ wr = w9)
      case atStart => exact ⟨0, by omega, rfl, fun j hj h => absurd h (by omega), rfl⟩
      case round =>
        obtain ⟨k, hk, rfl, hall, hw⟩ := hrel
        obtain rfl := hw.symm
        have HALL := Lib.hid hall
        clear hall hw
        by_cases hlt : k < X.length
        · obtain ⟨ad, rfl, -, hc⟩ := plain_cell HRX.out k hlt
          obtain ⟨z, hz⟩ : ∃ z, z = X[k] := ⟨_, rfl⟩
          rw [← hz] at hc
          have cb := fun W => labelR_any z W (by rw [hz]; exact HXZ.out _ (List.getElem_mem hlt))
          unfold LabP at cb
          obtain ⟨b, hb⟩ : ∃ b, b = badL z.data.toList := ⟨_, rfl⟩
          rw [← hb] at cb
          have HZ := Lib.hid hz
          have HB := Lib.hid hb
          have hin : (k : Int) < (X.length : Int) := by omega
          have hw : IntKind.i64.wrap ((k : Int) + 1) = (k : Int) + 1 := IntWalk.i64_in _ (by omega)
          clear hz hb
          cases b with
          | true =>
            have HD : Hid (normN s.data.toList = ([], 9)) := Lib.hid (by rw [HDM.out, if_pos (Or.inl (any_hit X k hlt (by rw [← HZ.out, ← HB.out])))])
            go_wp2_with (go_at_call 93; refine (cb _).mono ?_; rintro e w1 ⟨rfl, rfl⟩)
            rw [HR.out, HD.out]
            exact ⟨rfl, HS9.out⟩
          | false =>
            obtain ⟨g', rfl⟩ : ∃ g', gk = g' + 1 := ⟨gk - 1, by omega⟩
            go_wp2_with (go_at_call 93; refine (cb _).mono ?_; rintro e w1 ⟨rfl, rfl⟩)
            go_roundg g'
            case measure => omega
            case rel =>
              refine ⟨k + 1, by omega, by go_num, fun j hj h1 => ?_, rfl⟩
              by_cases hjk : j = k
              · subst hjk
                rw [← HZ.out, ← HB.out]
              · exact HALL.out j hj (by omega)
        · have hno := any_take X k HALL.out (by omega)
          obtain ⟨n9, hn9⟩ : ∃ n, X.length = n + 1 := ⟨X.length - 1, by omega⟩
          have hn9l : n9 < X.length := by omega
          obtain ⟨ad, rfl, -, hc⟩ := plain_cell HRX.out n9 hn9l
          obtain ⟨z, hz⟩ : ∃ z, z = X[n9] := ⟨_, rfl⟩
          rw [← hz] at hc
          have hzz : z.size ≤ 9223372036854775807 := by rw [hz]; exact HXZ.out _ (List.getElem_mem hn9l)
          have cb := fun W => digitsR_any z W hzz
          obtain ⟨b, hb⟩ : ∃ b, b = anyS othR z.data.toList := ⟨_, rfl⟩
          rw [← hb] at cb
          have HDK : Hid (normN s.data.toList = if b = false then ([], 9) else (x.data.toList, 0)) := Lib.hid (by
            rw [HDM.out, hno]
            have : X[X.length - 1]'(by omega) = z := by rw [hz]; congr 1; omega
            rw [this, ← hb]
            simp)
          have hw1' : IntKind.i64.wrap ((X.length : Int) - 1) = (n9 : Int) := by rw [IntWalk.i64_in _ (by omega)]; omega
          have hlt9 : (n9 : Int) < (X.length : Int) := by omega
          clear hz hb hno hn9
          cases b with
          | true =>
            have HD : Hid (normN s.data.toList = (x.data.toList, 0)) := Lib.hid (by rw [HDK.out, if_neg (by decide)])
            go_wp2_with (go_at_call 94; refine (cb _).mono ?_; rintro e w1 ⟨rfl, rfl⟩)
            rw [HR.out, HD.out]
            exact ⟨by rw [strB_of']; rfl, HS9.out⟩
          | false =>
            have HD : Hid (normN s.data.toList = ([], 9)) := Lib.hid (by rw [HDK.out, if_pos rfl])
            go_wp2_with (go_at_call 94; refine (cb _).mono ?_; rintro e w1 ⟨rfl, rfl⟩)
            rw [HR.out, HD.out]
            exact ⟨rfl, HS9.out⟩
end Go.Proofs.YtligofmhbbgalaaGreatDoor.L

/- Layer 15: the document's way: a body is judged. -/
namespace Go.Proofs.YtligofmhbbgalaaGreatDoor.L
open Go.RowKit Go.Proofs

/-- A verdict's cells before it is told whose it is. -/
def vgC (v : Vt) (p u : Int) (va vv : Value) : List Value := [.int .i64 v.st, .int .i64 p, .int .i64 u, .int .i64 v.rs, .string (strB v.ho), .int .i64 0, .bool v.sn.has, .string v.sn.name, va, vv, .bool v.sn.ech]
theorem seeR_hl {M : Nat → Prop} {W : World} {cs : Array Value} {h : Hl} (hi : IsHl M W cs h) (hl : h.exs.length ≤ 1000000000) (hd : ∀ x ∈ h.exs, x.2.length ≤ 65535) (hM : ∀ k, W.heap.size ≤ k → ¬ M k) :
    Calls Tryz.prog 50 #[.agg cs] W fun e w' => ∃ v, e = .returned (.tuple #[v, .int .i64 (seeS h.exs).2]) ∧ IsSn (fun k => k < W.heap.size) w' v (seeS h.exs).1 ∧ Stp (fun _ => False) W w' := by
  obtain ⟨vs, vc, vm, vx, e, hr, _, _, _, hx⟩ := hi
  obtain ⟨hs, -, -, -, -, -, h37⟩ := hl_get e hr
  obtain ⟨A, c, rfl, _⟩ := hx.form
  exact seeR_any M cs A c h.exs W hs (fun _ => h37) hx hl (fun x hx => Nat.le_trans (hd x hx) (by decide)) hM
def JdP (w : World) (v : Vt) (e : Ending) (w' : World) : Prop := ∃ va vv, e = .returned (.agg (vgC v 0 0 va vv).toArray) ∧ VtR (fun k => k < w.heap.size) w' v va vv ∧ Stp (fun _ => False) w w'
set_option maxRecDepth 100000 in
set_option maxHeartbeats 16000000 in
theorem rjudge_any (M : Nat → Prop) (vb : Value) (b : List UInt8) (w : World) (hb : Rd u8 M w vb b) (hl : b.length ≤ 1000000) : Calls Tryz.prog 22 #[vb] w (JdP w (judgeT b)) := by
  have cP := fun W hs => parseR_any M vb b W (hb.stp0 hs) (by omega)
  have hft := parse_fit b
  have hnm := see_name (parseS b).1.exs
  have hsl := seeS_len (parseS b).1.exs 65535 (parse_fit b).2
  have hJ : seeT b = seeT b := rfl
  conv at hJ => rhs; unfold seeT
  have hJ9 := judgeT_see b
  unfold ParseRet at cP
  obtain ⟨p, hp⟩ : ∃ p, p = parseS b := ⟨_, rfl⟩
  rw [← hp] at cP hft hnm hJ hsl
  obtain ⟨h, er⟩ := p
  simp only at cP hft hnm hJ hsl
  obtain ⟨r, hr⟩ : ∃ r, r = seeT b := ⟨_, rfl⟩
  rw [← hr] at hJ hJ9
  obtain ⟨R, hR⟩ : ∃ R, R = JdP w (judgeT b) := ⟨_, rfl⟩
  rw [← hR]
  have HR := Lib.hid hR
  have HF := Lib.hid hft
  have HJ9 := Lib.hid hJ9
  have cN := fun W => normR_any (seeS h.exs).1.name W (by omega)
  have cS := fun (M : Nat → Prop) (W : World) (cs : Array Value) (hi : IsHl M W cs h) hM => seeR_hl hi HF.out.1 HF.out.2 hM
  obtain ⟨s, hs⟩ : ∃ s, s = seeS h.exs := ⟨_, rfl⟩
  rw [← hs] at cN cS hJ hsl
  obtain ⟨n, hn⟩ : ∃ n, n = normN s.1.name.data.toList := ⟨_, rfl⟩
  unfold NormP at cN
  rw [← hn] at cN hJ
  have HJ := Lib.hid hJ
  have HSL := Lib.hid hsl
  clear hb hl hft hnm hp hJ hJ9 hr hR hs hn hsl
  obtain ⟨⟨has, nm, al, vs, ec⟩, es⟩ := s
  obtain ⟨ho, en⟩ := n
  simp only at cN cS
  obtain ⟨N1, hN1⟩ : ∃ H, H = strB ho := ⟨_, rfl⟩
  simp only [← hN1] at cN
  have HN1 := Lib.hid hN1
  clear hN1
  go_enter Tryz.func22, Tryz.ntmps22
  go_wp2_with (go_at_call 49; refine stopc ?_)
  refine Stop.go ?_
  refine (cP _ ((Stp.refl _ _).alloc _)).mono ?_
  rintro e w1 ⟨cs, rfl, hi, hs1⟩
  have HB1 := Lib.hid (hs1.blk (heap_alloc_new w (.cells vd0 31)) id)
  have HS1 := Lib.hid (((Stp.refl (fun _ => False) w).alloc (.cells vd0 31)).trans hs1)
  obtain ⟨gr, hg⟩ : ∃ g, g = w.heap.size := ⟨_, rfl⟩
  rw [← hg] at HB1
  simp only [← hg]
  have HGW := Lib.hid hg
  clear hs1 hg cP
  obtain ⟨hbx, heq, w2, hw, hc, hs⟩ := box_hl w1 cs hi.size
  rw [hlV0] at hbx heq hw
  have HBX := Lib.hid hbx
  have HEQ := Lib.hid heq
  have HW := Lib.hid hw
  have HZ := Lib.hid hi.info
  have HON := Lib.hid hi.one
  have HC2 := Lib.hid hc
  have HI2 := Lib.hid (hi.stp0 hs)
  have HRw2 := Lib.hid (hs.blk HB1.out id)
  have HSw2 := Lib.hid (HS1.out.trans hs)
  clear hbx heq hw hc hs hi
  go_wp2_with (refine wpList_store_row rfl _ _ _ rfl w1.heap.size cs rfl rfl _ _ HBX.out HZ.out HEQ.out HON.out ?_; rw [HW.out]; refine stopw9 ?_)
  refine Stop.go ?_
  obtain ⟨gh, hgh⟩ : ∃ gh, gh = w1.heap.size := ⟨_, rfl⟩
  rw [← hgh] at HC2 ⊢
  have hlt := blk_lt HRw2.out
  have HG2 := Lib.hid hlt
  clear HBX HEQ HW HON hgh HB1
  by_cases h0 : er = 0
  · subst h0
    go_wp2_with (with_reducible refine stop (N := 20) rfl ?_)
    refine Stop.go ?_
    refine wpList_load_row rfl _ _ rfl gh rfl _ cs (0, 0) _ HC2.out Tryz.underlying69 rfl HZ.out ?_
    go_wp2_with (go_at_call 50; refine stopc ?_)
    refine Stop.go ?_
    refine (cS _ _ cs HI2.out (fun k hk h => by have := HGW.out; simp at h; omega)).mono ?_
    rintro e w3 ⟨v3, rfl, hv3, hs3⟩
    have HS3 := Lib.hid (HSw2.out.trans hs3)
    have HB3 := Lib.hid (hs3.blk HRw2.out id)
    obtain ⟨va, vv, rfl, ha, hvv⟩ := hv3
    simp only at ha hvv
    have HV3 := Lib.hid (show ∀ e ho, VtR (fun k => k < w2.heap.size) w3 ⟨1, e, ho, ⟨has, nm, al, vs, ec⟩⟩ va vv from fun _ _ => ⟨ha, hvv, HSL.out⟩)
    obtain ⟨Aa, ca, rfl, -⟩ := ha.form
    obtain ⟨Av, cv, rfl, -⟩ := hvv.form
    clear hs3 ha hvv HRw2 HC2 HI2 HZ hlt
    have hlt3 := blk_lt HB3.out
    go_upto_if 25 with fail
    have hs4 : Stp (fun _ => False) w3 (w3.alloc (.cells #[.bool has, .string nm, .slice Aa al.length ca, .slice Av vs.length cv, .bool ec] 29)) := (Stp.refl _ _).alloc _
    have HG4 := Lib.hid (heap_alloc_new w3 (.cells #[.bool has, .string nm, .slice Aa al.length ca, .slice Av vs.length cv, .bool ec] 29))
    have HR4 := Lib.hid (hs4.blk HB3.out id)
    have HS4 := Lib.hid (HS3.out.trans hs4)
    have HV4 := Lib.hid (fun e ho => (HV3.out e ho).stp0 hs4)
    clear hs4
    generalize w3.alloc (.cells #[.bool has, .string nm, .slice Aa al.length ca, .slice Av vs.length cv, .bool ec] 29) = w4 at HG4 HR4 HS4 HV4 ⊢
    obtain ⟨gs, hgs⟩ : ∃ gs, gs = w3.heap.size := ⟨_, rfl⟩
    rw [← hgs] at HG4 hlt3
    simp only [← hgs]
    have hlt4 := blk_lt HG4.out
    have hl4 : gr < w4.heap.size := blk_lt HR4.out
    clear hgs HB3 HV3 HS3
    by_cases h1 : es = 0
    · subst h1
      cases has with
      | true =>
        have c1 : w4.cell? ⟨gs, 1, none⟩ = some (.string nm) := blk_cell (j := 1) HG4.out
        have c0 : w4.cell? ⟨gs, 0, none⟩ = some (.bool true) := blk_cell (j := 0) HG4.out
        go_wp2_with (go_at_call 51; refine stopc ?_)
        refine Stop.go ?_
        refine (cN _).mono ?_
        rintro e w5 ⟨rfl, hs5⟩
        have HR5 := Lib.hid (hs5.blk HR4.out id)
        have HS5 := Lib.hid (HS4.out.trans hs5)
        have HV5 := Lib.hid (fun e ho => (HV4.out e ho).stp0 hs5)
        have HG5 := Lib.hid (hs5.blk HG4.out id)
        clear hs5 cN c0 c1 hlt4 hl4
        by_cases h2 : en = 0
        · subst h2
          have hr : r = (⟨true, nm, al, vs, ec⟩, ho, 0) := by rw [HJ.out, if_neg (by simp), if_neg (by simp)]
          have HJ2 : Hid (judgeT b = ⟨1, 0, ho, ⟨true, nm, al, vs, ec⟩⟩) := Lib.hid (by rw [HJ9.out, hr]; exact if_neg (by simp))
          clear hr
          have s0 : w5.cell? ⟨gs, 0, none⟩ = some (.bool true) := blk_cell (j := 0) HG5.out
          have u0 := blk_free HG5.out 0
          have s1 : w5.cell? ⟨gs, 1, none⟩ = some (.string nm) := blk_cell (j := 1) HG5.out
          have u1 := blk_free HG5.out 1
          have s2 : w5.cell? ⟨gs, 2, none⟩ = some (.slice Aa al.length ca) := blk_cell (j := 2) HG5.out
          have u2 := blk_free HG5.out 2
          have s3 : w5.cell? ⟨gs, 3, none⟩ = some (.slice Av vs.length cv) := blk_cell (j := 3) HG5.out
          have u3 := blk_free HG5.out 3
          have s4 : w5.cell? ⟨gs, 4, none⟩ = some (.bool ec) := blk_cell (j := 4) HG5.out
          have u4 := blk_free HG5.out 4
          have r0 : w5.cell? ⟨gr, 0, none⟩ = some (.int .i64 0) := blk_cell (j := 0) HR5.out
          have q0 := blk_free HR5.out 0
          have r1 : w5.cell? ⟨gr, 1, none⟩ = some (.int .i64 0) := blk_cell (j := 1) HR5.out
          have q1 := blk_free HR5.out 1
          have r2 : w5.cell? ⟨gr, 2, none⟩ = some (.int .i64 0) := blk_cell (j := 2) HR5.out
          have q2 := blk_free HR5.out 2
          have r3 : w5.cell? ⟨gr, 3, none⟩ = some (.int .i64 0) := blk_cell (j := 3) HR5.out
          have q3 := blk_free HR5.out 3
          have r4 : w5.cell? ⟨gr, 4, none⟩ = some (.string ⟨#[]⟩) := blk_cell (j := 4) HR5.out
          have q4 := blk_free HR5.out 4
          have r5 : w5.cell? ⟨gr, 5, none⟩ = some (.int .i64 0) := blk_cell (j := 5) HR5.out
          have q5 := blk_free HR5.out 5
          have r6 : w5.cell? ⟨gr, 6, none⟩ = some (.bool false) := blk_cell (j := 6) HR5.out
          have q6 := blk_free HR5.out 6
          have r7 : w5.cell? ⟨gr, 7, none⟩ = some (.string ⟨#[]⟩) := blk_cell (j := 7) HR5.out
          have q7 := blk_free HR5.out 7
          have r8 : w5.cell? ⟨gr, 8, none⟩ = some (.slice none 0 0) := blk_cell (j := 8) HR5.out
          have q8 := blk_free HR5.out 8
          have r9 : w5.cell? ⟨gr, 9, none⟩ = some (.slice none 0 0) := blk_cell (j := 9) HR5.out
          have q9 := blk_free HR5.out 9
          have r10 : w5.cell? ⟨gr, 10, none⟩ = some (.bool false) := blk_cell (j := 10) HR5.out
          have q10 := blk_free HR5.out 10
          go_wp2
          refine bodyPost_ret (results_cell_row rfl _ _ gr _ _ _ _ rfl (vd_set HR5.out _ _ _ _ _ _ _ _ _ _ _) Tryz.underlying31 rfl size_vd) rfl ?_
          rw [HR.out, HJ2.out]
          exact ⟨_, _, by rw [HN1.out]; rfl, ((HV5.out _ _).step (vd_stp _ gr _ _ _ _ _ _ _ _ _ _ _) (fun k _ h => by have := HG2.out; omega)).weak (fun k _ h => by have := HGW.out; have := HG2.out; omega), HS5.out.then_ (vd_stp w5 gr _ _ _ _ _ _ _ _ _ _ _) (fun k hk h => by have := HGW.out; omega)⟩
        · have hne2 : (en != 0) = true := by simpa using h2
          have hr : r = (⟨true, nm, al, vs, ec⟩, ho, en) := by rw [HJ.out, if_neg (by simp), if_neg (by simp)]
          have HJ2 : Hid (judgeT b = .bad en) := Lib.hid (by rw [HJ9.out, hr]; exact if_pos h2)
          clear h2 hr
          have r0 : w5.cell? ⟨gr, 0, none⟩ = some (.int .i64 0) := blk_cell (j := 0) HR5.out
          have q0 := blk_free HR5.out 0
          have r1 : w5.cell? ⟨gr, 1, none⟩ = some (.int .i64 0) := blk_cell (j := 1) HR5.out
          have q1 := blk_free HR5.out 1
          have r2 : w5.cell? ⟨gr, 2, none⟩ = some (.int .i64 0) := blk_cell (j := 2) HR5.out
          have q2 := blk_free HR5.out 2
          have r3 : w5.cell? ⟨gr, 3, none⟩ = some (.int .i64 0) := blk_cell (j := 3) HR5.out
          have q3 := blk_free HR5.out 3
          have r4 : w5.cell? ⟨gr, 4, none⟩ = some (.string ⟨#[]⟩) := blk_cell (j := 4) HR5.out
          have q4 := blk_free HR5.out 4
          have r5 : w5.cell? ⟨gr, 5, none⟩ = some (.int .i64 0) := blk_cell (j := 5) HR5.out
          have q5 := blk_free HR5.out 5
          have r6 : w5.cell? ⟨gr, 6, none⟩ = some (.bool false) := blk_cell (j := 6) HR5.out
          have q6 := blk_free HR5.out 6
          have r7 : w5.cell? ⟨gr, 7, none⟩ = some (.string ⟨#[]⟩) := blk_cell (j := 7) HR5.out
          have q7 := blk_free HR5.out 7
          have r8 : w5.cell? ⟨gr, 8, none⟩ = some (.slice none 0 0) := blk_cell (j := 8) HR5.out
          have q8 := blk_free HR5.out 8
          have r9 : w5.cell? ⟨gr, 9, none⟩ = some (.slice none 0 0) := blk_cell (j := 9) HR5.out
          have q9 := blk_free HR5.out 9
          have r10 : w5.cell? ⟨gr, 10, none⟩ = some (.bool false) := blk_cell (j := 10) HR5.out
          have q10 := blk_free HR5.out 10
          go_wp2
          refine bodyPost_ret (results_cell_row rfl _ _ gr _ _ _ _ rfl (vd_set HR5.out _ _ _ _ _ _ _ _ _ _ _) Tryz.underlying31 rfl size_vd) rfl ?_
          rw [HR.out, HJ2.out]
          exact ⟨_, _, rfl, VtR.nil _ _ _ _ _, HS5.out.then_ (vd_stp w5 gr _ _ _ _ _ _ _ _ _ _ _) (fun k hk h => by have := HGW.out; omega)⟩
      | false =>
        have hr : r = (⟨false, nm, al, vs, ec⟩, [], 0) := by rw [HJ.out, if_neg (by simp), if_pos (Or.inr rfl)]
        have HJ2 : Hid (judgeT b = ⟨1, 0, [], ⟨false, nm, al, vs, ec⟩⟩) := Lib.hid (by rw [HJ9.out, hr]; exact if_neg (by simp))
        clear hr
        have s0 : w4.cell? ⟨gs, 0, none⟩ = some (.bool false) := blk_cell (j := 0) HG4.out
        have u0 := blk_free HG4.out 0
        have s1 : w4.cell? ⟨gs, 1, none⟩ = some (.string nm) := blk_cell (j := 1) HG4.out
        have u1 := blk_free HG4.out 1
        have s2 : w4.cell? ⟨gs, 2, none⟩ = some (.slice Aa al.length ca) := blk_cell (j := 2) HG4.out
        have u2 := blk_free HG4.out 2
        have s3 : w4.cell? ⟨gs, 3, none⟩ = some (.slice Av vs.length cv) := blk_cell (j := 3) HG4.out
        have u3 := blk_free HG4.out 3
        have s4 : w4.cell? ⟨gs, 4, none⟩ = some (.bool ec) := blk_cell (j := 4) HG4.out
        have u4 := blk_free HG4.out 4
        have r0 : w4.cell? ⟨gr, 0, none⟩ = some (.int .i64 0) := blk_cell (j := 0) HR4.out
        have q0 := blk_free HR4.out 0
        have r1 : w4.cell? ⟨gr, 1, none⟩ = some (.int .i64 0) := blk_cell (j := 1) HR4.out
        have q1 := blk_free HR4.out 1
        have r2 : w4.cell? ⟨gr, 2, none⟩ = some (.int .i64 0) := blk_cell (j := 2) HR4.out
        have q2 := blk_free HR4.out 2
        have r3 : w4.cell? ⟨gr, 3, none⟩ = some (.int .i64 0) := blk_cell (j := 3) HR4.out
        have q3 := blk_free HR4.out 3
        have r4 : w4.cell? ⟨gr, 4, none⟩ = some (.string ⟨#[]⟩) := blk_cell (j := 4) HR4.out
        have q4 := blk_free HR4.out 4
        have r5 : w4.cell? ⟨gr, 5, none⟩ = some (.int .i64 0) := blk_cell (j := 5) HR4.out
        have q5 := blk_free HR4.out 5
        have r6 : w4.cell? ⟨gr, 6, none⟩ = some (.bool false) := blk_cell (j := 6) HR4.out
        have q6 := blk_free HR4.out 6
        have r7 : w4.cell? ⟨gr, 7, none⟩ = some (.string ⟨#[]⟩) := blk_cell (j := 7) HR4.out
        have q7 := blk_free HR4.out 7
        have r8 : w4.cell? ⟨gr, 8, none⟩ = some (.slice none 0 0) := blk_cell (j := 8) HR4.out
        have q8 := blk_free HR4.out 8
        have r9 : w4.cell? ⟨gr, 9, none⟩ = some (.slice none 0 0) := blk_cell (j := 9) HR4.out
        have q9 := blk_free HR4.out 9
        have r10 : w4.cell? ⟨gr, 10, none⟩ = some (.bool false) := blk_cell (j := 10) HR4.out
        have q10 := blk_free HR4.out 10
        go_wp2
        refine bodyPost_ret (results_cell_row rfl _ _ gr _ _ _ _ rfl (vd_set HR4.out _ _ _ _ _ _ _ _ _ _ _) Tryz.underlying31 rfl size_vd) rfl ?_
        rw [HR.out, HJ2.out]
        exact ⟨_, _, rfl, ((HV4.out _ _).step (vd_stp _ gr _ _ _ _ _ _ _ _ _ _ _) (fun k _ h => by have := HG2.out; omega)).weak (fun k _ h => by have := HGW.out; have := HG2.out; omega), HS4.out.then_ (vd_stp w4 gr _ _ _ _ _ _ _ _ _ _ _) (fun k hk h => by have := HGW.out; omega)⟩
    · have hne : (es != 0) = true := by simpa using h1
      have hr : r = (⟨has, nm, al, vs, ec⟩, [], es) := by rw [HJ.out, if_neg (by simp), if_pos (Or.inl h1)]
      have HJ2 : Hid (judgeT b = .bad es) := Lib.hid (by rw [HJ9.out, hr]; exact if_pos h1)
      clear h1 hr
      have r0 : w4.cell? ⟨gr, 0, none⟩ = some (.int .i64 0) := blk_cell (j := 0) HR4.out
      have q0 := blk_free HR4.out 0
      have r1 : w4.cell? ⟨gr, 1, none⟩ = some (.int .i64 0) := blk_cell (j := 1) HR4.out
      have q1 := blk_free HR4.out 1
      have r2 : w4.cell? ⟨gr, 2, none⟩ = some (.int .i64 0) := blk_cell (j := 2) HR4.out
      have q2 := blk_free HR4.out 2
      have r3 : w4.cell? ⟨gr, 3, none⟩ = some (.int .i64 0) := blk_cell (j := 3) HR4.out
      have q3 := blk_free HR4.out 3
      have r4 : w4.cell? ⟨gr, 4, none⟩ = some (.string ⟨#[]⟩) := blk_cell (j := 4) HR4.out
      have q4 := blk_free HR4.out 4
      have r5 : w4.cell? ⟨gr, 5, none⟩ = some (.int .i64 0) := blk_cell (j := 5) HR4.out
      have q5 := blk_free HR4.out 5
      have r6 : w4.cell? ⟨gr, 6, none⟩ = some (.bool false) := blk_cell (j := 6) HR4.out
      have q6 := blk_free HR4.out 6
      have r7 : w4.cell? ⟨gr, 7, none⟩ = some (.string ⟨#[]⟩) := blk_cell (j := 7) HR4.out
      have q7 := blk_free HR4.out 7
      have r8 : w4.cell? ⟨gr, 8, none⟩ = some (.slice none 0 0) := blk_cell (j := 8) HR4.out
      have q8 := blk_free HR4.out 8
      have r9 : w4.cell? ⟨gr, 9, none⟩ = some (.slice none 0 0) := blk_cell (j := 9) HR4.out
      have q9 := blk_free HR4.out 9
      have r10 : w4.cell? ⟨gr, 10, none⟩ = some (.bool false) := blk_cell (j := 10) HR4.out
      have q10 := blk_free HR4.out 10
      go_wp2
      refine bodyPost_ret (results_cell_row rfl _ _ gr _ _ _ _ rfl (vd_set HR4.out _ _ _ _ _ _ _ _ _ _ _) Tryz.underlying31 rfl size_vd) rfl ?_
      rw [HR.out, HJ2.out]
      exact ⟨_, _, rfl, VtR.nil _ _ _ _ _, HS4.out.then_ (vd_stp w4 gr _ _ _ _ _ _ _ _ _ _ _) (fun k hk h => by have := HGW.out; omega)⟩
  · have hne : (er != 0) = true := by simpa using h0
    have hr : r = (.zero, [], er) := by rw [HJ.out, if_pos h0]
    have HJ2 : Hid (judgeT b = .bad er) := Lib.hid (by rw [HJ9.out, hr]; exact if_pos h0)
    clear h0 hr
    have r0 : w2.cell? ⟨gr, 0, none⟩ = some (.int .i64 0) := blk_cell (j := 0) HRw2.out
    have q0 := blk_free HRw2.out 0
    have r1 : w2.cell? ⟨gr, 1, none⟩ = some (.int .i64 0) := blk_cell (j := 1) HRw2.out
    have q1 := blk_free HRw2.out 1
    have r2 : w2.cell? ⟨gr, 2, none⟩ = some (.int .i64 0) := blk_cell (j := 2) HRw2.out
    have q2 := blk_free HRw2.out 2
    have r3 : w2.cell? ⟨gr, 3, none⟩ = some (.int .i64 0) := blk_cell (j := 3) HRw2.out
    have q3 := blk_free HRw2.out 3
    have r4 : w2.cell? ⟨gr, 4, none⟩ = some (.string ⟨#[]⟩) := blk_cell (j := 4) HRw2.out
    have q4 := blk_free HRw2.out 4
    have r5 : w2.cell? ⟨gr, 5, none⟩ = some (.int .i64 0) := blk_cell (j := 5) HRw2.out
    have q5 := blk_free HRw2.out 5
    have r6 : w2.cell? ⟨gr, 6, none⟩ = some (.bool false) := blk_cell (j := 6) HRw2.out
    have q6 := blk_free HRw2.out 6
    have r7 : w2.cell? ⟨gr, 7, none⟩ = some (.string ⟨#[]⟩) := blk_cell (j := 7) HRw2.out
    have q7 := blk_free HRw2.out 7
    have r8 : w2.cell? ⟨gr, 8, none⟩ = some (.slice none 0 0) := blk_cell (j := 8) HRw2.out
    have q8 := blk_free HRw2.out 8
    have r9 : w2.cell? ⟨gr, 9, none⟩ = some (.slice none 0 0) := blk_cell (j := 9) HRw2.out
    have q9 := blk_free HRw2.out 9
    have r10 : w2.cell? ⟨gr, 10, none⟩ = some (.bool false) := blk_cell (j := 10) HRw2.out
    have q10 := blk_free HRw2.out 10
    go_wp2
    refine bodyPost_ret (results_cell_row rfl _ _ gr _ _ _ _ rfl (vd_set HRw2.out _ _ _ _ _ _ _ _ _ _ _) Tryz.underlying31 rfl size_vd) rfl ?_
    rw [HR.out, HJ2.out]
    exact ⟨_, _, rfl, VtR.nil _ _ _ _ _, HSw2.out.then_ (vd_stp w2 gr _ _ _ _ _ _ _ _ _ _ _) (fun k hk h => by have := HGW.out; omega)⟩
end Go.Proofs.YtligofmhbbgalaaGreatDoor.L
