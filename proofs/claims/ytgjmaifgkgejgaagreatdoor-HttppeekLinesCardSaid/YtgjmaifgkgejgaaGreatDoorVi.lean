/- Layer 13: a host, and what is behind it. -/
import Derived.Test.YtgjmaifgkgejgaaGreatDoorVf
import Derived.Test.YtgjmaifgkgejgaaGreatDoorFc
set_option linter.unusedVariables false
set_option linter.unusedSimpArgs false
namespace Go.Proofs.YtgjmaifgkgejgaaGreatDoor.L
open Go.RowKit Go.Proofs

theorem idxB (l : List UInt8) (c : UInt8) : Lib.indexByte l c = if c ∈ l then ((untilC c l).1.length : Int) else -1 := by
  induction l with
  | nil => rfl
  | cons x r ih =>
    rw [Lib.indexByte, untilC]
    by_cases h : x = c
    · subst h
      simp
    · have h2 : ¬ c = x := fun e => h e.symm
      have hb : (x == c) = false := by simpa using h
      rw [hb, if_neg (by decide), if_neg h, ih]
      have hmem : c ∈ x :: r ↔ c ∈ r := by simp [h2]
      by_cases hm : c ∈ r
      · have e : (((untilC c r).1.length : Int) == -1) = false := by
          rw [beq_eq_false_iff_ne]
          omega
        simp only [if_pos hm, if_pos (hmem.2 hm), e]
        simp
      · simp only [if_neg hm, if_neg (fun q => hm (hmem.1 q))]
        rfl
theorem has_call (s : ByteArray) (c : UInt8) (w : World) : Calls Tryz.prog 114 #[.string s, .string ⟨#[c]⟩] w fun e w' => e = .returned (.bool (decide (c ∈ s.data.toList))) ∧ w' = w := by
  have h : decide (0 ≤ Lib.indexByte s.data.toList c) = decide (c ∈ s.data.toList) := by
    rw [idxB]
    by_cases hm : c ∈ s.data.toList
    · rw [if_pos hm, decide_eq_true hm]
      exact decide_eq_true (by omega)
    · rw [if_neg hm, decide_eq_false hm]
      rfl
  rw [← h]
  exact Tryz.strings_Contains_one s c w
theorem hasp_call (s : ByteArray) (c : UInt8) (w : World) : Calls Tryz.prog 67 #[.string s, .string ⟨#[c]⟩] w fun e w' => e = .returned (.bool (decide (s.data.toList[0]? = some c))) ∧ w' = w := by
  rw [← hasPrefix_one]
  exact Tryz.strings_HasPrefix s ⟨#[c]⟩ w
theorem hasp_in (s : ByteArray) (c : UInt8) (w : World) : Calls Tryz.prog 110 #[.string s, .string ⟨#[c]⟩] w fun e w' => e = .returned (.bool (decide (s.data.toList[0]? = some c))) ∧ w' = w := by
  rw [← hasPrefix_one]
  exact Tryz.stringslite_HasPrefix s ⟨#[c]⟩ w
theorem idx_call (s : ByteArray) (c : UInt8) (w : World) : Calls Tryz.prog 116 #[.string s, .string ⟨#[c]⟩] w fun e w' => e = .returned (.int .i64 (if c ∈ s.data.toList then ((untilC c s.data.toList).1.length : Int) else -1)) ∧ w' = w := by
  rw [← idxB]
  exact Tryz.strings_Index_one s c w
theorem len_pos (s : ByteArray) (c : UInt8) (h : s.data.toList[0]? = some c) : 1 ≤ s.size := by
  have := (List.getElem?_eq_some_iff.1 h).1
  rw [size_list] at this
  omega
def cutPS (c : UInt8) (l : List UInt8) : List UInt8 × Bool := if l[0]? = some c then (l.drop 1, true) else (l, false)

set_option maxRecDepth 100000 in
set_option maxHeartbeats 4000000 in
theorem cutp_in (s : ByteArray) (c : UInt8) (w : World) : Calls Tryz.prog 143 #[.string s, .string ⟨#[c]⟩] w fun e w' => e = .returned (.tuple #[.string (strB (cutPS c s.data.toList).1), .bool (cutPS c s.data.toList).2]) ∧ w' = w := by
  have ch := fun W => hasp_in s c W
  by_cases h : s.data.toList[0]? = some c
  · have hp := len_pos s c h
    have hp1 : (1 : Int) ≤ (s.size : Int) := by omega
    have HE : Hid (cutPS c s.data.toList = (s.data.toList.drop 1, true)) := Lib.hid (by unfold cutPS; rw [if_pos h])
    rw [decide_eq_true h] at ch
    obtain ⟨t, ht⟩ : ∃ t, t = strB (s.data.toList.drop 1) := ⟨_, rfl⟩
    have HT : Hid (s.extract 1 s.size = t) := Lib.hid (by rw [ht, ext_from])
    rw [HE.out, ← ht]
    clear h ht HE
    go_enter Tryz.func143, Tryz.ntmps143
    go_wp2_with (go_at_call 110; refine stopc ?_)
    refine Stop.go ?_
    refine (ch _).mono ?_
    rintro e w1 ⟨rfl, rfl⟩
    have hx := HT.out
    go_wp2
    go_ret2
    exact ⟨rfl, rfl⟩
  · have HE : Hid (cutPS c s.data.toList = (s.data.toList, false)) := Lib.hid (by unfold cutPS; rw [if_neg h])
    rw [decide_eq_false h] at ch
    rw [HE.out, sB_self]
    clear h HE
    go_enter Tryz.func143, Tryz.ntmps143
    go_wp2_with (go_at_call 110; refine stopc ?_)
    refine Stop.go ?_
    refine (ch _).mono ?_
    rintro e w1 ⟨rfl, rfl⟩
    go_wp2
    go_ret2
    exact ⟨rfl, rfl⟩
theorem cutp_call (s : ByteArray) (c : UInt8) (w : World) : Calls Tryz.prog 115 #[.string s, .string ⟨#[c]⟩] w fun e w' => e = .returned (.tuple #[.string (strB (cutPS c s.data.toList).1), .bool (cutPS c s.data.toList).2]) ∧ w' = w := by
  have ch := fun W => cutp_in s c W
  obtain ⟨a, ha⟩ : ∃ a, a = strB (cutPS c s.data.toList).1 := ⟨_, rfl⟩
  obtain ⟨b, hb⟩ : ∃ b, b = (cutPS c s.data.toList).2 := ⟨_, rfl⟩
  rw [← ha, ← hb] at ch
  rw [← ha, ← hb]
  clear ha hb
  go_enter Tryz.func115, Tryz.ntmps115
  go_wp2_with (go_at_call 143; refine stopc ?_)
  refine Stop.go ?_
  refine (ch _).mono ?_
  rintro e w1 ⟨rfl, rfl⟩
  go_wp2
  go_ret2
  exact ⟨rfl, rfl⟩

def SplP (w : World) (r : List UInt8 × List UInt8 × Int) (e : Ending) (w' : World) : Prop := e = .returned (.tuple #[.string (strB r.1), .string (strB r.2.1), .int .i64 r.2.2]) ∧ Stp (fun _ => False) w w'
theorem until_snoc (c : UInt8) (l : List UInt8) : (untilC c (l ++ [c])).1 = (untilC c l).1 ∧ l.take (untilC c l).1.length = (untilC c l).1 ∧ l.drop (untilC c l).1.length = (untilC c l).2 ∧ (untilC c l).1.length ≤ l.length := by
  rcases untilC_cases c l with ⟨h, e⟩ | ⟨a, b, rfl, h, e⟩
  · rw [e, untilC_at c l [] h]
    simp
  · rw [e, List.append_assoc, List.cons_append, untilC_at c a _ h]
    simp

set_option maxRecDepth 100000 in
set_option maxHeartbeats 4000000 in
theorem split_any (s : ByteArray) (w : World) (hs : s.size < 4294967280) (he : EnvP w) : Calls Tryz.prog 70 #[.string s] w (SplP w (splitH s.data.toList)) := by
  obtain ⟨R, hR⟩ : ∃ R, R = SplP w (splitH s.data.toList) := ⟨_, rfl⟩
  rw [← hR]
  have HR := Lib.hid hR
  have HE := Lib.hid he
  clear hR he
  have hsl := size_list s
  have cp := fun W => hasp_call s 58 W
  have cv := fun W => visible_any s W (by omega)
  have ca := fun W => has_call s 64 W
  have cx := fun W => cutp_call s 91 W
  by_cases h0 : s.data.toList = []
  · have ht : (s.toList == []) = true := by rw [list_eqb]; simp [h0]
    have HD : Hid (splitH s.data.toList = ([], [], 8)) := Lib.hid (by unfold splitH; rw [if_pos (Or.inl h0)])
    clear h0 cp cv ca cx
    go_enter Tryz.func70, Tryz.ntmps70
    go_wp2
    go_ret3
    rw [HR.out, HD.out]
    exact ⟨rfl, Stp.refl _ _⟩
  have ht : (s.toList == []) = false := by rw [list_eqb]; simp [h0]
  by_cases h58 : s.data.toList[0]? = some 58
  · rw [decide_eq_true h58] at cp
    have HD : Hid (splitH s.data.toList = ([], [], 8)) := Lib.hid (by unfold splitH; rw [if_pos (Or.inr h58)])
    clear h0 h58 cv ca cx
    go_enter Tryz.func70, Tryz.ntmps70
    go_wp2_with (go_at_call 67; refine stopc ?_)
    refine Stop.go ?_
    refine (cp _).mono ?_
    rintro e w1 ⟨rfl, rfl⟩
    go_wp2
    go_ret3
    rw [HR.out, HD.out]
    exact ⟨rfl, Stp.refl _ _⟩
  rw [decide_eq_false h58] at cp
  cases hv : allS visR s.data.toList with
  | false =>
    have HD : Hid (splitH s.data.toList = ([], [], 3)) := Lib.hid (by unfold splitH; rw [if_neg (by rw [not_or]; exact ⟨h0, h58⟩), if_pos (Or.inl hv)])
    rw [hv] at cv
    clear h0 h58 ca cx hv
    go_enter Tryz.func70, Tryz.ntmps70
    go_wp2_with (go_at_call 67; refine stopc ?_)
    refine Stop.go ?_
    refine (cp _).mono ?_
    rintro e w1 ⟨rfl, rfl⟩
    go_wp2_with (go_at_call 56; refine stopc ?_)
    refine Stop.go ?_
    refine (cv _).mono ?_
    rintro e w2 ⟨rfl, hs2⟩
    have HS2 := Lib.hid hs2
    clear hs2
    go_wp2
    go_ret3
    rw [HR.out, HD.out]
    exact ⟨rfl, HS2.out⟩
  | true =>
    rw [hv] at cv
    by_cases h64 : (64 : UInt8) ∈ s.data.toList
    · have HD : Hid (splitH s.data.toList = ([], [], 3)) := Lib.hid (by unfold splitH; rw [if_neg (by rw [not_or]; exact ⟨h0, h58⟩), if_pos (Or.inr h64)])
      rw [decide_eq_true h64] at ca
      clear h0 h58 cx hv h64
      go_enter Tryz.func70, Tryz.ntmps70
      go_wp2_with (go_at_call 67; refine stopc ?_)
      refine Stop.go ?_
      refine (cp _).mono ?_
      rintro e w1 ⟨rfl, rfl⟩
      go_wp2_with (go_at_call 56; refine stopc ?_)
      refine Stop.go ?_
      refine (cv _).mono ?_
      rintro e w2 ⟨rfl, hs2⟩
      have HS2 := Lib.hid hs2
      clear hs2
      go_wp2_with (go_at_call 114; refine stopc ?_)
      refine Stop.go ?_
      refine (ca _).mono ?_
      rintro e w3 ⟨rfl, rfl⟩
      go_wp2
      go_ret3
      rw [HR.out, HD.out]
      exact ⟨rfl, HS2.out⟩
    rw [decide_eq_false h64] at ca
    have hdn : splitH s.data.toList = if s.data.toList[0]? ≠ some 91 then ((untilC 58 s.data.toList).1, (untilC 58 s.data.toList).2, (0 : Int))
        else match parseA (untilC 93 (s.data.toList.drop 1)).1 with
          | some a => if (untilC 93 (s.data.toList.drop 1)).2 = [] ∨ (58 : UInt8) ∉ (untilC 93 (s.data.toList.drop 1)).1 then ([], [], 3) else (printA a, (untilC 93 (s.data.toList.drop 1)).2.drop 1, 0)
          | none => ([], [], 3) := by
      conv => lhs; unfold splitH
      rw [if_neg (by rw [not_or]; exact ⟨h0, h58⟩), if_neg (by rw [not_or, hv]; exact ⟨by decide, h64⟩)]
      rfl
    by_cases h91 : s.data.toList[0]? = some 91
    · have hcp : cutPS 91 s.data.toList = (s.data.toList.drop 1, true) := by unfold cutPS; rw [if_pos h91]
      rw [hcp] at cx
      rw [if_neg (fun h => h h91)] at hdn
      have hp1 : 1 ≤ s.size := len_pos s 91 h91
      obtain ⟨t, htt⟩ : ∃ t, t = strB (s.data.toList.drop 1) := ⟨_, rfl⟩
      have htl : t.data.toList = s.data.toList.drop 1 := by rw [htt]; simp [strB]
      have hts : t.size ≤ s.size := by rw [htt, strB_size, List.length_drop, size_list]; omega
      rw [← htt] at cx
      have cc := fun W hW => cutB t 93 W (by omega) hW
      rw [htl] at cc
      clear h0 h58 h64 h91 hcp htt hv htl
      rcases untilC_cases 93 (s.data.toList.drop 1) with ⟨hno, hu⟩ | ⟨x, y, hxy, hno, hu⟩
      · rw [cutC_no 93 _ hno] at cc
        rw [hu] at hdn
        have HD : Hid (splitH s.data.toList = ([], [], 3)) := Lib.hid (by
          rw [hdn]
          simp only
          split
          · simp
          · rfl)
        have htd : strB (s.data.toList.drop 1) = strB (s.data.toList.drop 1) := rfl
        obtain ⟨x, hx⟩ : ∃ x, x = strB (s.data.toList.drop 1) := ⟨_, rfl⟩
        have hxs : x.size < 4294967281 := by rw [hx, strB_size, List.length_drop, size_list]; omega
        simp only [← hx] at cc
        have cA := fun W hM hA => aparse_any x W hxs hM hA
        clear hdn hno hu htd hx
        go_enter Tryz.func70, Tryz.ntmps70
        go_wp2_with (go_at_call 67; refine stopc ?_)
        refine Stop.go ?_
        refine (cp _).mono ?_
        rintro e w1 ⟨rfl, rfl⟩
        go_wp2_with (go_at_call 56; refine stopc ?_)
        refine Stop.go ?_
        refine (cv _).mono ?_
        rintro e w2 ⟨rfl, hs2⟩
        have HS2 := Lib.hid hs2
        clear hs2
        go_wp2_with (go_at_call 114; refine stopc ?_)
        refine Stop.go ?_
        refine (ca _).mono ?_
        rintro e w3 ⟨rfl, rfl⟩
        go_wp2_with (go_at_call 115; refine stopc ?_)
        refine Stop.go ?_
        refine (cx _).mono ?_
        rintro e w4 ⟨rfl, rfl⟩
        go_wp2_with (go_at_call 74; refine stopc ?_)
        refine Stop.go ?_
        refine (cc _ (HE.out.1.step HS2.out)).mono ?_
        rintro e w5 ⟨rfl, hs5⟩
        have HS5 := Lib.hid (HS2.out.trans hs5)
        clear hs5
        go_wp2_with (go_at_call 36; refine stopc ?_)
        refine Stop.go ?_
        refine (cA _ (HE.out.1.step HS5.out) (HE.out.2.1.step HS5.out)).mono ?_
        rintro e w6 ⟨a, rfl, hal, -, -, hs6⟩
        have HS6 := Lib.hid (HS5.out.trans hs6)
        have HAL := Lib.hid hal
        clear hs6 hal
        go_wp2_with (refine wp_storeA rfl _ _ _ rfl rfl rfl (arr_new _ _ _ (zerosL 16) rfl) size_addr HAL.out rfl ?_; intro w7 hA7 hs7; refine stopw ?_)
        refine Stop.go ?_
        have HS7 := Lib.hid ((HS6.out.alloc _).then_ hs7 (fun k hk h => absurd h (by have := HS6.out.size; omega)))
        clear hs7 hA7
        go_wp2
        go_ret3
        rw [HR.out, HD.out]
        exact ⟨rfl, HS7.out⟩
      · rw [hxy, cutC_at 93 x y hno] at cc
        rw [hu] at hdn
        obtain ⟨xs, hx⟩ : ∃ xs, xs = strB x := ⟨_, rfl⟩
        obtain ⟨ys, hy⟩ : ∃ ys, ys = strB y := ⟨_, rfl⟩
        have hxs : xs.size < 4294967281 := by
          have := congrArg List.length hxy
          rw [hx, strB_size]
          simp at this
          omega
        have hxd : xs.data.toList = x := by rw [hx]; simp [strB]
        simp only [← hx, ← hy] at cc
        have cA := fun W hM hA => aparse_any xs W hxs hM hA
        have cC := fun W => has_call xs 58 W
        rw [hxd] at cA cC
        have HYS := Lib.hid hy
        obtain ⟨O, hO⟩ : ∃ O, O = (parseA x).isSome := ⟨_, rfl⟩
        unfold AdrP at cA
        simp only [← hO] at cA
        have HOV := Lib.hid hO
        have HDN := Lib.hid hdn
        clear hdn hno hu hx hy hxy hxd hO
        go_enter Tryz.func70, Tryz.ntmps70
        go_wp2_with (go_at_call 67; refine stopc ?_)
        refine Stop.go ?_
        refine (cp _).mono ?_
        rintro e w1 ⟨rfl, rfl⟩
        go_wp2_with (go_at_call 56; refine stopc ?_)
        refine Stop.go ?_
        refine (cv _).mono ?_
        rintro e w2 ⟨rfl, hs2⟩
        have HS2 := Lib.hid hs2
        clear hs2
        go_wp2_with (go_at_call 114; refine stopc ?_)
        refine Stop.go ?_
        refine (ca _).mono ?_
        rintro e w3 ⟨rfl, rfl⟩
        go_wp2_with (go_at_call 115; refine stopc ?_)
        refine Stop.go ?_
        refine (cx _).mono ?_
        rintro e w4 ⟨rfl, rfl⟩
        go_wp2_with (go_at_call 74; refine stopc ?_)
        refine Stop.go ?_
        refine (cc _ (HE.out.1.step HS2.out)).mono ?_
        rintro e w5 ⟨rfl, hs5⟩
        have HS5 := Lib.hid (HS2.out.trans hs5)
        clear hs5
        go_wp2_with (go_at_call 36; refine stopc ?_)
        refine Stop.go ?_
        refine (cA _ (HE.out.1.step HS5.out) (HE.out.2.1.step HS5.out)).mono ?_
        rintro e w6 ⟨a, rfl, hal, hsome, -, hs6⟩
        have HS6 := Lib.hid (HS5.out.trans hs6)
        have HAL := Lib.hid hal
        have HSO := Lib.hid hsome
        clear hs6 hal hsome
        go_wp2_with (refine wp_storeA rfl _ _ _ rfl rfl rfl (arr_new _ _ _ (zerosL 16) rfl) size_addr HAL.out rfl ?_; intro w7 hA7 hs7; refine stopw ?_)
        refine Stop.go ?_
        have HS7 := Lib.hid ((HS6.out.alloc _).then_ hs7 (fun k hk h => absurd h (by have := HS6.out.size; omega)))
        have HA7 := Lib.hid hA7
        clear hs7 hA7
        cases O with
        | false =>
          have HD : Hid (splitH s.data.toList = ([], [], 3)) := Lib.hid (by
            rw [HDN.out]
            try simp only
            cases hq : parseA x with
            | none => rfl
            | some b => have := HOV.out; rw [hq] at this; cases this)
          go_wp2
          go_ret3
          rw [HR.out, HD.out]
          exact ⟨rfl, HS7.out⟩
        | true =>
          have HPA : Hid (parseA x = some a) := Lib.hid (by
            cases hq : parseA x with
            | none => have := HOV.out; rw [hq] at this; cases this
            | some b => rw [HSO.out b hq])
          have HDM : Hid (splitH s.data.toList = if (58 : UInt8) ∉ x then ([], [], 3) else (printA a, y, 0)) := Lib.hid (by
            rw [HDN.out]
            try simp only
            rw [HPA.out]
            simp)
          by_cases hm : (58 : UInt8) ∈ x
          · rw [decide_eq_true hm] at cC
            have HD : Hid (splitH s.data.toList = (printA a, y, 0)) := Lib.hid (by rw [HDM.out, if_neg (fun h => h hm)])
            have cP := fun W hW => aprint_any a HAL.out W hW
            clear hm HDM
            go_wp2_with (go_at_call 114; refine stopc ?_)
            refine Stop.go ?_
            refine (cC _).mono ?_
            rintro e w8 ⟨rfl, rfl⟩
            go_wp2_with (with_reducible refine stop (N := 65) rfl ?_)
            refine Stop.go ?_
            refine wp_loadA rfl _ _ rfl rfl HA7.out Tryz.underlying76 size_addr HAL.out ?_
            go_wp2_with (go_at_call 37; refine stopc ?_)
            refine Stop.go ?_
            refine (cP _ (HE.out.step HS7.out)).mono ?_
            rintro e w9 ⟨rfl, hs9⟩
            have HS9 := Lib.hid (HS7.out.trans hs9)
            clear hs9
            go_wp2
            go_ret3
            rw [HR.out, HD.out, HYS.out]
            exact ⟨rfl, HS9.out⟩
          · rw [decide_eq_false hm] at cC
            have HD : Hid (splitH s.data.toList = ([], [], 3)) := Lib.hid (by rw [HDM.out, if_pos hm])
            clear hm HDM
            go_wp2_with (go_at_call 114; refine stopc ?_)
            refine Stop.go ?_
            refine (cC _).mono ?_
            rintro e w8 ⟨rfl, rfl⟩
            go_wp2
            go_ret3
            rw [HR.out, HD.out]
            exact ⟨rfl, HS7.out⟩
    · have hcp : cutPS 91 s.data.toList = (s.data.toList, false) := by unfold cutPS; rw [if_neg h91]
      rw [hcp, sB_self] at cx
      rw [if_pos h91] at hdn
      obtain ⟨u1, u2, u3, u4⟩ := until_snoc 58 s.data.toList
      obtain ⟨t, htt⟩ : ∃ t, t = s ++ (⟨#[58]⟩ : ByteArray) := ⟨_, rfl⟩
      have htl : t.data.toList = s.data.toList ++ [58] := by rw [htt]; simp
      have ci := fun W => idx_call t 58 W
      rw [htl, if_pos (by simp), u1] at ci
      obtain ⟨k, hk⟩ : ∃ k, k = (untilC 58 s.data.toList).1.length := ⟨_, rfl⟩
      rw [← hk] at ci u2 u3 u4
      have HD : Hid (splitH s.data.toList = (s.data.toList.take k, s.data.toList.drop k, 0)) := Lib.hid (by rw [hdn, u2, u3])
      have x1 : (0 : Int) ≤ (k : Int) := by omega
      have x2 : (k : Int) ≤ (s.size : Int) := by omega
      have x3 : ¬ 9223372036854775807 < s.size + 1 := by omega
      have HTT := Lib.hid htt
      clear h0 h58 h64 h91 hdn hcp u1 u2 u3 htt hk htl hv
      go_enter Tryz.func70, Tryz.ntmps70
      go_wp2_with (go_at_call 67; refine stopc ?_)
      refine Stop.go ?_
      refine (cp _).mono ?_
      rintro e w1 ⟨rfl, rfl⟩
      go_wp2_with (go_at_call 56; refine stopc ?_)
      refine Stop.go ?_
      refine (cv _).mono ?_
      rintro e w2 ⟨rfl, hs2⟩
      have HS2 := Lib.hid hs2
      clear hs2
      go_wp2_with (go_at_call 114; refine stopc ?_)
      refine Stop.go ?_
      refine (ca _).mono ?_
      rintro e w3 ⟨rfl, rfl⟩
      go_wp2_with (go_at_call 115; refine stopc ?_)
      refine Stop.go ?_
      refine (cx _).mono ?_
      rintro e w4 ⟨rfl, rfl⟩
      go_wp2_with (go_at_call 116; refine stopc ?_)
      refine Stop.go ?_
      rw [← HTT.out]
      refine (ci _).mono ?_
      rintro e w5 ⟨rfl, rfl⟩
      go_wp2
      refine wp_region_held_drew (S := (fun _ => True)) (by kernel_rfl) (trivial) (fun hHeld => ?_)
      try (change wpAnyH _ _ _ _ _ _ _ _ (World.drew _))
      refine rg_take (i := 0) (o := { dst := some 37, op := Op.move (Operand.tmp 0), type := 9, pos := "authority.go:36", after := #[], guard := none }) (v := ?rgv1) rfl (by kernel_rfl) (by kernel_rfl) (by kernel_rfl) (fun _ _ _ h => h) (by rfl) (fun w hSw => ?rgy1) hHeld ?_
      case rgy1 => (try dsimp only at hSw); first | (go_simp; done) | (go_simp; with_reducible rfl)
      try simp only [Act.put, List.setIfInBounds_toArray, List.set_cons_zero, List.set_cons_succ]
      refine rg_take (i := 1) (o := { dst := some 38, op := Op.move (Operand.tmp 7), type := 3, pos := "authority.go:36", after := #[], guard := none }) (v := ?rgv2) rfl (by kernel_rfl) (by kernel_rfl) (by kernel_rfl) (fun _ _ _ h => h) (by rfl) (fun w hSw => ?rgy2) hHeld ?_
      case rgy2 => (try dsimp only at hSw); first | (go_simp; done) | (go_simp; with_reducible rfl)
      try simp only [Act.put, List.setIfInBounds_toArray, List.set_cons_zero, List.set_cons_succ]
      refine rg_take (i := 2) (o := { dst := some 39, op := Op.slice 9 (Operand.tmp 37) none (some (Operand.tmp 38)) none, type := 9, pos := "authority.go:36", after := #[{ on := 0, ground := Ground.data }, { on := 1, ground := Ground.data }], guard := none }) (v := ?rgv3) rfl (by kernel_rfl) (by kernel_rfl) (by kernel_rfl) (fun _ _ _ h => h) (by rfl) (fun w hSw => ?rgy3) hHeld ?_
      case rgy3 => (try dsimp only at hSw); first | (go_simp; done) | (go_simp; with_reducible rfl)
      try simp only [Act.put, List.setIfInBounds_toArray, List.set_cons_zero, List.set_cons_succ]
      refine rg_take (i := 3) (o := { dst := some 40, op := Op.move (Operand.tmp 0), type := 9, pos := "authority.go:36", after := #[], guard := none }) (v := ?rgv4) rfl (by kernel_rfl) (by kernel_rfl) (by kernel_rfl) (fun _ _ _ h => h) (by rfl) (fun w hSw => ?rgy4) hHeld ?_
      case rgy4 => (try dsimp only at hSw); first | (go_simp; done) | (go_simp; with_reducible rfl)
      try simp only [Act.put, List.setIfInBounds_toArray, List.set_cons_zero, List.set_cons_succ]
      refine rg_take (i := 4) (o := { dst := some 41, op := Op.move (Operand.tmp 7), type := 3, pos := "authority.go:36", after := #[], guard := none }) (v := ?rgv5) rfl (by kernel_rfl) (by kernel_rfl) (by kernel_rfl) (fun _ _ _ h => h) (by rfl) (fun w hSw => ?rgy5) hHeld ?_
      case rgy5 => (try dsimp only at hSw); first | (go_simp; done) | (go_simp; with_reducible rfl)
      try simp only [Act.put, List.setIfInBounds_toArray, List.set_cons_zero, List.set_cons_succ]
      refine rg_take (i := 5) (o := { dst := some 42, op := Op.slice 9 (Operand.tmp 40) (some (Operand.tmp 41)) none none, type := 9, pos := "authority.go:36", after := #[{ on := 3, ground := Ground.data }, { on := 4, ground := Ground.data }], guard := none }) (v := ?rgv6) rfl (by kernel_rfl) (by kernel_rfl) (by kernel_rfl) (fun _ _ _ h => h) (by rfl) (fun w hSw => ?rgy6) hHeld ?_
      case rgy6 => (try dsimp only at hSw); first | (go_simp; done) | (go_simp; with_reducible rfl)
      try simp only [Act.put, List.setIfInBounds_toArray, List.set_cons_zero, List.set_cons_succ]
      refine rg_take (i := 6) (o := { dst := some 2, op := Op.assign (Operand.tmp 39), type := 9, pos := "authority.go:36", after := #[{ on := 2, ground := Ground.data }, { on := 0, ground := Ground.phase }, { on := 1, ground := Ground.phase }, { on := 2, ground := Ground.phase }, { on := 3, ground := Ground.textOnly Departure.lateStores }, { on := 4, ground := Ground.textOnly Departure.lateStores }, { on := 5, ground := Ground.textOnly Departure.lateStoresUnsure }], guard := none }) (v := ?rgv7) rfl (by kernel_rfl) (by kernel_rfl) (by kernel_rfl) (fun _ _ _ h => h) (by rfl) (fun w hSw => ?rgy7) hHeld ?_
      case rgy7 => (try dsimp only at hSw); first | (go_simp; done) | (go_simp; with_reducible rfl)
      try simp only [Act.put, List.setIfInBounds_toArray, List.set_cons_zero, List.set_cons_succ]
      refine rg_take (i := 7) (o := { dst := some 3, op := Op.assign (Operand.tmp 42), type := 9, pos := "authority.go:36", after := #[{ on := 5, ground := Ground.data }, { on := 6, ground := Ground.chain }, { on := 0, ground := Ground.phase }, { on := 1, ground := Ground.phase }, { on := 2, ground := Ground.phase }, { on := 3, ground := Ground.phase }, { on := 4, ground := Ground.phase }, { on := 5, ground := Ground.phase }, { on := 6, ground := Ground.phase }], guard := none }) (v := ?rgv8) rfl (by kernel_rfl) (by kernel_rfl) (by kernel_rfl) (fun _ _ _ h => h) (by rfl) (fun w hSw => ?rgy8) hHeld ?_
      case rgy8 => (try dsimp only at hSw); first | (go_simp; done) | (go_simp; with_reducible rfl)
      try simp only [Act.put, List.setIfInBounds_toArray, List.set_cons_zero, List.set_cons_succ]
      refine rg_take (i := 8) (o := { dst := some 4, op := Op.assign (Operand.const (Value.int IntKind.i64 0)), type := 25, pos := "authority.go:36", after := #[{ on := 7, ground := Ground.chain }, { on := 0, ground := Ground.phase }, { on := 1, ground := Ground.phase }, { on := 2, ground := Ground.phase }, { on := 3, ground := Ground.phase }, { on := 4, ground := Ground.phase }, { on := 5, ground := Ground.phase }, { on := 6, ground := Ground.phase }, { on := 7, ground := Ground.phase }], guard := none }) (v := ?rgv9) rfl (by kernel_rfl) (by kernel_rfl) (by kernel_rfl) (fun _ _ _ h => h) (by rfl) (fun w hSw => ?rgy9) hHeld ?_
      case rgy9 => (try dsimp only at hSw); first | (go_simp; done) | (go_simp; with_reducible rfl)
      try simp only [Act.put, List.setIfInBounds_toArray, List.set_cons_zero, List.set_cons_succ]
      clear hHeld
      refine wpAnyH_done (by kernel_rfl) ?_ _
      skip
      go_wp2
      go_ret3
      rw [HR.out, HD.out, ext_upto, ext_from]
      exact ⟨rfl, HS2.out.drew⟩
end Go.Proofs.YtgjmaifgkgejgaaGreatDoor.L

/-! Layer 13: a host and a port: Parse, Print, Of. -/
namespace Go.Proofs.YtgjmaifgkgejgaaGreatDoor.L
open Go.RowKit Go.Proofs

def HpP (w : World) (r : List UInt8 × Int × Int) (e : Ending) (w' : World) : Prop := e = .returned (.tuple #[.string (strB r.1), .int .i64 r.2.1, .int .i64 r.2.2]) ∧ Stp (fun _ => False) w w'
theorem split_len (l : List UInt8) : (splitH l).2.1.length ≤ l.length := by
  unfold splitH
  have hu : ∀ (c : UInt8) (k : List UInt8), (untilC c k).2.length ≤ k.length := fun c k => by
    rcases untilC_cases c k with ⟨h, e⟩ | ⟨a, b, rfl, h, e⟩
    · rw [e]; simp
    · rw [e]; simp
  split
  · simp
  · split
    · simp
    · split
      · exact hu 58 l
      · split
        · split
          · simp
          · have := hu 93 (l.drop 1)
            simp at this ⊢
            omega
        · simp

set_option maxRecDepth 100000 in
set_option maxHeartbeats 4000000 in
theorem hparse_any (s : ByteArray) (w : World) (hs : s.size < 4294967280) (he : EnvP w) : Calls Tryz.prog 35 #[.string s] w (HpP w (hpS s.data.toList)) := by
  obtain ⟨R, hR⟩ : ∃ R, R = HpP w (hpS s.data.toList) := ⟨_, rfl⟩
  rw [← hR]
  have HR := Lib.hid hR
  have hsl := size_list s
  have cs := fun W hW => split_any s W hs hW
  have hlen := split_len s.data.toList
  obtain ⟨H, hH⟩ : ∃ H, H = (splitH s.data.toList).1 := ⟨_, rfl⟩
  obtain ⟨r, hr⟩ : ∃ r, r = (splitH s.data.toList).2.1 := ⟨_, rfl⟩
  obtain ⟨q, hq⟩ : ∃ q, q = (splitH s.data.toList).2.2 := ⟨_, rfl⟩
  unfold SplP at cs
  rw [← hr] at hlen
  simp only [← hH, ← hr, ← hq] at cs
  have HD : Hid (hpS s.data.toList = if q ≠ 0 then ([], 0, q) else tailH H r) := Lib.hid (by unfold hpS; rw [← hH, ← hr, ← hq])
  obtain ⟨hb, hhb⟩ : ∃ hb, hb = strB H := ⟨_, rfl⟩
  obtain ⟨rb, hrb⟩ : ∃ rb, rb = strB r := ⟨_, rfl⟩
  have hrd : rb.data.toList = r := by rw [hrb]; simp [strB]
  have hrs : rb.size < 4294967280 := by rw [hrb, strB_size]; omega
  simp only [← hhb, ← hrb] at cs
  have HHB := Lib.hid hhb
  clear hR hH hr hq hhb hrb
  by_cases hq0 : q = 0
  · have hqq : (q != 0) = false := by rw [hq0]; rfl
    have HT : Hid (hpS s.data.toList = tailH H r) := Lib.hid (by rw [HD.out, if_neg (fun h => h hq0)])
    clear hq0 HD
    by_cases hr0 : r = []
    · have ht : (rb.toList == []) = true := by rw [list_eqb, hrd]; simp [hr0]
      have HD : Hid (hpS s.data.toList = (H, 0, 0)) := Lib.hid (by rw [HT.out]; unfold tailH; rw [if_pos hr0])
      clear hr0 hrd
      go_enter Tryz.func35, Tryz.ntmps35
      go_wp2_with (go_at_call 70; refine stopc ?_)
      refine Stop.go ?_
      refine (cs _ he).mono ?_
      rintro e w1 ⟨rfl, hs1⟩
      have HS1 := Lib.hid hs1
      clear hs1
      go_wp2
      go_ret3
      rw [HR.out, HD.out, HHB.out]
      exact ⟨rfl, HS1.out⟩
    · have ht : (rb.toList == []) = false := by rw [list_eqb, hrd]; simp [hr0]
      have cp := fun W => hasp_call rb 58 W
      rw [hrd] at cp
      by_cases h58 : r[0]? = some 58
      · rw [decide_eq_true h58] at cp
        have hp1 : 1 ≤ rb.size := len_pos rb 58 (by rw [hrd]; exact h58)
        have hp2 : (1 : Int) ≤ (rb.size : Int) := by omega
        obtain ⟨t, htt⟩ : ∃ t, t = strB (r.drop 1) := ⟨_, rfl⟩
        have hx : rb.extract 1 rb.size = t := by rw [htt, ext_from, hrd]
        have htd : t.data.toList = r.drop 1 := by rw [htt]; simp [strB]
        have hts : t.size ≤ rb.size := by rw [htt, strB_size, List.length_drop, ← hrd, size_list]; omega
        have cn := fun W => number_any t 65535 W (by omega)
        rw [htd] at cn
        unfold NumRet at cn
        have HX := Lib.hid hx
        have HD : Hid (hpS s.data.toList = if (numS (r.drop 1) 65535).2 = false ∨ (numS (r.drop 1) 65535).1 = 0 then ([], 0, 10) else (H, (numS (r.drop 1) 65535).1, 0)) := Lib.hid (by rw [HT.out]; unfold tailH; rw [if_neg hr0, if_neg (fun h => h h58)])
        obtain ⟨n, hn⟩ : ∃ n, n = (numS (r.drop 1) 65535).1 := ⟨_, rfl⟩
        obtain ⟨ok, hok⟩ : ∃ ok, ok = (numS (r.drop 1) 65535).2 := ⟨_, rfl⟩
        rw [← hn, ← hok] at HD
        simp only [← hn, ← hok] at cn
        clear hr0 h58 hp1 htt htd hx hn hok HT hrd hts
        have key : ∀ (w1 : World) (R' : Prop), R' → R' := fun _ _ h => h
        cases ok with
        | false =>
          have HDD : Hid (hpS s.data.toList = ([], 0, 10)) := Lib.hid (by rw [HD.out, if_pos (Or.inl rfl)])
          clear HD key
          go_enter Tryz.func35, Tryz.ntmps35
          go_wp2_with (go_at_call 70; refine stopc ?_)
          refine Stop.go ?_
          refine (cs _ he).mono ?_
          rintro e w1 ⟨rfl, hs1⟩
          have HS1 := Lib.hid hs1
          clear hs1
          go_wp2_with (go_at_call 67; refine stopc ?_)
          refine Stop.go ?_
          refine (cp _).mono ?_
          rintro e w2 ⟨rfl, rfl⟩
          go_wp2_with (go_at_call 71; refine stopc ?_)
          refine Stop.go ?_
          rw [HX.out]
          refine (cn _).mono ?_
          rintro e w3 ⟨rfl, hs3⟩
          have HS3 := Lib.hid (HS1.out.trans hs3)
          clear hs3
          go_wp2
          go_ret3
          rw [HR.out, HDD.out]
          exact ⟨rfl, HS3.out⟩
        | true =>
          by_cases hn0 : n = 0
          · have hnn : (n == 0) = true := by rw [hn0]; rfl
            have HDD : Hid (hpS s.data.toList = ([], 0, 10)) := Lib.hid (by rw [HD.out, if_pos (Or.inr hn0)])
            clear HD key hn0
            go_enter Tryz.func35, Tryz.ntmps35
            go_wp2_with (go_at_call 70; refine stopc ?_)
            refine Stop.go ?_
            refine (cs _ he).mono ?_
            rintro e w1 ⟨rfl, hs1⟩
            have HS1 := Lib.hid hs1
            clear hs1
            go_wp2_with (go_at_call 67; refine stopc ?_)
            refine Stop.go ?_
            refine (cp _).mono ?_
            rintro e w2 ⟨rfl, rfl⟩
            go_wp2_with (go_at_call 71; refine stopc ?_)
            refine Stop.go ?_
            rw [HX.out]
            refine (cn _).mono ?_
            rintro e w3 ⟨rfl, hs3⟩
            have HS3 := Lib.hid (HS1.out.trans hs3)
            clear hs3
            go_wp2
            go_ret3
            rw [HR.out, HDD.out]
            exact ⟨rfl, HS3.out⟩
          · have hnn : (n == 0) = false := by simpa using hn0
            have HDD : Hid (hpS s.data.toList = (H, n, 0)) := Lib.hid (by rw [HD.out, if_neg (by rw [not_or]; exact ⟨by decide, hn0⟩)])
            clear HD key hn0
            go_enter Tryz.func35, Tryz.ntmps35
            go_wp2_with (go_at_call 70; refine stopc ?_)
            refine Stop.go ?_
            refine (cs _ he).mono ?_
            rintro e w1 ⟨rfl, hs1⟩
            have HS1 := Lib.hid hs1
            clear hs1
            go_wp2_with (go_at_call 67; refine stopc ?_)
            refine Stop.go ?_
            refine (cp _).mono ?_
            rintro e w2 ⟨rfl, rfl⟩
            go_wp2_with (go_at_call 71; refine stopc ?_)
            refine Stop.go ?_
            rw [HX.out]
            refine (cn _).mono ?_
            rintro e w3 ⟨rfl, hs3⟩
            have HS3 := Lib.hid (HS1.out.trans hs3)
            clear hs3
            go_wp2
            go_ret3
            rw [HR.out, HDD.out, HHB.out]
            exact ⟨rfl, HS3.out⟩
      · rw [decide_eq_false h58] at cp
        have HD : Hid (hpS s.data.toList = ([], 0, 3)) := Lib.hid (by rw [HT.out]; unfold tailH; rw [if_neg hr0, if_pos h58])
        clear hr0 h58 hrd
        go_enter Tryz.func35, Tryz.ntmps35
        go_wp2_with (go_at_call 70; refine stopc ?_)
        refine Stop.go ?_
        refine (cs _ he).mono ?_
        rintro e w1 ⟨rfl, hs1⟩
        have HS1 := Lib.hid hs1
        clear hs1
        go_wp2_with (go_at_call 67; refine stopc ?_)
        refine Stop.go ?_
        refine (cp _).mono ?_
        rintro e w2 ⟨rfl, rfl⟩
        go_wp2
        go_ret3
        rw [HR.out, HD.out]
        exact ⟨rfl, HS1.out⟩
  · have hqq : (q != 0) = true := by simpa using hq0
    have HDD : Hid (hpS s.data.toList = ([], 0, q)) := Lib.hid (by rw [HD.out, if_pos hq0])
    clear hq0 HD hrd
    go_enter Tryz.func35, Tryz.ntmps35
    go_wp2_with (go_at_call 70; refine stopc ?_)
    refine Stop.go ?_
    refine (cs _ he).mono ?_
    rintro e w1 ⟨rfl, hs1⟩
    have HS1 := Lib.hid hs1
    clear hs1
    go_wp2
    go_ret3
    rw [HR.out, HDD.out]
    exact ⟨rfl, HS1.out⟩

end Go.Proofs.YtgjmaifgkgejgaaGreatDoor.L

/-! Layer 13: which host a request is for. -/
namespace Go.Proofs.YtgjmaifgkgejgaaGreatDoor.L
open Go.RowKit Go.Proofs

def hostB : ByteArray := ⟨#[104, 111, 115, 116]⟩
theorem form_vals (m t : List UInt8) : formS m t = 0 ∨ formS m t = 1 ∨ formS m t = 2 ∨ formS m t = 3 ∨ formS m t = 4 := by
  unfold formS
  repeat' split
  all_goals simp

set_option maxRecDepth 100000 in
set_option maxHeartbeats 4000000 in
theorem of_any (M : Nat → Prop) (v : Value) (xs : List (ByteArray × ByteArray)) (m t : ByteArray) (n : Int) (w : World) (hx : Rd fldK M w v xs) (hl : xs.length ≤ 1000000000) (hz : (findF hostL (flS xs)).1.length < 4294967280) (ht : t.size < 4294967280) (he : EnvP w) :
    Calls Tryz.prog 17 #[.agg #[.string m, .string t, .int .i64 n], v] w (HpP w (ofS m.data.toList t.data.toList (flS xs))) := by
  obtain ⟨R, hR⟩ : ∃ R, R = HpP w (ofS m.data.toList t.data.toList (flS xs)) := ⟨_, rfl⟩
  rw [← hR]
  have HR := Lib.hid hR
  have HE := Lib.hid he
  have HX := Lib.hid hx
  obtain ⟨A, c, rfl, hle⟩ := hx.form
  have cf := fun W hW => find_any M (.slice A xs.length c) xs hostB W hW (by decide) (by omega)
  have hlow : lowS hostB.data.toList = hostL := by decide
  unfold hostB at cf hlow
  unfold FindV at cf
  rw [hlow] at cf
  obtain ⟨q, hq⟩ : ∃ q, q = findF hostL (flS xs) := ⟨_, rfl⟩
  have hql : q.1.length < 4294967280 := by
    rw [hq]
    exact hz
  have hqn : q.2 ≤ xs.length := by
    rw [hq]
    have := findF_len hostL (flS xs)
    simpa [flS] using this
  have hof : ofS m.data.toList t.data.toList (flS xs) = if formS m.data.toList t.data.toList = 4 then ([], 0, 11) else if formS m.data.toList t.data.toList = 0 then ([], 0, 3) else if 1 < q.2 then ([], 0, 7)
      else if formS m.data.toList t.data.toList = 2 then hpS (authS t.data.toList).1 else if q.2 = 0 then ([], 0, 8) else hpS q.1 := by rw [hq]; rfl
  simp only [← hq] at cf
  have cF := fun W => form_any m t n W (by omega)
  have hvals := form_vals m.data.toList t.data.toList
  obtain ⟨f, hf⟩ : ∃ f, f = formS m.data.toList t.data.toList := ⟨_, rfl⟩
  rw [← hf] at cF hof hvals
  have cA := fun W => auth_any t W (by omega)
  have hal : (authS t.data.toList).1.length ≤ t.size := by
    unfold authS
    split
    · have := List.takeWhile_sublist (fun c => !isEnd c) (l := t.data.toList.drop 7)
      have := this.length_le
      rw [List.length_drop, size_list] at this
      show (uptoEnd _).length ≤ _
      unfold uptoEnd
      omega
    · simp
  obtain ⟨S, hS⟩ : ∃ S, S = strB q.1 := ⟨_, rfl⟩
  obtain ⟨U, hU⟩ : ∃ U, U = strB (authS t.data.toList).1 := ⟨_, rfl⟩
  obtain ⟨ub, hub⟩ : ∃ ub, ub = (authS t.data.toList).2 := ⟨_, rfl⟩
  simp only [← hU, ← hub] at cA
  have hSd : S.data.toList = q.1 := by rw [hS]; simp [strB]
  have hUd : U.data.toList = (authS t.data.toList).1 := by rw [hU]; simp [strB]
  have cS := fun W hW => hparse_any S W (by rw [hS, strB_size]; exact hql) hW
  have cU := fun W hW => hparse_any U W (by rw [hU, strB_size]; omega) hW
  rw [hSd] at cS
  rw [hUd] at cU
  unfold HpP at cS cU
  rw [← hS] at cf
  obtain ⟨k, hk⟩ : ∃ k, k = q.2 := ⟨_, rfl⟩
  rw [← hk] at cf hof hqn
  have HOF := Lib.hid hof
  clear hR hx he hlow hq hql hof hf hal hS hU hub hSd hUd hk
  rcases hvals with rfl | rfl | rfl | rfl | rfl
  · have HD : Hid (ofS m.data.toList t.data.toList (flS xs) = ([], 0, 3)) := Lib.hid (by rw [HOF.out, if_neg (by decide), if_pos rfl])
    go_enter Tryz.func17, Tryz.ntmps17
    go_wp2_with (go_at_call 32; refine stopc ?_)
    refine Stop.go ?_
    refine (cf _ (HX.out.stp0 ((Stp.refl _ _).alloc _))).mono ?_
    rintro e w1 ⟨rfl, hs1⟩
    have HB := Lib.hid (hs1.blk (heap_alloc_new w (.cells #[.string m, .string t, .int .i64 n] 40)) id)
    have HS1 := Lib.hid (((Stp.refl (fun _ => False) w).alloc _).trans hs1)
    clear hs1
    go_wp2_with (with_reducible refine stop (N := 15) rfl ?_)
    refine Stop.go ?_
    refine wpList_load_row rfl _ _ rfl _ rfl _ _ (0, 0) _ HB.out Tryz.underlying40 rfl (by kernel_rfl) ?_
    go_wp2_with (go_at_call 33; refine stopc ?_)
    refine Stop.go ?_
    refine (cF _).mono ?_
    rintro e w2 ⟨rfl, hs2⟩
    have HB2 := Lib.hid (hs2.blk HB.out id)
    have HS2 := Lib.hid (HS1.out.trans hs2)
    clear hs2 HB HS1
    go_wp2
    go_ret3
    rw [HR.out, HD.out]
    exact ⟨rfl, HS2.out⟩
  · skip
    by_cases k1 : 1 < k
    · have kk : decide ((1 : Int) < (k : Int)) = true := decide_eq_true (by omega)
      have HD : Hid (ofS m.data.toList t.data.toList (flS xs) = ([], 0, 7)) := Lib.hid (by rw [HOF.out, if_neg (by decide), if_neg (by decide), if_pos k1])
      clear k1
      go_enter Tryz.func17, Tryz.ntmps17
      go_wp2_with (go_at_call 32; refine stopc ?_)
      refine Stop.go ?_
      refine (cf _ (HX.out.stp0 ((Stp.refl _ _).alloc _))).mono ?_
      rintro e w1 ⟨rfl, hs1⟩
      have HB := Lib.hid (hs1.blk (heap_alloc_new w (.cells #[.string m, .string t, .int .i64 n] 40)) id)
      have HS1 := Lib.hid (((Stp.refl (fun _ => False) w).alloc _).trans hs1)
      clear hs1
      go_wp2_with (with_reducible refine stop (N := 15) rfl ?_)
      refine Stop.go ?_
      refine wpList_load_row rfl _ _ rfl _ rfl _ _ (0, 0) _ HB.out Tryz.underlying40 rfl (by kernel_rfl) ?_
      go_wp2_with (go_at_call 33; refine stopc ?_)
      refine Stop.go ?_
      refine (cF _).mono ?_
      rintro e w2 ⟨rfl, hs2⟩
      have HB2 := Lib.hid (hs2.blk HB.out id)
      have HS2 := Lib.hid (HS1.out.trans hs2)
      clear hs2 HB HS1
      go_wp2
      go_ret3
      rw [HR.out, HD.out]
      exact ⟨rfl, HS2.out⟩
    · have kk : decide ((1 : Int) < (k : Int)) = false := decide_eq_false (by omega)
      by_cases k0 : k = 0
      · have HD : Hid (ofS m.data.toList t.data.toList (flS xs) = ([], 0, 8)) := Lib.hid (by rw [HOF.out, if_neg (by decide), if_neg (by decide), if_neg k1, if_neg (by decide), if_pos k0])
        subst k0
        clear k1
        go_enter Tryz.func17, Tryz.ntmps17
        go_wp2_with (go_at_call 32; refine stopc ?_)
        refine Stop.go ?_
        refine (cf _ (HX.out.stp0 ((Stp.refl _ _).alloc _))).mono ?_
        rintro e w1 ⟨rfl, hs1⟩
        have HB := Lib.hid (hs1.blk (heap_alloc_new w (.cells #[.string m, .string t, .int .i64 n] 40)) id)
        have HS1 := Lib.hid (((Stp.refl (fun _ => False) w).alloc _).trans hs1)
        clear hs1
        go_wp2_with (with_reducible refine stop (N := 15) rfl ?_)
        refine Stop.go ?_
        refine wpList_load_row rfl _ _ rfl _ rfl _ _ (0, 0) _ HB.out Tryz.underlying40 rfl (by kernel_rfl) ?_
        go_wp2_with (go_at_call 33; refine stopc ?_)
        refine Stop.go ?_
        refine (cF _).mono ?_
        rintro e w2 ⟨rfl, hs2⟩
        have HB2 := Lib.hid (hs2.blk HB.out id)
        have HS2 := Lib.hid (HS1.out.trans hs2)
        clear hs2 HB HS1
        go_wp2
        go_ret3
        rw [HR.out, HD.out]
        exact ⟨rfl, HS2.out⟩
      · have kz : ((k : Int) == 0) = false := by simp; omega
        have HD : Hid (ofS m.data.toList t.data.toList (flS xs) = hpS q.1) := Lib.hid (by rw [HOF.out, if_neg (by decide), if_neg (by decide), if_neg k1, if_neg (by decide), if_neg k0])
        clear k1 k0
        go_enter Tryz.func17, Tryz.ntmps17
        go_wp2_with (go_at_call 32; refine stopc ?_)
        refine Stop.go ?_
        refine (cf _ (HX.out.stp0 ((Stp.refl _ _).alloc _))).mono ?_
        rintro e w1 ⟨rfl, hs1⟩
        have HB := Lib.hid (hs1.blk (heap_alloc_new w (.cells #[.string m, .string t, .int .i64 n] 40)) id)
        have HS1 := Lib.hid (((Stp.refl (fun _ => False) w).alloc _).trans hs1)
        clear hs1
        go_wp2_with (with_reducible refine stop (N := 15) rfl ?_)
        refine Stop.go ?_
        refine wpList_load_row rfl _ _ rfl _ rfl _ _ (0, 0) _ HB.out Tryz.underlying40 rfl (by kernel_rfl) ?_
        go_wp2_with (go_at_call 33; refine stopc ?_)
        refine Stop.go ?_
        refine (cF _).mono ?_
        rintro e w2 ⟨rfl, hs2⟩
        have HB2 := Lib.hid (hs2.blk HB.out id)
        have HS2 := Lib.hid (HS1.out.trans hs2)
        clear hs2 HB HS1
        go_wp2_with (go_at_call 35; refine stopc ?_)
        refine Stop.go ?_
        refine (cS _ (HE.out.step HS2.out)).mono ?_
        rintro e w3 ⟨rfl, hs3⟩
        have HS3 := Lib.hid (HS2.out.trans hs3)
        clear hs3
        go_wp2
        go_ret3
        rw [HR.out, HD.out]
        exact ⟨rfl, HS3.out⟩
  · skip
    by_cases k1 : 1 < k
    · have kk : decide ((1 : Int) < (k : Int)) = true := decide_eq_true (by omega)
      have HD : Hid (ofS m.data.toList t.data.toList (flS xs) = ([], 0, 7)) := Lib.hid (by rw [HOF.out, if_neg (by decide), if_neg (by decide), if_pos k1])
      clear k1
      go_enter Tryz.func17, Tryz.ntmps17
      go_wp2_with (go_at_call 32; refine stopc ?_)
      refine Stop.go ?_
      refine (cf _ (HX.out.stp0 ((Stp.refl _ _).alloc _))).mono ?_
      rintro e w1 ⟨rfl, hs1⟩
      have HB := Lib.hid (hs1.blk (heap_alloc_new w (.cells #[.string m, .string t, .int .i64 n] 40)) id)
      have HS1 := Lib.hid (((Stp.refl (fun _ => False) w).alloc _).trans hs1)
      clear hs1
      go_wp2_with (with_reducible refine stop (N := 15) rfl ?_)
      refine Stop.go ?_
      refine wpList_load_row rfl _ _ rfl _ rfl _ _ (0, 0) _ HB.out Tryz.underlying40 rfl (by kernel_rfl) ?_
      go_wp2_with (go_at_call 33; refine stopc ?_)
      refine Stop.go ?_
      refine (cF _).mono ?_
      rintro e w2 ⟨rfl, hs2⟩
      have HB2 := Lib.hid (hs2.blk HB.out id)
      have HS2 := Lib.hid (HS1.out.trans hs2)
      clear hs2 HB HS1
      go_wp2
      go_ret3
      rw [HR.out, HD.out]
      exact ⟨rfl, HS2.out⟩
    · have kk : decide ((1 : Int) < (k : Int)) = false := decide_eq_false (by omega)
      have HD : Hid (ofS m.data.toList t.data.toList (flS xs) = hpS (authS t.data.toList).1) := Lib.hid (by rw [HOF.out, if_neg (by decide), if_neg (by decide), if_neg k1, if_pos rfl])
      clear k1
      go_enter Tryz.func17, Tryz.ntmps17
      go_wp2_with (go_at_call 32; refine stopc ?_)
      refine Stop.go ?_
      refine (cf _ (HX.out.stp0 ((Stp.refl _ _).alloc _))).mono ?_
      rintro e w1 ⟨rfl, hs1⟩
      have HB := Lib.hid (hs1.blk (heap_alloc_new w (.cells #[.string m, .string t, .int .i64 n] 40)) id)
      have HS1 := Lib.hid (((Stp.refl (fun _ => False) w).alloc _).trans hs1)
      clear hs1
      go_wp2_with (with_reducible refine stop (N := 15) rfl ?_)
      refine Stop.go ?_
      refine wpList_load_row rfl _ _ rfl _ rfl _ _ (0, 0) _ HB.out Tryz.underlying40 rfl (by kernel_rfl) ?_
      go_wp2_with (go_at_call 33; refine stopc ?_)
      refine Stop.go ?_
      refine (cF _).mono ?_
      rintro e w2 ⟨rfl, hs2⟩
      have HB2 := Lib.hid (hs2.blk HB.out id)
      have HS2 := Lib.hid (HS1.out.trans hs2)
      clear hs2 HB HS1
      have hc1 : w2.cell? ⟨w.heap.size, 1, none⟩ = some (.string t) := blk_cell (j := 1) HB2.out
      go_wp2_with (go_at_call 34; refine stopc ?_)
      refine Stop.go ?_
      refine (cA _).mono ?_
      rintro e w3 ⟨rfl, hs3⟩
      have HS3 := Lib.hid (HS2.out.trans hs3)
      clear hs3 hc1
      go_wp2_with (go_at_call 35; refine stopc ?_)
      refine Stop.go ?_
      refine (cU _ (HE.out.step HS3.out)).mono ?_
      rintro e w4 ⟨rfl, hs4⟩
      have HS4 := Lib.hid (HS3.out.trans hs4)
      clear hs4
      go_wp2
      go_ret3
      rw [HR.out, HD.out]
      exact ⟨rfl, HS4.out⟩
  · skip
    by_cases k1 : 1 < k
    · have kk : decide ((1 : Int) < (k : Int)) = true := decide_eq_true (by omega)
      have HD : Hid (ofS m.data.toList t.data.toList (flS xs) = ([], 0, 7)) := Lib.hid (by rw [HOF.out, if_neg (by decide), if_neg (by decide), if_pos k1])
      clear k1
      go_enter Tryz.func17, Tryz.ntmps17
      go_wp2_with (go_at_call 32; refine stopc ?_)
      refine Stop.go ?_
      refine (cf _ (HX.out.stp0 ((Stp.refl _ _).alloc _))).mono ?_
      rintro e w1 ⟨rfl, hs1⟩
      have HB := Lib.hid (hs1.blk (heap_alloc_new w (.cells #[.string m, .string t, .int .i64 n] 40)) id)
      have HS1 := Lib.hid (((Stp.refl (fun _ => False) w).alloc _).trans hs1)
      clear hs1
      go_wp2_with (with_reducible refine stop (N := 15) rfl ?_)
      refine Stop.go ?_
      refine wpList_load_row rfl _ _ rfl _ rfl _ _ (0, 0) _ HB.out Tryz.underlying40 rfl (by kernel_rfl) ?_
      go_wp2_with (go_at_call 33; refine stopc ?_)
      refine Stop.go ?_
      refine (cF _).mono ?_
      rintro e w2 ⟨rfl, hs2⟩
      have HB2 := Lib.hid (hs2.blk HB.out id)
      have HS2 := Lib.hid (HS1.out.trans hs2)
      clear hs2 HB HS1
      go_wp2
      go_ret3
      rw [HR.out, HD.out]
      exact ⟨rfl, HS2.out⟩
    · have kk : decide ((1 : Int) < (k : Int)) = false := decide_eq_false (by omega)
      by_cases k0 : k = 0
      · have HD : Hid (ofS m.data.toList t.data.toList (flS xs) = ([], 0, 8)) := Lib.hid (by rw [HOF.out, if_neg (by decide), if_neg (by decide), if_neg k1, if_neg (by decide), if_pos k0])
        subst k0
        clear k1
        go_enter Tryz.func17, Tryz.ntmps17
        go_wp2_with (go_at_call 32; refine stopc ?_)
        refine Stop.go ?_
        refine (cf _ (HX.out.stp0 ((Stp.refl _ _).alloc _))).mono ?_
        rintro e w1 ⟨rfl, hs1⟩
        have HB := Lib.hid (hs1.blk (heap_alloc_new w (.cells #[.string m, .string t, .int .i64 n] 40)) id)
        have HS1 := Lib.hid (((Stp.refl (fun _ => False) w).alloc _).trans hs1)
        clear hs1
        go_wp2_with (with_reducible refine stop (N := 15) rfl ?_)
        refine Stop.go ?_
        refine wpList_load_row rfl _ _ rfl _ rfl _ _ (0, 0) _ HB.out Tryz.underlying40 rfl (by kernel_rfl) ?_
        go_wp2_with (go_at_call 33; refine stopc ?_)
        refine Stop.go ?_
        refine (cF _).mono ?_
        rintro e w2 ⟨rfl, hs2⟩
        have HB2 := Lib.hid (hs2.blk HB.out id)
        have HS2 := Lib.hid (HS1.out.trans hs2)
        clear hs2 HB HS1
        go_wp2
        go_ret3
        rw [HR.out, HD.out]
        exact ⟨rfl, HS2.out⟩
      · have kz : ((k : Int) == 0) = false := by simp; omega
        have HD : Hid (ofS m.data.toList t.data.toList (flS xs) = hpS q.1) := Lib.hid (by rw [HOF.out, if_neg (by decide), if_neg (by decide), if_neg k1, if_neg (by decide), if_neg k0])
        clear k1 k0
        go_enter Tryz.func17, Tryz.ntmps17
        go_wp2_with (go_at_call 32; refine stopc ?_)
        refine Stop.go ?_
        refine (cf _ (HX.out.stp0 ((Stp.refl _ _).alloc _))).mono ?_
        rintro e w1 ⟨rfl, hs1⟩
        have HB := Lib.hid (hs1.blk (heap_alloc_new w (.cells #[.string m, .string t, .int .i64 n] 40)) id)
        have HS1 := Lib.hid (((Stp.refl (fun _ => False) w).alloc _).trans hs1)
        clear hs1
        go_wp2_with (with_reducible refine stop (N := 15) rfl ?_)
        refine Stop.go ?_
        refine wpList_load_row rfl _ _ rfl _ rfl _ _ (0, 0) _ HB.out Tryz.underlying40 rfl (by kernel_rfl) ?_
        go_wp2_with (go_at_call 33; refine stopc ?_)
        refine Stop.go ?_
        refine (cF _).mono ?_
        rintro e w2 ⟨rfl, hs2⟩
        have HB2 := Lib.hid (hs2.blk HB.out id)
        have HS2 := Lib.hid (HS1.out.trans hs2)
        clear hs2 HB HS1
        go_wp2_with (go_at_call 35; refine stopc ?_)
        refine Stop.go ?_
        refine (cS _ (HE.out.step HS2.out)).mono ?_
        rintro e w3 ⟨rfl, hs3⟩
        have HS3 := Lib.hid (HS2.out.trans hs3)
        clear hs3
        go_wp2
        go_ret3
        rw [HR.out, HD.out]
        exact ⟨rfl, HS3.out⟩
  · have HD : Hid (ofS m.data.toList t.data.toList (flS xs) = ([], 0, 11)) := Lib.hid (by rw [HOF.out, if_pos rfl])
    go_enter Tryz.func17, Tryz.ntmps17
    go_wp2_with (go_at_call 32; refine stopc ?_)
    refine Stop.go ?_
    refine (cf _ (HX.out.stp0 ((Stp.refl _ _).alloc _))).mono ?_
    rintro e w1 ⟨rfl, hs1⟩
    have HB := Lib.hid (hs1.blk (heap_alloc_new w (.cells #[.string m, .string t, .int .i64 n] 40)) id)
    have HS1 := Lib.hid (((Stp.refl (fun _ => False) w).alloc _).trans hs1)
    clear hs1
    go_wp2_with (with_reducible refine stop (N := 15) rfl ?_)
    refine Stop.go ?_
    refine wpList_load_row rfl _ _ rfl _ rfl _ _ (0, 0) _ HB.out Tryz.underlying40 rfl (by kernel_rfl) ?_
    go_wp2_with (go_at_call 33; refine stopc ?_)
    refine Stop.go ?_
    refine (cF _).mono ?_
    rintro e w2 ⟨rfl, hs2⟩
    have HB2 := Lib.hid (hs2.blk HB.out id)
    have HS2 := Lib.hid (HS1.out.trans hs2)
    clear hs2 HB HS1
    go_wp2
    go_ret3
    rw [HR.out, HD.out]
    exact ⟨rfl, HS2.out⟩
end Go.Proofs.YtgjmaifgkgejgaaGreatDoor.L

/-! Layer 13: how long what is read is. -/
namespace Go.Proofs.YtgjmaifgkgejgaaGreatDoor.L
open Go.RowKit Go.Proofs

theorem printA_len (a : List UInt8) (h : a.length = 16) : (printA a).length ≤ 200 := by
  unfold printA
  split
  · unfold print4
    have := joinC_len 46 ((a.drop 12).map fun c => Lib.decDigits c.toNat) 20 (by
      intro x hx
      obtain ⟨n, hn, rfl⟩ := List.mem_map.1 hx
      rw [Lib.decDigits_length]
      exact Lib.nDigits_le20 _ (by have := UInt8.toNat_lt n; omega))
    rw [List.length_map, List.length_drop, h] at this
    omega
  · obtain ⟨-, h2, h3⟩ := bytesN_pairsN a 8 h
    have hall := joinH_len (pairsN a) h3
    unfold print6
    split
    · omega
    · have h4 := joinH_len ((pairsN a).take (rowS (pairsN a)).1) (fun m hm => h3 m (List.mem_of_mem_take hm))
      have h5 := joinH_len ((pairsN a).drop ((rowS (pairsN a)).1 + (rowS (pairsN a)).2)) (fun m hm => h3 m (List.mem_of_mem_drop hm))
      rw [List.length_take] at h4
      rw [List.length_drop] at h5
      rw [List.length_append, List.length_append]
      simp only [List.length_cons, List.length_nil]
      omega
theorem splitH_len (l : List UInt8) : (splitH l).1.length ≤ l.length + 200 := by
  unfold splitH
  have hu : ∀ (c : UInt8) (k : List UInt8), (untilC c k).1.length ≤ k.length := fun c k => by
    rcases untilC_cases c k with ⟨h, e⟩ | ⟨a, b, rfl, h, e⟩
    · rw [e]; exact Nat.le_refl _
    · rw [e]; simp
  split
  · simp
  · split
    · simp
    · split
      · have := hu 58 l
        simp only
        omega
      · split
        · rename_i a ha
          split
          · simp
          · have := printA_len a (parseA_len _ _ ha)
            simp only
            omega
        · simp
theorem hp_len (l : List UInt8) : (hpS l).1.length ≤ l.length + 200 := by
  unfold hpS
  split
  · simp
  · have := splitH_len l
    unfold tailH
    split
    · exact this
    · split
      · simp
      · split
        · simp
        · exact this
theorem auth_len (t : List UInt8) : (authS t).1.length ≤ t.length := by
  unfold authS uptoEnd
  split
  · have h := (List.takeWhile_prefix (l := t.drop 7) (fun c => !isEnd c)).length_le
    rw [List.length_drop] at h
    simp only
    omega
  · exact Nat.zero_le _
theorem ofS_len (m t : List UInt8) (fs : List (List UInt8 × List UInt8)) (B : Nat) (hf : (findF hostL fs).1.length ≤ B) (ht : t.length ≤ B) : (ofS m t fs).1.length ≤ B + 200 := by
  have h1 := hp_len (authS t).1
  have h2 := auth_len t
  have h3 := hp_len (findF hostL fs).1
  unfold ofS
  split
  · exact Nat.zero_le _
  · split
    · exact Nat.zero_le _
    · split
      · exact Nat.zero_le _
      · split
        · omega
        · split
          · exact Nat.zero_le _
          · omega
theorem findF_tx (nm : List UInt8) (fs : List (List UInt8 × List UInt8)) (B : Nat) (h : ∀ x ∈ fs, x.2.length ≤ B) : (findF nm fs).1.length ≤ B := by
  induction fs with
  | nil => exact Nat.zero_le _
  | cons x r ih =>
    rw [findF]
    split
    · exact h x List.mem_cons_self
    · exact ih fun y hy => h y (List.mem_cons_of_mem _ hy)
end Go.Proofs.YtgjmaifgkgejgaaGreatDoor.L
