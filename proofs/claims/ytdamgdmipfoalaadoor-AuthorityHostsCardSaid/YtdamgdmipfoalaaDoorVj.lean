/- Layer 13: a host and a port: Parse, Print, Of. -/
import Derived.Test.YtdamgdmipfoalaaDoorVi
set_option linter.unusedVariables false
set_option linter.unusedSimpArgs false
namespace Go.Proofs.YtdamgdmipfoalaaDoor.L
open Go.RowKit Go.Proofs

def HpP (w : World) (r : List UInt8 × Int × Int) (e : Ending) (w' : World) : Prop := e = .returned (.tuple #[.string (strB r.1), .int .i64 r.2.1, .int .i64 r.2.2]) ∧ Stp (fun _ => False) w w'
theorem split_len (l : List UInt8) : (splitH l).2.1.length ≤ l.length := by
  unfold splitH
  have hu : ∀ (c : UInt8) (k : List UInt8), (untilC c k).2.length ≤ k.length := fun c k => by
    rcases untilC_cases c k with ⟨h, e⟩ | ⟨a, b, rfl, h, e⟩
    · rw [e]; simp
    · rw [e]; simp
  split
  · simp
  · split
    · simp
    · split
      · exact hu 58 l
      · split
        · split
          · simp
          · have := hu 93 (l.drop 1)
            simp at this ⊢
            omega
        · simp

set_option maxRecDepth 100000 in
set_option maxHeartbeats 4000000 in
theorem hparse_any (s : ByteArray) (w : World) (hs : s.size < 4294967280) (he : EnvP w) : Calls Tryd.prog 9 #[.string s] w (HpP w (hpS s.data.toList)) := by
  obtain ⟨R, hR⟩ : ∃ R, R = HpP w (hpS s.data.toList) := ⟨_, rfl⟩
  rw [← hR]
  have HR := Lib.hid hR
  have hsl := size_list s
  have cs := fun W hW => split_any s W hs hW
  have hlen := split_len s.data.toList
  obtain ⟨H, hH⟩ : ∃ H, H = (splitH s.data.toList).1 := ⟨_, rfl⟩
  obtain ⟨r, hr⟩ : ∃ r, r = (splitH s.data.toList).2.1 := ⟨_, rfl⟩
  obtain ⟨q, hq⟩ : ∃ q, q = (splitH s.data.toList).2.2 := ⟨_, rfl⟩
  unfold SplP at cs
  rw [← hr] at hlen
  simp only [← hH, ← hr, ← hq] at cs
  have HD : Hid (hpS s.data.toList = if q ≠ 0 then ([], 0, q) else tailH H r) := Lib.hid (by unfold hpS; rw [← hH, ← hr, ← hq])
  obtain ⟨hb, hhb⟩ : ∃ hb, hb = strB H := ⟨_, rfl⟩
  obtain ⟨rb, hrb⟩ : ∃ rb, rb = strB r := ⟨_, rfl⟩
  have hrd : rb.data.toList = r := by rw [hrb]; simp [strB]
  have hrs : rb.size < 4294967280 := by rw [hrb, strB_size]; omega
  simp only [← hhb, ← hrb] at cs
  have HHB := Lib.hid hhb
  clear hR hH hr hq hhb hrb
  by_cases hq0 : q = 0
  · have hqq : (q != 0) = false := by rw [hq0]; rfl
    have HT : Hid (hpS s.data.toList = tailH H r) := Lib.hid (by rw [HD.out, if_neg (fun h => h hq0)])
    clear hq0 HD
    by_cases hr0 : r = []
    · have ht : (rb.toList == []) = true := by rw [list_eqb, hrd]; simp [hr0]
      have HD : Hid (hpS s.data.toList = (H, 0, 0)) := Lib.hid (by rw [HT.out]; unfold tailH; rw [if_pos hr0])
      clear hr0 hrd
      go_enter Tryd.func9, Tryd.ntmps9
      go_wp2_with (go_at_call 16; refine stopc ?_)
      refine Stop.go ?_
      refine (cs _ he).mono ?_
      rintro e w1 ⟨rfl, hs1⟩
      have HS1 := Lib.hid hs1
      clear hs1
      go_wp2
      go_ret3
      rw [HR.out, HD.out, HHB.out]
      exact ⟨rfl, HS1.out⟩
    · have ht : (rb.toList == []) = false := by rw [list_eqb, hrd]; simp [hr0]
      have cp := fun W => hasp_call rb 58 W
      rw [hrd] at cp
      by_cases h58 : r[0]? = some 58
      · rw [decide_eq_true h58] at cp
        have hp1 : 1 ≤ rb.size := len_pos rb 58 (by rw [hrd]; exact h58)
        have hp2 : (1 : Int) ≤ (rb.size : Int) := by omega
        obtain ⟨t, htt⟩ : ∃ t, t = strB (r.drop 1) := ⟨_, rfl⟩
        have hx : rb.extract 1 rb.size = t := by rw [htt, ext_from, hrd]
        have htd : t.data.toList = r.drop 1 := by rw [htt]; simp [strB]
        have hts : t.size ≤ rb.size := by rw [htt, strB_size, List.length_drop, ← hrd, size_list]; omega
        have cn := fun W => number_any t 65535 W (by omega)
        rw [htd] at cn
        unfold NumRet at cn
        have HX := Lib.hid hx
        have HD : Hid (hpS s.data.toList = if (numS (r.drop 1) 65535).2 = false ∨ (numS (r.drop 1) 65535).1 = 0 then ([], 0, 10) else (H, (numS (r.drop 1) 65535).1, 0)) := Lib.hid (by rw [HT.out]; unfold tailH; rw [if_neg hr0, if_neg (fun h => h h58)])
        obtain ⟨n, hn⟩ : ∃ n, n = (numS (r.drop 1) 65535).1 := ⟨_, rfl⟩
        obtain ⟨ok, hok⟩ : ∃ ok, ok = (numS (r.drop 1) 65535).2 := ⟨_, rfl⟩
        rw [← hn, ← hok] at HD
        simp only [← hn, ← hok] at cn
        clear hr0 h58 hp1 htt htd hx hn hok HT hrd hts
        have key : ∀ (w1 : World) (R' : Prop), R' → R' := fun _ _ h => h
        cases ok with
        | false =>
          have HDD : Hid (hpS s.data.toList = ([], 0, 10)) := Lib.hid (by rw [HD.out, if_pos (Or.inl rfl)])
          clear HD key
          go_enter Tryd.func9, Tryd.ntmps9
          go_wp2_with (go_at_call 16; refine stopc ?_)
          refine Stop.go ?_
          refine (cs _ he).mono ?_
          rintro e w1 ⟨rfl, hs1⟩
          have HS1 := Lib.hid hs1
          clear hs1
          go_wp2_with (go_at_call 17; refine stopc ?_)
          refine Stop.go ?_
          refine (cp _).mono ?_
          rintro e w2 ⟨rfl, rfl⟩
          go_wp2_with (go_at_call 18; refine stopc ?_)
          refine Stop.go ?_
          rw [HX.out]
          refine (cn _).mono ?_
          rintro e w3 ⟨rfl, hs3⟩
          have HS3 := Lib.hid (HS1.out.trans hs3)
          clear hs3
          go_wp2
          go_ret3
          rw [HR.out, HDD.out]
          exact ⟨rfl, HS3.out⟩
        | true =>
          by_cases hn0 : n = 0
          · have hnn : (n == 0) = true := by rw [hn0]; rfl
            have HDD : Hid (hpS s.data.toList = ([], 0, 10)) := Lib.hid (by rw [HD.out, if_pos (Or.inr hn0)])
            clear HD key hn0
            go_enter Tryd.func9, Tryd.ntmps9
            go_wp2_with (go_at_call 16; refine stopc ?_)
            refine Stop.go ?_
            refine (cs _ he).mono ?_
            rintro e w1 ⟨rfl, hs1⟩
            have HS1 := Lib.hid hs1
            clear hs1
            go_wp2_with (go_at_call 17; refine stopc ?_)
            refine Stop.go ?_
            refine (cp _).mono ?_
            rintro e w2 ⟨rfl, rfl⟩
            go_wp2_with (go_at_call 18; refine stopc ?_)
            refine Stop.go ?_
            rw [HX.out]
            refine (cn _).mono ?_
            rintro e w3 ⟨rfl, hs3⟩
            have HS3 := Lib.hid (HS1.out.trans hs3)
            clear hs3
            go_wp2
            go_ret3
            rw [HR.out, HDD.out]
            exact ⟨rfl, HS3.out⟩
          · have hnn : (n == 0) = false := by simpa using hn0
            have HDD : Hid (hpS s.data.toList = (H, n, 0)) := Lib.hid (by rw [HD.out, if_neg (by rw [not_or]; exact ⟨by decide, hn0⟩)])
            clear HD key hn0
            go_enter Tryd.func9, Tryd.ntmps9
            go_wp2_with (go_at_call 16; refine stopc ?_)
            refine Stop.go ?_
            refine (cs _ he).mono ?_
            rintro e w1 ⟨rfl, hs1⟩
            have HS1 := Lib.hid hs1
            clear hs1
            go_wp2_with (go_at_call 17; refine stopc ?_)
            refine Stop.go ?_
            refine (cp _).mono ?_
            rintro e w2 ⟨rfl, rfl⟩
            go_wp2_with (go_at_call 18; refine stopc ?_)
            refine Stop.go ?_
            rw [HX.out]
            refine (cn _).mono ?_
            rintro e w3 ⟨rfl, hs3⟩
            have HS3 := Lib.hid (HS1.out.trans hs3)
            clear hs3
            go_wp2
            go_ret3
            rw [HR.out, HDD.out, HHB.out]
            exact ⟨rfl, HS3.out⟩
      · rw [decide_eq_false h58] at cp
        have HD : Hid (hpS s.data.toList = ([], 0, 3)) := Lib.hid (by rw [HT.out]; unfold tailH; rw [if_neg hr0, if_pos h58])
        clear hr0 h58 hrd
        go_enter Tryd.func9, Tryd.ntmps9
        go_wp2_with (go_at_call 16; refine stopc ?_)
        refine Stop.go ?_
        refine (cs _ he).mono ?_
        rintro e w1 ⟨rfl, hs1⟩
        have HS1 := Lib.hid hs1
        clear hs1
        go_wp2_with (go_at_call 17; refine stopc ?_)
        refine Stop.go ?_
        refine (cp _).mono ?_
        rintro e w2 ⟨rfl, rfl⟩
        go_wp2
        go_ret3
        rw [HR.out, HD.out]
        exact ⟨rfl, HS1.out⟩
  · have hqq : (q != 0) = true := by simpa using hq0
    have HDD : Hid (hpS s.data.toList = ([], 0, q)) := Lib.hid (by rw [HD.out, if_pos hq0])
    clear hq0 HD hrd
    go_enter Tryd.func9, Tryd.ntmps9
    go_wp2_with (go_at_call 16; refine stopc ?_)
    refine Stop.go ?_
    refine (cs _ he).mono ?_
    rintro e w1 ⟨rfl, hs1⟩
    have HS1 := Lib.hid hs1
    clear hs1
    go_wp2
    go_ret3
    rw [HR.out, HDD.out]
    exact ⟨rfl, HS1.out⟩

theorem strB_one (c : UInt8) : (⟨#[c]⟩ : ByteArray) = strB [c] := rfl
theorem itoa_len (n : Int) (h0 : -9223372036854775808 ≤ n) (h1 : n ≤ 9223372036854775807) : (Lib.itoa n).length ≤ 21 := by
  rcases Int.lt_or_le n 0 with h | h
  · obtain ⟨m, rfl⟩ : ∃ m : Nat, n = -(m : Int) := ⟨n.natAbs, by omega⟩
    rw [Lib.itoa_neg m (by omega), List.length_cons, Lib.decDigits_length]
    have := Lib.nDigits_le20 m (by omega)
    omega
  · obtain ⟨m, rfl⟩ : ∃ m : Nat, n = (m : Int) := ⟨n.natAbs, by omega⟩
    rw [Lib.itoa_nonneg, Lib.decDigits_length]
    have := Lib.nDigits_le20 m (by omega)
    omega
/-- How it is printed, step by step. -/
theorem line_eq (h : ByteArray) (p : Int) (F : ByteArray) (hF : F = if (58 : UInt8) ∈ h.data.toList then (⟨#[91]⟩ ++ h ++ ⟨#[93]⟩ : ByteArray) else h) :
    strB (lineH h.data.toList p) = if p = 0 then F else F ++ (⟨#[58]⟩ ++ strB (Lib.itoa p)) := by
  have hf : F = strB (formH h.data.toList) := by
    rw [hF]
    unfold formH
    split
    · rw [strB_one, strB_one, ← sB_self h, strB_append, strB_append]
      simp [strB]
    · exact (sB_self h).symm
  unfold lineH portT
  split
  · rw [List.append_nil, hf]
  · rw [hf, strB_one, strB_append, strB_append]
    rfl

set_option maxRecDepth 100000 in
set_option maxHeartbeats 4000000 in
theorem hprint_any (h : ByteArray) (p : Int) (w : World) (hs : h.size ≤ 2147483648) (hp0 : -9223372036854775808 ≤ p) (hp1 : p ≤ 9223372036854775807) (he : EnvP w) :
    Calls Tryd.prog 8 #[.string h, .int .i64 p] w (StrB2 w (printH3 h.data.toList p)) := by
  obtain ⟨R, hR⟩ : ∃ R, R = StrB2 w (printH3 h.data.toList p) := ⟨_, rfl⟩
  rw [← hR]
  have HR := Lib.hid hR
  have HE := Lib.hid he
  have cc := fun W => has_call h 58 W
  obtain ⟨F, hF⟩ : ∃ F, F = if (58 : UInt8) ∈ h.data.toList then (⟨#[91]⟩ ++ h ++ ⟨#[93]⟩ : ByteArray) else h := ⟨_, rfl⟩
  have hle := line_eq h p F hF
  obtain ⟨T, hT⟩ : ∃ T, T = strB (lineH h.data.toList p) := ⟨_, rfl⟩
  have hTd : T.data.toList = lineH h.data.toList p := by rw [hT]; simp [strB]
  have hFs : F.size ≤ h.size + 2 := by
    rw [hF]
    split
    · simp
      have : (⟨#[91]⟩ : ByteArray).size = 1 := rfl
      have : (⟨#[93]⟩ : ByteArray).size = 1 := rfl
      omega
    · omega
  have hit := itoa_len p hp0 hp1
  have hIs : (strB (Lib.itoa p)).size ≤ 21 := by rw [strB_size]; exact hit
  have hTs : T.size < 4294967280 := by
    rw [hT, hle]
    split
    · omega
    · simp
      have : (⟨#[58]⟩ : ByteArray).size = 1 := rfl
      omega
  have cA := fun W hW => hparse_any T W hTs hW
  rw [hTd] at cA
  have ci := fun W hW => itoa_any p hp0 hp1 W hW
  obtain ⟨I, hI⟩ : ∃ I, I = strB (Lib.itoa p) := ⟨_, rfl⟩
  simp only [← hI] at ci hle hIs
  unfold HpP at cA
  have HP3 : Hid (printH3 h.data.toList p = if hpS (lineH h.data.toList p) = (h.data.toList, p, 0) then (lineH h.data.toList p, true) else ([], false)) := Lib.hid rfl
  obtain ⟨q, hq⟩ : ∃ q, q = hpS (lineH h.data.toList p) := ⟨_, rfl⟩
  rw [← hq] at cA HP3
  obtain ⟨a, b, c⟩ := q
  simp only at cA
  obtain ⟨A, hA⟩ : ∃ A, A = strB a := ⟨_, rfl⟩
  simp only [← hA] at cA
  have hAd : A.data.toList = a := by rw [hA]; simp [strB]
  have HOK : Hid (printH3 h.data.toList p = if c = 0 ∧ A.data.toList = h.data.toList ∧ b = p then (T.data.toList, true) else ([], false)) := Lib.hid (by
    rw [HP3.out, hTd, hAd]
    by_cases hh : c = 0 ∧ a = h.data.toList ∧ b = p
    · rw [if_pos hh, hh.1, hh.2.1, hh.2.2, if_pos rfl]
    · rw [if_neg hh, if_neg (fun e => hh (by injection e with e1 e2; injection e2 with e2 e3; exact ⟨e3, e1, e2⟩))])
  rw [← hT] at hle
  have HTL : Hid (strB T.data.toList = T) := Lib.hid (sB_self T)
  have s1 : ¬ 9223372036854775807 < 1 + h.size := by omega
  have s2 : ¬ 9223372036854775807 < 1 + h.size + 1 := by omega
  have s3 : ¬ 9223372036854775807 < 1 + I.size := by omega
  have s4 : ¬ 9223372036854775807 < F.size + (1 + I.size) := by omega
  clear hR he hT hTd hFs hit hIs hI hq hA hAd HP3
  by_cases hm : (58 : UInt8) ∈ h.data.toList
  · rw [decide_eq_true hm] at cc
    rw [if_pos hm] at hF
    clear hm
    by_cases hp : p = 0
    · rw [if_pos hp] at hle
      have hpp : (p != 0) = false := by rw [hp]; rfl
      subst hle
      have hx1 := hF.symm
      clear hp hF
      go_enter Tryd.func8, Tryd.ntmps8
      go_wp2_with (go_at_call 14; refine stopc ?_)
      refine Stop.go ?_
      refine (cc _).mono ?_
      rintro e w1 ⟨rfl, rfl⟩
      have HS := Lib.hid (Stp.refl (fun _ => False) w1)
      go_wp2_with (go_at_call 9; refine stopc ?_)
      refine Stop.go ?_
      refine (cA _ (HE.out.step HS.out)).mono ?_
      rintro e w3 ⟨rfl, hs3⟩
      have HS3 := Lib.hid (HS.out.trans hs3)
      clear hs3 HS
      by_cases c0 : c = 0
      · have cc0 : (c != 0) = false := by rw [c0]; rfl
        by_cases a0 : A.data.toList = h.data.toList
        · have aa0 : (A.toList == h.toList) = true := by rw [ByteArray.toList_eq, ByteArray.toList_eq]; simp [a0]
          have aa1 : (A.toList != h.toList) = false := by rw [bne, aa0]; rfl
          by_cases b0 : b = p
          · have bb0 : (b != p) = false := by rw [b0]; simp
            have HX := Lib.hid (HOK.out.trans (if_pos ⟨c0, a0, b0⟩))
            clear c0 a0 b0
            go_wp2
            rw [HR.out, HX.out]
            exact ⟨by simp only [HTL.out]; rfl, HS3.out⟩
          · have bb0 : (b != p) = true := by simpa using b0
            have HX : Hid (printH3 h.data.toList p = ([], false)) := Lib.hid (by rw [HOK.out, if_neg (fun e => b0 e.2.2)])
            clear c0 a0 b0
            go_wp2
            rw [HR.out, HX.out]
            exact ⟨rfl, HS3.out⟩
        · have aa0 : (A.toList == h.toList) = false := by rw [ByteArray.toList_eq, ByteArray.toList_eq]; simpa using a0
          have aa1 : (A.toList != h.toList) = true := by rw [bne, aa0]; rfl
          have HX : Hid (printH3 h.data.toList p = ([], false)) := Lib.hid (by rw [HOK.out, if_neg (fun e => a0 e.2.1)])
          clear c0 a0
          go_wp2
          rw [HR.out, HX.out]
          exact ⟨rfl, HS3.out⟩
      · have cc0 : (c != 0) = true := by simpa using c0
        have HX : Hid (printH3 h.data.toList p = ([], false)) := Lib.hid (by rw [HOK.out, if_neg (fun e => c0 e.1)])
        clear c0
        go_wp2
        rw [HR.out, HX.out]
        exact ⟨rfl, HS3.out⟩
    · rw [if_neg hp] at hle
      have hpp : (p != 0) = true := by simpa using hp
      have hx1 := hF.symm
      have hx2 := hle.symm
      clear hp hF hle
      go_enter Tryd.func8, Tryd.ntmps8
      go_wp2_with (go_at_call 14; refine stopc ?_)
      refine Stop.go ?_
      refine (cc _).mono ?_
      rintro e w1 ⟨rfl, rfl⟩
      go_wp2_with (go_at_call 15; refine stopc ?_)
      refine Stop.go ?_
      refine (ci _ HE.out.2.2.2).mono ?_
      rintro e w2 ⟨rfl, hs2⟩
      have HS := Lib.hid hs2
      clear hs2
      go_wp2_with (go_at_call 9; refine stopc ?_)
      refine Stop.go ?_
      refine (cA _ (HE.out.step HS.out)).mono ?_
      rintro e w3 ⟨rfl, hs3⟩
      have HS3 := Lib.hid (HS.out.trans hs3)
      clear hs3 HS
      by_cases c0 : c = 0
      · have cc0 : (c != 0) = false := by rw [c0]; rfl
        by_cases a0 : A.data.toList = h.data.toList
        · have aa0 : (A.toList == h.toList) = true := by rw [ByteArray.toList_eq, ByteArray.toList_eq]; simp [a0]
          have aa1 : (A.toList != h.toList) = false := by rw [bne, aa0]; rfl
          by_cases b0 : b = p
          · have bb0 : (b != p) = false := by rw [b0]; simp
            have HX := Lib.hid (HOK.out.trans (if_pos ⟨c0, a0, b0⟩))
            clear c0 a0 b0
            go_wp2
            rw [HR.out, HX.out]
            exact ⟨by simp only [HTL.out]; rfl, HS3.out⟩
          · have bb0 : (b != p) = true := by simpa using b0
            have HX : Hid (printH3 h.data.toList p = ([], false)) := Lib.hid (by rw [HOK.out, if_neg (fun e => b0 e.2.2)])
            clear c0 a0 b0
            go_wp2
            rw [HR.out, HX.out]
            exact ⟨rfl, HS3.out⟩
        · have aa0 : (A.toList == h.toList) = false := by rw [ByteArray.toList_eq, ByteArray.toList_eq]; simpa using a0
          have aa1 : (A.toList != h.toList) = true := by rw [bne, aa0]; rfl
          have HX : Hid (printH3 h.data.toList p = ([], false)) := Lib.hid (by rw [HOK.out, if_neg (fun e => a0 e.2.1)])
          clear c0 a0
          go_wp2
          rw [HR.out, HX.out]
          exact ⟨rfl, HS3.out⟩
      · have cc0 : (c != 0) = true := by simpa using c0
        have HX : Hid (printH3 h.data.toList p = ([], false)) := Lib.hid (by rw [HOK.out, if_neg (fun e => c0 e.1)])
        clear c0
        go_wp2
        rw [HR.out, HX.out]
        exact ⟨rfl, HS3.out⟩
  · rw [decide_eq_false hm] at cc
    rw [if_neg hm] at hF
    have hF2 := hF.symm
    clear hF
    subst hF2
    clear hm
    by_cases hp : p = 0
    · rw [if_pos hp] at hle
      have hpp : (p != 0) = false := by rw [hp]; rfl
      have hle2 := hle.symm
      clear hle
      subst hle2
      clear hp
      go_enter Tryd.func8, Tryd.ntmps8
      go_wp2_with (go_at_call 14; refine stopc ?_)
      refine Stop.go ?_
      refine (cc _).mono ?_
      rintro e w1 ⟨rfl, rfl⟩
      have HS := Lib.hid (Stp.refl (fun _ => False) w1)
      go_wp2_with (go_at_call 9; refine stopc ?_)
      refine Stop.go ?_
      refine (cA _ (HE.out.step HS.out)).mono ?_
      rintro e w3 ⟨rfl, hs3⟩
      have HS3 := Lib.hid (HS.out.trans hs3)
      clear hs3 HS
      by_cases c0 : c = 0
      · have cc0 : (c != 0) = false := by rw [c0]; rfl
        by_cases a0 : A.data.toList = h.data.toList
        · have aa0 : (A.toList == h.toList) = true := by rw [ByteArray.toList_eq, ByteArray.toList_eq]; simp [a0]
          have aa1 : (A.toList != h.toList) = false := by rw [bne, aa0]; rfl
          by_cases b0 : b = p
          · have bb0 : (b != p) = false := by rw [b0]; simp
            have HX := Lib.hid (HOK.out.trans (if_pos ⟨c0, a0, b0⟩))
            clear c0 a0 b0
            go_wp2
            rw [HR.out, HX.out]
            exact ⟨by simp only [HTL.out]; rfl, HS3.out⟩
          · have bb0 : (b != p) = true := by simpa using b0
            have HX : Hid (printH3 h.data.toList p = ([], false)) := Lib.hid (by rw [HOK.out, if_neg (fun e => b0 e.2.2)])
            clear c0 a0 b0
            go_wp2
            rw [HR.out, HX.out]
            exact ⟨rfl, HS3.out⟩
        · have aa0 : (A.toList == h.toList) = false := by rw [ByteArray.toList_eq, ByteArray.toList_eq]; simpa using a0
          have aa1 : (A.toList != h.toList) = true := by rw [bne, aa0]; rfl
          have HX : Hid (printH3 h.data.toList p = ([], false)) := Lib.hid (by rw [HOK.out, if_neg (fun e => a0 e.2.1)])
          clear c0 a0
          go_wp2
          rw [HR.out, HX.out]
          exact ⟨rfl, HS3.out⟩
      · have cc0 : (c != 0) = true := by simpa using c0
        have HX : Hid (printH3 h.data.toList p = ([], false)) := Lib.hid (by rw [HOK.out, if_neg (fun e => c0 e.1)])
        clear c0
        go_wp2
        rw [HR.out, HX.out]
        exact ⟨rfl, HS3.out⟩
    · rw [if_neg hp] at hle
      have hpp : (p != 0) = true := by simpa using hp
      have hx2 := hle.symm
      clear hp hle
      go_enter Tryd.func8, Tryd.ntmps8
      go_wp2_with (go_at_call 14; refine stopc ?_)
      refine Stop.go ?_
      refine (cc _).mono ?_
      rintro e w1 ⟨rfl, rfl⟩
      go_wp2_with (go_at_call 15; refine stopc ?_)
      refine Stop.go ?_
      refine (ci _ HE.out.2.2.2).mono ?_
      rintro e w2 ⟨rfl, hs2⟩
      have HS := Lib.hid hs2
      clear hs2
      go_wp2_with (go_at_call 9; refine stopc ?_)
      refine Stop.go ?_
      refine (cA _ (HE.out.step HS.out)).mono ?_
      rintro e w3 ⟨rfl, hs3⟩
      have HS3 := Lib.hid (HS.out.trans hs3)
      clear hs3 HS
      by_cases c0 : c = 0
      · have cc0 : (c != 0) = false := by rw [c0]; rfl
        by_cases a0 : A.data.toList = h.data.toList
        · have aa0 : (A.toList == h.toList) = true := by rw [ByteArray.toList_eq, ByteArray.toList_eq]; simp [a0]
          have aa1 : (A.toList != h.toList) = false := by rw [bne, aa0]; rfl
          by_cases b0 : b = p
          · have bb0 : (b != p) = false := by rw [b0]; simp
            have HX := Lib.hid (HOK.out.trans (if_pos ⟨c0, a0, b0⟩))
            clear c0 a0 b0
            go_wp2
            rw [HR.out, HX.out]
            exact ⟨by simp only [HTL.out]; rfl, HS3.out⟩
          · have bb0 : (b != p) = true := by simpa using b0
            have HX : Hid (printH3 h.data.toList p = ([], false)) := Lib.hid (by rw [HOK.out, if_neg (fun e => b0 e.2.2)])
            clear c0 a0 b0
            go_wp2
            rw [HR.out, HX.out]
            exact ⟨rfl, HS3.out⟩
        · have aa0 : (A.toList == h.toList) = false := by rw [ByteArray.toList_eq, ByteArray.toList_eq]; simpa using a0
          have aa1 : (A.toList != h.toList) = true := by rw [bne, aa0]; rfl
          have HX : Hid (printH3 h.data.toList p = ([], false)) := Lib.hid (by rw [HOK.out, if_neg (fun e => a0 e.2.1)])
          clear c0 a0
          go_wp2
          rw [HR.out, HX.out]
          exact ⟨rfl, HS3.out⟩
      · have cc0 : (c != 0) = true := by simpa using c0
        have HX : Hid (printH3 h.data.toList p = ([], false)) := Lib.hid (by rw [HOK.out, if_neg (fun e => c0 e.1)])
        clear c0
        go_wp2
        rw [HR.out, HX.out]
        exact ⟨rfl, HS3.out⟩
end Go.Proofs.YtdamgdmipfoalaaDoor.L
