/- What is put is read as it was: plain laws. -/
import Derived.Test.YtdmcmfjhlpnaeaaPv
set_option linter.unusedVariables false
set_option linter.unusedSimpArgs false
namespace Go.Proofs.Ytdmcmfjhlpnaeaa.L

theorem rtake_app (x rest : List UInt8) (n : Int) (hn : n = (x.length : Int)) : rtake (x ++ rest, false) n = (x, (rest, false)) := by
  subst hn
  unfold rtake
  rw [if_neg (by simp; omega)]
  simp
theorem rtake_short (x : List UInt8) (n : Int) (h : (x.length : Int) < n) : rtake (x, false) n = ([], ([], true)) := by
  unfold rtake
  rw [if_pos (.inr (.inr h))]
theorem beNum_be (n : Int) (s : Nat) : (beNum (be n s) : Int) = n % 256 ^ s := by
  induction s generalizing n with
  | zero => simp [be, beNum]
  | succ s ih =>
    have h1 : be n (s + 1) = be (n / 256) s ++ [toU8 n] := rfl
    rw [h1, beNum_snoc]
    have h2 := ih (n / 256)
    have h3 := toU8_nat n
    have hp : (0 : Int) < 256 ^ s := Int.pow_pos (by decide)
    have h4 : n % 256 ^ (s + 1) = (n / 256) % 256 ^ s * 256 + n % 256 := by
      rw [Int.pow_succ, Int.mul_comm (256 ^ s) 256]
      have e1 := Int.mul_ediv_add_emod n 256
      have e2 := Int.mul_ediv_add_emod (n / 256) (256 ^ s)
      have hb1 := Int.emod_nonneg (n / 256) (Int.ne_of_gt hp)
      have hb2 := Int.emod_lt_of_pos (n / 256) hp
      have hb3 := Int.emod_nonneg n (show (256 : Int) ≠ 0 by decide)
      have hb4 := Int.emod_lt_of_pos n (show (0 : Int) < 256 by decide)
      generalize hq : n / 256 / 256 ^ s = q at *
      generalize hr : n / 256 % 256 ^ s = r at *
      generalize hm : n % 256 = m at *
      have e3 : n = (r * 256 + m) + 256 * 256 ^ s * q := by
        rw [← e1, ← e2, Int.mul_add, Int.mul_comm r 256, Int.mul_assoc]
        omega
      rw [e3, Int.add_mul_emod_self_left]
      exact Int.emod_eq_of_lt (by omega) (by omega)
    rw [h4, ← h2, ← h3]
    simp
theorem rnum_be (n : Nat) (k : Int) (rest : List UInt8) (h : n < 256 ^ clampN k) : rnum (be n (clampN k) ++ rest, false) k = ((n : Int), (rest, false)) := by
  unfold rnum
  rw [rtake_app _ _ _ (by rw [be_len])]
  simp only
  rw [beNum_be, Int.emod_eq_of_lt (by omega) (by have h1 := Int.ofNat_lt.2 h; rw [Int.natCast_pow] at h1; exact h1)]
theorem rvec_be (x rest : List UInt8) (k : Int) (h : x.length < 256 ^ clampN k) : rvec (be x.length (clampN k) ++ x ++ rest, false) k = (x, (rest, false)) := by
  unfold rvec
  rw [List.append_assoc, rnum_be _ _ _ h]
  simp only
  rw [if_neg (by decide), rtake_app _ _ _ rfl]
theorem rvec_cut (x : List UInt8) (k : Int) (h : x.length < 256 ^ clampN k) (cut : Nat) (hc : cut < clampN k + x.length) : (rvec ((be x.length (clampN k) ++ x).take cut, false) k).2.2 = true := by
  by_cases h1 : cut < clampN k
  · have : rnum ((be x.length (clampN k) ++ x).take cut, false) k = (((beNum ([] : List UInt8) : Nat) : Int), ([], true)) := by
      unfold rnum
      rw [rtake_short _ _ (by simp [be_len]; omega)]
    unfold rvec
    rw [this]
    rfl
  · have e : (be x.length (clampN k) ++ x).take cut = be x.length (clampN k) ++ x.take (cut - clampN k) := by
      rw [List.take_append, be_len, List.take_of_length_le (by rw [be_len]; omega)]
    unfold rvec
    rw [e, rnum_be _ _ _ h]
    simp only
    rw [if_neg (by decide), rtake_short _ _ (by simp; omega)]

theorem be1 (n : Int) : be n 1 = [toU8 n] := rfl
theorem be2 (n : Int) : be n 2 = [toU8 (n / 256), toU8 n] := rfl

/-! ### names -/
theorem nameS_put (s : ByteArray) (hm : mayB s.data.toList = true) : nameS (putNmS s).1 = (s, 0) := by
  have hsz := may_size hm
  have hp : (putNmS s).1 = be ((s.size + 3 : Nat) : Int) 2 ++ ((0 : UInt8) :: (be (s.size : Nat) 2 ++ s.data.toList)) := by unfold putNmS; rw [if_pos hm]
  obtain ⟨X, hX⟩ : ∃ X : List UInt8, X = (0 : UInt8) :: (be (s.size : Nat) 2 ++ s.data.toList) := ⟨_, rfl⟩
  have hXl : X.length = s.size + 3 := by rw [hX]; simp [be_len]; omega
  rw [← hX, ← hXl] at hp
  have hv : rvec ((putNmS s).1, false) 2 = (X, ([], false)) := by
    rw [hp]
    have := rvec_be X [] 2 (by rw [hXl]; simp [clampN]; omega)
    rw [List.append_nil] at this
    exact this
  have h1 : oneE (X, false) = ((0, s.data.toList), ([], false)) := by
    have e1 : rnum (X, false) 1 = (0, (be (s.size : Nat) 2 ++ s.data.toList, false)) := by
      rw [hX]
      exact rnum_be 0 1 _ (by simp [clampN])
    have e2 : rvec (be (s.size : Nat) 2 ++ s.data.toList, false) 2 = (s.data.toList, ([], false)) := by
      have := rvec_be s.data.toList [] 2 (by simp [clampN]; omega)
      rw [List.append_nil, bytes_len] at this
      exact this
    unfold oneE
    rw [e1]
    simp only
    rw [e2]
  have h2 : many oneE X.length (X, false) = ([(0, s.data.toList)], ([], false)) := by
    rw [hXl, many_cons _ _ _ (by simp [hXl]), h1]
    simp only
    rw [many_nil _ _ _ rfl]
  have hw : walkS oneE (putNmS s).1 = ([(0, s.data.toList)], true) := by
    unfold walkS
    rw [hv]
    simp only
    rw [if_pos ⟨by trivial, by trivial, by rw [hXl]; omega⟩, h2]
    rfl
  unfold nameS
  rw [hw, if_pos rfl]
  have : namesS [((0 : Int), s.data.toList)] = [s] := by simp [namesS, strB_toList]
  simp only
  rw [this]
  simp [pickS, hm]

/-! ### protocols -/
theorem oneS_put (s : ByteArray) (rest : List UInt8) (h : s.size ≤ 255) : oneS (be (s.size : Nat) 1 ++ s.data.toList ++ rest, false) = (s, (rest, false)) := by
  have := rvec_be s.data.toList rest 1 (by simp [clampN]; omega)
  rw [bytes_len] at this
  unfold oneS
  have e : (be (s.size : Nat) 1 ++ s.data.toList ++ rest) = (be (s.size : Nat) (clampN 1) ++ s.data.toList ++ rest) := rfl
  rw [e, this]
  simp [strB_toList]
theorem flatP_cons (s : ByteArray) (l : List ByteArray) : flatP (s :: l) = be (s.size : Nat) 1 ++ s.data.toList ++ flatP l := by simp [flatP]
theorem fitP_cons (s : ByteArray) (l : List ByteArray) : fitP (s :: l) = true ↔ (0 < s.size ∧ s.size ≤ 255) ∧ fitP l = true := by simp [fitP]
theorem many_put (l : List ByteArray) (n : Nat) (hn : (flatP l).length ≤ n) (h : fitP l = true) : many oneS n (flatP l, false) = (l, ([], false)) := by
  induction l generalizing n with
  | nil => exact many_nil _ _ _ rfl
  | cons s l ih =>
    obtain ⟨⟨h1, h2⟩, h3⟩ := (fitP_cons s l).1 h
    have hl : (flatP (s :: l)).length = 1 + s.size + (flatP l).length := by rw [flatP_cons]; simp [be_len]; omega
    obtain ⟨m, rfl⟩ : ∃ m, n = m + 1 := ⟨n - 1, by omega⟩
    rw [many_cons _ _ _ (by simp only; omega)]
    have h4 : oneS (flatP (s :: l), false) = (s, (flatP l, false)) := by rw [flatP_cons]; exact oneS_put _ _ h2
    rw [h4]
    simp only
    rw [ih m (by omega) h3]
theorem flatP_pos (l : List ByteArray) (h : 0 < l.length) : 0 < (flatP l).length := by
  cases l with
  | nil => simp at h
  | cons s l => rw [flatP_cons]; simp [be_len]; omega
theorem hasE_fit (l : List ByteArray) (h : fitP l = true) : hasE l = false := by
  unfold hasE
  rw [List.any_eq_false]
  intro s hs
  unfold fitP at h
  rw [List.all_eq_true] at h
  have := h s hs
  simp only [Bool.and_eq_true, decide_eq_true_eq] at this
  rw [beq_iff_eq]
  omega

/-- What is put, where it is put. -/
theorem putPr_yes (l : List ByteArray) (h : (putPrS l).2 = true) : 0 < l.length ∧ fitP l = true ∧ (flatP l).length ≤ 65535 ∧ (putPrS l).1 = be ((flatP l).length : Nat) 2 ++ flatP l := by
  unfold putPrS at h ⊢
  split at h
  · rename_i hc
    rw [if_pos hc]
    exact ⟨hc.1, hc.2.1, hc.2.2, rfl⟩
  · cases h
theorem putPr_no (l : List ByteArray) (h : (putPrS l).2 = false) : (putPrS l).1 = [] := by
  unfold putPrS at h ⊢
  split at h
  · cases h
  · rename_i hc
    rw [if_neg hc]
theorem rvec_putPr (l : List ByteArray) (h : (putPrS l).2 = true) (rest : List UInt8) : rvec ((putPrS l).1 ++ rest, false) 2 = (flatP l, (rest, false)) := by
  obtain ⟨h1, h2, h3, h4⟩ := putPr_yes l h
  rw [h4]
  exact rvec_be (flatP l) rest 2 (by simp [clampN]; omega)
theorem protS_put (l : List ByteArray) (h : (putPrS l).2 = true) : protS (putPrS l).1 = (l, 0) := by
  obtain ⟨h1, h2, h3, h4⟩ := putPr_yes l h
  have hv := rvec_putPr l h []
  rw [List.append_nil] at hv
  have hp := flatP_pos l h1
  have hm := many_put l (flatP l).length (Nat.le_refl _) h2
  exact protS_good _ _ _ l hv ⟨rfl, rfl, by omega⟩ (by rw [hm]) (by rw [hm]) (hasE_fit l h2)
theorem protS_more (l : List ByteArray) (h : (putPrS l).2 = true) (more : List UInt8) (hm : 0 < more.length) : protS ((putPrS l).1 ++ more) = ([], 3) :=
  protS_bad _ _ _ (rvec_putPr l h more) (fun hc => by have := hc.2.1; simp only at this; omega)
theorem protS_cut (l : List ByteArray) (h : (putPrS l).2 = true) (cut : Nat) (hc : cut < (putPrS l).1.length) : protS ((putPrS l).1.take cut) = ([], 3) := by
  obtain ⟨h1, h2, h3, h4⟩ := putPr_yes l h
  rw [h4] at hc ⊢
  rw [List.length_append, be_len] at hc
  have hb := rvec_cut (flatP l) 2 (by simp [clampN]; omega) cut (by simp [clampN]; omega)
  rw [show clampN 2 = 2 from rfl] at hb
  obtain ⟨a, s1, hv⟩ : ∃ a s1, rvec ((be ((flatP l).length : Nat) 2 ++ flatP l).take cut, false) 2 = (a, s1) := ⟨_, _, rfl⟩
  rw [hv] at hb
  exact protS_bad _ _ _ hv (fun hx => by rw [show s1.2 = true from hb] at hx; cases hx.1)

/-! ### versions -/
theorem putVs_yes (l : List Int) (h : (putVsS l).2 = true) : 0 < l.length ∧ l.length ≤ 127 ∧ fitV l = true ∧ (putVsS l).1 = be ((flatN l).length : Nat) 1 ++ flatN l := by
  unfold putVsS at h ⊢
  split at h
  · rename_i hc
    rw [if_pos hc]
    exact ⟨hc.1, hc.2.1, hc.2.2, by rw [flatN_len, be1]; rfl⟩
  · cases h
theorem putVs_no (l : List Int) (h : (putVsS l).2 = false) : (putVsS l).1 = [] := by
  unfold putVsS at h ⊢
  split at h
  · cases h
  · rename_i hc
    rw [if_neg hc]
theorem twos_put (l : List Int) (h : fitV l = true) : twos (flatN l) = l := by
  induction l with
  | nil => rfl
  | cons n l ih =>
    have h1 : (0 ≤ n ∧ n ≤ 65535) ∧ fitV l = true := by simpa [fitV] using h
    have e : flatN (n :: l) = toU8 (n / 256) :: toU8 n :: flatN l := by simp [flatN, be2]
    rw [e, twos, ih h1.2]
    congr 1
    have h2 := toU8_nat (n / 256)
    have h3 := toU8_nat n
    omega
theorem rvec_putVs (l : List Int) (h : (putVsS l).2 = true) (rest : List UInt8) : rvec ((putVsS l).1 ++ rest, false) 1 = (flatN l, (rest, false)) := by
  obtain ⟨h1, h2, h3, h4⟩ := putVs_yes l h
  rw [h4]
  exact rvec_be (flatN l) rest 1 (by rw [flatN_len]; simp [clampN]; omega)
theorem versS_put (l : List Int) (h : (putVsS l).2 = true) : versS (putVsS l).1 = (l, 0) := by
  obtain ⟨h1, h2, h3, h4⟩ := putVs_yes l h
  have hv := rvec_putVs l h []
  rw [List.append_nil] at hv
  rw [versS_good _ _ _ hv ⟨rfl, rfl, by rw [flatN_len]; omega, by rw [flatN_len]; omega⟩, twos_put l h3]
theorem versS_more (l : List Int) (h : (putVsS l).2 = true) (more : List UInt8) (hm : 0 < more.length) : versS ((putVsS l).1 ++ more) = ([], 3) :=
  versS_bad _ _ _ (rvec_putVs l h more) (fun hc => by have := hc.2.1; simp only at this; omega)
theorem versS_cut (l : List Int) (h : (putVsS l).2 = true) (cut : Nat) (hc : cut < (putVsS l).1.length) : versS ((putVsS l).1.take cut) = ([], 3) := by
  obtain ⟨h1, h2, h3, h4⟩ := putVs_yes l h
  rw [h4] at hc ⊢
  rw [List.length_append, be_len] at hc
  have hb := rvec_cut (flatN l) 1 (by rw [flatN_len]; simp [clampN]; omega) cut (by simp [clampN]; omega)
  rw [show clampN 1 = 1 from rfl] at hb
  obtain ⟨a, s1, hv⟩ : ∃ a s1, rvec ((be ((flatN l).length : Nat) 1 ++ flatN l).take cut, false) 1 = (a, s1) := ⟨_, _, rfl⟩
  rw [hv] at hb
  exact versS_bad _ _ _ hv (fun hx => by rw [show s1.2 = true from hb] at hx; cases hx.1)
end Go.Proofs.Ytdmcmfjhlpnaeaa.L
