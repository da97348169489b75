/- What is laid is parsed as it was; what is parsed is laid as it was: plain laws. -/
import Derived.Test.YtdmcmfjhlpnaeaaHz
set_option linter.unusedVariables false
set_option linter.unusedSimpArgs false
namespace Go.Proofs.Ytdmcmfjhlpnaeaa.L

theorem be_beNum (l : List UInt8) : be (beNum l : Nat) l.length = l := by
  induction l using snoc_ind with
  | h0 => rfl
  | h1 l c ih =>
    rw [beNum_snoc, List.length_append, List.length_singleton]
    have hc := c.toNat_lt
    show be (((beNum l * 256 + c.toNat : Nat) : Int) / 256) l.length ++ [toU8 ((beNum l * 256 + c.toNat : Nat) : Int)] = _
    have e1 : (((beNum l * 256 + c.toNat : Nat) : Int) / 256) = (beNum l : Nat) := by omega
    have e2 : toU8 ((beNum l * 256 + c.toNat : Nat) : Int) = c := by
      apply UInt8.toNat_inj.1
      have := toU8_nat ((beNum l * 256 + c.toNat : Nat) : Int)
      omega
    rw [e1, e2, ih]
theorem rtake_good (s : RSt) (n : Int) (h : (rtake s n).2.2 = false) : s.2 = false ∧ s.1 = (rtake s n).1 ++ (rtake s n).2.1 ∧ ((rtake s n).1.length : Int) = n := by
  unfold rtake at h ⊢
  split
  · rename_i hc
    rw [if_pos hc] at h
    cases h
  · rename_i hc
    have h1 : s.2 = false := by
      cases e : s.2 with
      | false => rfl
      | true => exact absurd (.inl e) hc
    refine ⟨h1, (List.take_append_drop _ _).symm, ?_⟩
    have h2 : ¬ n < 0 := fun e => hc (.inr (.inl e))
    have h3 : ¬ (s.1.length : Int) < n := fun e => hc (.inr (.inr e))
    simp only [List.length_take]
    omega
theorem rnum_good (s : RSt) (k : Int) (h : (rnum s k).2.2 = false) : s.2 = false ∧ ∃ n : Nat, (rnum s k).1 = (n : Int) ∧ n < 256 ^ clampN k ∧ s.1 = be (n : Int) (clampN k) ++ (rnum s k).2.1 := by
  unfold rnum at h ⊢
  obtain ⟨h1, h2, h3⟩ := rtake_good s (clampN k : Nat) h
  have h4 : (rtake s (clampN k : Nat)).1.length = clampN k := by omega
  refine ⟨h1, _, rfl, ?_, ?_⟩
  · have := beNum_lt (rtake s (clampN k : Nat)).1
    rwa [h4] at this
  · have := be_beNum (rtake s (clampN k : Nat)).1
    rw [h4] at this
    rw [this]
    exact h2
theorem rvec_good (s : RSt) (k : Int) (h : (rvec s k).2.2 = false) : s.2 = false ∧ (rvec s k).1.length < 256 ^ clampN k ∧ s.1 = be ((rvec s k).1.length : Nat) (clampN k) ++ (rvec s k).1 ++ (rvec s k).2.1 := by
  unfold rvec at h ⊢
  split
  · rename_i hc
    rw [if_pos hc] at h
    rw [hc] at h
    cases h
  · rename_i hc
    rw [if_neg hc] at h
    obtain ⟨-, h2, h3⟩ := rtake_good _ _ h
    obtain ⟨h4, n, h5, h6, h7⟩ := rnum_good s k (by simpa using hc)
    rw [h5] at h2 h3 ⊢
    have h8 : (rtake (rnum s k).2 (n : Int)).1.length = n := by omega
    refine ⟨h4, by rw [h8]; exact h6, ?_⟩
    rw [h8, List.append_assoc, ← h2]
    exact h7
theorem twos_good (m : Nat) : ∀ c : List UInt8, c.length = 2 * m → flatN (twos c) = c ∧ (twos c).all twoB = true ∧ (twos c).length = m := by
  induction m with
  | zero =>
    intro c hc
    obtain rfl : c = [] := List.eq_nil_of_length_eq_zero (by omega)
    exact ⟨rfl, rfl, rfl⟩
  | succ m ih =>
    intro c hc
    match c, hc with
    | x :: y :: r, hc =>
      obtain ⟨h1, h2, h3⟩ := ih r (by simp at hc; omega)
      have hx := x.toNat_lt
      have hy := y.toNat_lt
      have e : twos (x :: y :: r) = ((x.toNat * 256 + y.toNat : Nat) : Int) :: twos r := rfl
      have e2 : be ((x.toNat * 256 + y.toNat : Nat) : Int) 2 = [x, y] := be_beNum [x, y] ▸ by simp [beNum]
      refine ⟨?_, ?_, ?_⟩
      · rw [e]
        show (be _ 2 ++ flatN (twos r)) = _
        rw [e2, h1]
        rfl
      · rw [e, List.all_cons, h2, Bool.and_true]
        unfold twoB
        simp
        omega
      · rw [e, List.length_cons, h3]
theorem vecB_yes (b x : List UInt8) (k : Int) (h : x.length < 256 ^ clampN k) : (vecB b k x).1 = b ++ (be (x.length : Nat) (clampN k) ++ x) := by
  unfold vecB
  rw [if_pos h]
  simp
theorem xOne_yes (x : Int × List UInt8) (h : x.2.length ≤ 65535) : xOne x = be x.1 2 ++ (be (x.2.length : Nat) 2 ++ x.2) := vecB_yes _ _ 2 (by show _ < 256 ^ 2; omega)
theorem many_good (n : Nat) : ∀ s : RSt, s.1.length ≤ n → (many oneX n s).2.2 = false → s.2 = false ∧ flatX (many oneX n s).1 = s.1 ∧ (many oneX n s).1.all extB = true := by
  induction n with
  | zero =>
    intro s hs h
    rw [many_nil _ _ _ (by omega)] at h ⊢
    exact ⟨h, by rw [List.eq_nil_of_length_eq_zero (by omega : s.1.length = 0)]; rfl, rfl⟩
  | succ n ih =>
    intro s hs h
    by_cases h0 : s.1.length = 0
    · rw [many_nil _ _ _ h0] at h ⊢
      exact ⟨h, by rw [List.eq_nil_of_length_eq_zero h0]; rfl, rfl⟩
    · rw [many_cons _ _ _ h0] at h ⊢
      have hlt := oneX_lt s h0
      obtain ⟨h1, h2, h3⟩ := ih (oneX s).2 (by omega) h
      obtain ⟨k1, k2, k3⟩ := rvec_good (rnum s 2).2 2 h1
      obtain ⟨j1, m, j2, j3, j4⟩ := rnum_good s 2 k1
      have k2' : (oneX s).1.2.length < 65536 := k2
      have j3' : m < 65536 := j3
      refine ⟨j1, ?_, ?_⟩
      · show xOne (oneX s).1 ++ flatX (many oneX n (oneX s).2).1 = s.1
        rw [h2, xOne_yes _ (by omega), j4, k3]
        have e1 : (oneX s).1.1 = (m : Int) := j2
        rw [e1]
        show (be (m : Int) 2 ++ (be _ 2 ++ (oneX s).1.2)) ++ (oneX s).2.1 = be (m : Int) 2 ++ (be _ 2 ++ (oneX s).1.2 ++ (oneX s).2.1)
        simp only [List.append_assoc]
        rfl
      · simp only [List.all_cons, h3, Bool.and_true]
        have e1 : (oneX s).1.1 = (m : Int) := j2
        unfold extB twoB
        rw [e1]
        simp
        omega
theorem wrong_zero (h : Hl) (hw : wrongS h = 0) : 768 ≤ h.ver ∧ h.ver ≤ 1023 ∧ h.ses.length ≤ 32 ∧ (0 : UInt8) ∈ h.met ∧ dup h.exs = false := by
  unfold wrongS at hw
  split at hw
  · cases hw
  · rename_i h1
    split at hw
    · cases hw
    · rename_i h2
      split at hw
      · cases hw
      · rename_i h3
        split at hw
        · cases hw
        · rename_i h4
          exact ⟨by omega, by omega, by omega, Classical.not_not.1 h3, by simpa using h4⟩
/-- The bytes ahead of the extensions. -/
theorem layA_eq (h : Hl) (h1 : h.ses.length < 256) (h2 : (flatN h.cip).length < 65536) (h3 : h.met.length < 256) :
    layA h = be h.ver 2 ++ (h.rnd ++ ((be (h.ses.length : Nat) 1 ++ h.ses) ++ ((be ((flatN h.cip).length : Nat) 2 ++ flatN h.cip) ++ (be (h.met.length : Nat) 1 ++ h.met)))) := by
  unfold layA
  rw [vecB_yes _ _ 1 h3, vecB_yes _ _ 2 h2, vecB_yes _ _ 1 h1]
  simp only [List.append_assoc]
  rfl
theorem laid_good (b : List UInt8) (x : Hl) (h : laidS b = some x) (hw : wrongS x = 0) : okP x = true ∧ layS x = b ∧ x.rnd.length = 32 := by
  unfold laidS at h
  split at h
  case isFalse => cases h
  case isTrue hF =>
    obtain ⟨f1, f2, f3, f4⟩ := hF
    obtain ⟨g1, g2, g3⟩ := rvec_good (rd4 b).2 1 f1
    obtain ⟨k1, k2, k3⟩ := rvec_good (rd3 b).2 2 g1
    obtain ⟨l1, l2, l3⟩ := rvec_good (rd2 b).2 1 k1
    obtain ⟨m1, m2, m3⟩ := rtake_good (rd1 b).2 32 l1
    obtain ⟨-, n, o2, o3, o4⟩ := rnum_good (b, false) 2 m1
    replace g2 : (rd5 b).1.length < 256 := g2
    replace k2 : (rd4 b).1.length < 65536 := k2
    replace l2 : (rd3 b).1.length < 256 := l2
    replace m3 : ((rd2 b).1.length : Int) = 32 := m3
    replace o2 : (rd1 b).1 = (n : Int) := o2
    replace g3 : (rd4 b).2.1 = be ((rd5 b).1.length : Nat) 1 ++ (rd5 b).1 ++ (rd5 b).2.1 := g3
    replace k3 : (rd3 b).2.1 = be ((rd4 b).1.length : Nat) 2 ++ (rd4 b).1 ++ (rd4 b).2.1 := k3
    replace l3 : (rd2 b).2.1 = be ((rd3 b).1.length : Nat) 1 ++ (rd3 b).1 ++ (rd3 b).2.1 := l3
    replace m2 : (rd1 b).2.1 = (rd2 b).1 ++ (rd2 b).2.1 := m2
    replace o4 : b = be (n : Int) 2 ++ (rd1 b).2.1 := o4
    obtain ⟨t1, t2, t3⟩ := twos_good ((rd4 b).1.length / 2) (rd4 b).1 (by omega)
    have hrnd : rndS (List.replicate 32 0) (rd2 b).1 = (rd2 b).1 := by unfold rndS; rw [if_pos (by omega)]
    have hA : layA (hlF b) ++ (rd5 b).2.1 = b := by
      rw [layA_eq (hlF b) l2 (by show (flatN (twos (rd4 b).1)).length < 65536; rw [t1]; exact k2) g2]
      show be (rd1 b).1 2 ++ (rndS (List.replicate 32 0) (rd2 b).1 ++ ((be ((rd3 b).1.length : Nat) 1 ++ (rd3 b).1) ++ ((be ((flatN (twos (rd4 b).1)).length : Nat) 2 ++ flatN (twos (rd4 b).1)) ++ (be ((rd5 b).1.length : Nat) 1 ++ (rd5 b).1)))) ++ (rd5 b).2.1 = b
      rw [hrnd, t1, o2]
      conv => rhs; rw [o4, m2, l3, k3, g3]
      simp only [List.append_assoc]
    have hflat : (flatN (twos (rd4 b).1)).length ≤ 65535 := by rw [t1]; omega
    split at h
    case isTrue hz =>
      injection h with h
      subst h
      obtain ⟨w1, w2, w3, w4, w5⟩ := wrong_zero _ hw
      have e0 : (rd5 b).2.1 = [] := List.eq_nil_of_length_eq_zero hz
      refine ⟨?_, ?_, ?_⟩
      · have w1' : (768 : Int) ≤ (rd1 b).1 := w1
        have w2' : (rd1 b).1 ≤ 1023 := w2
        simp only [okP, ok1, Bool.and_eq_true, decide_eq_true_eq, Bool.or_eq_true]
        refine ⟨⟨⟨⟨⟨⟨⟨⟨⟨?_, ?_⟩, ?_⟩, ?_⟩, hw⟩, .inr rfl⟩, t2⟩, rfl⟩, hflat⟩, Nat.zero_le _⟩
        · show (twoB (rd1 b).1) = true
          simp only [twoB, Bool.and_eq_true, decide_eq_true_eq]
          omega
        · show 0 < (twos (rd4 b).1).length
          omega
        · show 0 < (rd5 b).1.length
          omega
        · show (rd5 b).1.length ≤ 255
          omega
      · unfold layS
        rw [if_neg (by simp [hlF])]
        rw [e0, List.append_nil] at hA
        exact hA
      · show (rndS (List.replicate 32 0) (rd2 b).1).length = 32
        rw [hrnd]
        omega
    case isFalse hz =>
      split at h
      case isFalse => cases h
      case isTrue hX =>
        injection h with h
        obtain ⟨x1, x2, x3⟩ := hX
        obtain ⟨y1, y2, y3⟩ := rvec_good (rd5 b).2 2 x1
        replace y2 : (rd6 b).1.length < 65536 := y2
        replace y3 : (rd5 b).2.1 = be ((rd6 b).1.length : Nat) 2 ++ (rd6 b).1 ++ (rd6 b).2.1 := y3
        have e0 : (rd6 b).2.1 = [] := List.eq_nil_of_length_eq_zero x2
        obtain ⟨-, z2, z3⟩ := many_good (rd6 b).1.length ((rd6 b).1, false) (Nat.le_refl _) (by simpa [extS] using x3)
        replace z2 : flatX (extS (rd6 b).1).1 = (rd6 b).1 := z2
        replace z3 : (extS (rd6 b).1).1.all extB = true := z3
        subst h
        obtain ⟨w1, w2, w3, w4, w5⟩ := wrong_zero _ hw
        refine ⟨?_, ?_, ?_⟩
        · have w1' : (768 : Int) ≤ (rd1 b).1 := w1
          have w2' : (rd1 b).1 ≤ 1023 := w2
          simp only [okP, ok1, Bool.and_eq_true, decide_eq_true_eq, Bool.or_eq_true]
          refine ⟨⟨⟨⟨⟨⟨⟨⟨⟨?_, ?_⟩, ?_⟩, ?_⟩, hw⟩, .inl trivial⟩, t2⟩, z3⟩, hflat⟩, ?_⟩
          · show (twoB (rd1 b).1) = true
            simp only [twoB, Bool.and_eq_true, decide_eq_true_eq]
            omega
          · show 0 < (twos (rd4 b).1).length
            omega
          · show 0 < (rd5 b).1.length
            omega
          · show (rd5 b).1.length ≤ 255
            omega
          · rw [z2]
            omega
        · unfold layS
          rw [if_pos rfl]
          show (vecB (layA (hlF b)) 2 (flatX (extS (rd6 b).1).1)).1 = b
          rw [z2, vecB_yes _ _ 2 y2]
          rw [y3, e0, List.append_nil] at hA
          exact hA
        · show (rndS (List.replicate 32 0) (rd2 b).1).length = 32
          rw [hrnd]
          omega
end Go.Proofs.Ytdmcmfjhlpnaeaa.L
