/- BeSizes, BeCut, BeSplit: the walks. -/
import Derived.Test.YtahjmnamdmdloaaBePuts
set_option linter.unusedVariables false
set_option linter.unusedSimpArgs false
namespace Go.Proofs.Ytahjmnamdmdloaa.L
open Go.RowKit Go.Proofs

theorem beNum_be (n : Int) (s : Nat) : ((beNum (be n s) : Nat) : Int) = n % 256 ^ s := by
  induction s generalizing n with
  | zero => simp [be, beNum]
  | succ s ih =>
    have h := toU8_nat n
    have h2 := ih (n / 256)
    rw [be, beNum_snoc]
    have hp : (0 : Int) < 256 ^ s := Int.pow_pos (by decide)
    have h3 : n % 256 ^ (s + 1) = (n / 256 % 256 ^ s) * 256 + n % 256 := by
      obtain ⟨K, hK⟩ : ∃ K : Int, K = 256 ^ s := ⟨_, rfl⟩
      rw [Int.pow_succ, ← hK]
      rw [← hK] at hp
      have e1 : n = 256 * (n / 256) + n % 256 := by omega
      have e2 := Int.mul_ediv_add_emod (n / 256) K
      have e3 := Int.emod_nonneg (n / 256) (show K ≠ 0 by omega)
      have e4 := Int.emod_lt_of_pos (n / 256) hp
      have e5 : n = ((n / 256 % K) * 256 + n % 256) + (K * 256) * (n / 256 / K) := by
        have e6 : K * 256 * (n / 256 / K) = 256 * (K * (n / 256 / K)) := by rw [Int.mul_comm K 256, Int.mul_assoc]
        rw [e6]
        omega
      have e7 : n % (K * 256) = (((n / 256 % K) * 256 + n % 256) + (K * 256) * (n / 256 / K)) % (K * 256) := by rw [← e5]
      rw [e7, Int.add_mul_emod_self_left, Int.emod_eq_of_lt (by omega) (by omega)]
    rw [h3]
    omega

theorem rnum_be (n : Int) (s : Nat) (h1 : 1 ≤ s) (h4 : s ≤ 4) : rnum (be n s, false) s = (n % 256 ^ s, ([], false)) := by
  have hc : clampN (s : Int) = s := by unfold clampN; (repeat' split) <;> omega
  have hl := be_len n s
  unfold rnum rtake
  rw [hc, if_neg (by simp [hl])]
  simp only [Int.toNat_natCast]
  rw [List.take_of_length_le (by omega), List.drop_of_length_le (by omega), beNum_be]

theorem pow256 (s : Nat) (h : s ≤ 4) : (256 : Int) ^ s = if s = 0 then 1 else if s = 1 then 256 else if s = 2 then 65536 else if s = 3 then 16777216 else 4294967296 := by
  match s, h with
  | 0, _ => rfl
  | 1, _ => rfl
  | 2, _ => rfl
  | 3, _ => rfl
  | 4, _ => rfl

set_option maxHeartbeats 2000000 in
theorem beSizes_any (n size : Int) (w : World) (hn : -9223372036854775808 ≤ n ∧ n ≤ 9223372036854775807) :
    Calls Try.prog 6 #[.int .i64 n, .int .i64 size] w fun e w' => e = .returned (.bool true) ∧ Stp (fun _ => False) w w' := by
  by_cases hg1 : size < 1
  · go_enter Try.func6, Try.ntmps6
    go_wp2_with (go_at_call 9; refine (small_any _).mono ?_; rintro e w1 ⟨rfl, hs⟩; have HS := Lib.hid hs; clear hs)
    go_ret
    exact ⟨rfl, HS.out⟩
  by_cases hg2 : 4 < size
  · go_enter Try.func6, Try.ntmps6
    go_wp2_with (go_at_call 9; refine (small_any _).mono ?_; rintro e w1 ⟨rfl, hs⟩; have HS := Lib.hid hs; clear hs)
    go_ret
    exact ⟨rfl, HS.out⟩
  obtain ⟨s, rfl⟩ := Int.eq_ofNat_of_zero_le (show 0 ≤ size by omega)
  have hs1 : 1 ≤ s := by omega
  have hs4 : s ≤ 4 := by omega
  have hc : clampN (s : Int) = s := by unfold clampN; (repeat' split) <;> omega
  have HC := Lib.hid hc
  clear hc hg1 hg2
  obtain ⟨m, hm⟩ : ∃ m : Int, m = 256 ^ s := ⟨_, rfl⟩
  have hm' := pow256 s hs4
  have hsh : wrap64 (2 ^ (8 * s)) = m := by
    rw [hm]
    match s, hs1, hs4 with
    | 1, _, _ => unfold wrap64; omega
    | 2, _, _ => unfold wrap64; omega
    | 3, _, _ => unfold wrap64; omega
    | 4, _, _ => unfold wrap64; omega
  have hm1 : 256 ≤ m ∧ m ≤ 4294967296 := by
    rw [hm, hm']
    (repeat' split) <;> omega
  have HM := Lib.hid hm
  obtain ⟨hm1, hm2⟩ := hm1
  clear hm hm'
  go_enter Try.func6, Try.ntmps6
  go_wp2_with (first
    | (go_at_call 9; refine (small_any _).mono ?_; rintro e w1 ⟨rfl, hs⟩; have HS := Lib.hid hs; clear hs)
    | (go_at_call 10; refine stopc ?_))
  refine Stop.go ?_
  refine (put_any (fun _ => False) _ [] _ _ _ (Rd.nil _ _ _) (by simp)).mono ?_
  rw [HC.out, List.nil_append]
  rintro e w2 ⟨v, rfl, ho2, hs2⟩
  have hl := be_len n s
  obtain ⟨A, c, rfl, hle⟩ := ho2.form
  rw [hl] at ho2
  have HO2 := Lib.hid ho2
  have HS2 := Lib.hid (HS.out.trans hs2)
  have HL := Lib.hid hl
  clear ho2 hs2 hl hle
  go_wp2_with (go_at_call 14; refine stopc ?_)
  refine Stop.go ?_
  rw [HL.out]
  refine (read_any (fun _ => False) _ (be n s) _ (HO2.out.rd (h1 := fun _ => rfl) (fun _ _ => id)) (by rw [HL.out]; omega)).mono ?_
  rintro e w3 ⟨g, rfl, hi3, hs3⟩
  have HG := Lib.hid (Nat.le_trans HS2.out.size (Nat.not_lt.1 hi3.1))
  have HI3 := Lib.hid (hi3.weak (M' := fun _ => False) (fun _ _ h => h.elim))
  have HS3 := Lib.hid (HS2.out.trans hs3)
  clear hi3 hs3
  have hnum := rnum_be n s hs1 hs4
  rw [← HM.out] at hnum
  have HN := Lib.hid hnum
  clear hnum
  have htm : (if Int.tmod n m < 0 then Int.tmod n m + m else Int.tmod n m) = n % m := by
    rcases Int.le_total 0 n with h | h
    · rw [Int.tmod_eq_emod_of_nonneg h, if_neg (by have := Int.emod_nonneg n (show m ≠ 0 by omega); omega)]
    · have h1 := Int.tmod_eq_emod (a := n) (b := m)
      have h2 := Int.emod_nonneg n (show m ≠ 0 by omega)
      have h3 := Int.emod_lt_of_pos n (show 0 < m by omega)
      rw [h1]
      split
      · rw [if_neg (by omega)]
        omega
      · rename_i hd
        simp only [not_or] at hd
        have hz : n % m ≠ 0 := fun e => hd.2 (Int.dvd_of_emod_eq_zero e)
        rw [if_pos (by omega)]
        omega
  have hb := Int.emod_nonneg n (show m ≠ 0 by omega)
  have hb2 := Int.emod_lt_of_pos n (show 0 < m by omega)
  have hbt : -m ≤ Int.tmod n m ∧ Int.tmod n m < m := by
    split at htm <;> omega
  obtain ⟨hbt1, hbt2⟩ := hbt
  obtain ⟨t, ht⟩ : ∃ t, t = Int.tmod n m := ⟨_, rfl⟩
  rw [← ht] at htm hbt1 hbt2
  have HT := Lib.hid ht
  obtain ⟨u, hu⟩ : ∃ u, u = n % m := ⟨_, rfl⟩
  rw [← hu] at htm hb hb2 HN
  have hmz : ¬ m = 0 := by omega
  by_cases htn : t < 0
  · rw [if_pos htn] at htm
    rw [ht] at htm htn hbt1 hbt2
    have HTM := Lib.hid htm
    clear ht HT hu htm
    go_wp2_with (go_at_call 15; refine stopc ?_)
    refine Stop.go ?_
    refine (num_any (fun _ => False) g _ _ _ HI3.out (by simp [HL.out]; omega)).mono ?_
    rw [HN.out]
    rintro e w4 ⟨rfl, hi4, hs4⟩
    have HI4 := Lib.hid hi4
    have HS4 := Lib.hid (HS3.out.new hs4 HG.out)
    clear hi4 hs4
    have heq : (u == Int.tmod n m + m) = true := by rw [HTM.out]; simp
    go_wp2_with (go_at_call 24; refine (done_any (fun _ => False) g _ _ HI4.out (by decide)).mono ?_; rintro e w' ⟨rfl, rfl⟩)
    go_ret
    exact ⟨rfl, HS4.out⟩
  · rw [if_neg htn] at htm
    rw [ht] at htm htn hbt1 hbt2
    have HTM := Lib.hid htm
    clear ht HT hu htm
    go_wp2_with (go_at_call 15; refine stopc ?_)
    refine Stop.go ?_
    refine (num_any (fun _ => False) g _ _ _ HI3.out (by simp [HL.out]; omega)).mono ?_
    rw [HN.out]
    rintro e w4 ⟨rfl, hi4, hs4⟩
    have HI4 := Lib.hid hi4
    have HS4 := Lib.hid (HS3.out.new hs4 HG.out)
    clear hi4 hs4
    have heq : (u == Int.tmod n m) = true := by rw [HTM.out]; simp
    go_wp2_with (go_at_call 24; refine (done_any (fun _ => False) g _ _ HI4.out (by decide)).mono ?_; rintro e w' ⟨rfl, rfl⟩)
    go_ret
    exact ⟨rfl, HS4.out⟩

theorem rvec_cut (x : List UInt8) (k : Nat) (hx : x.length ≤ 1000) (hk : k < x.length + 2) : rvec ((be x.length 2 ++ x).take k, false) 2 = ([], ([], true)) := by
  have h2 := be_len (x.length : Int) 2
  have hc : clampN 2 = 2 := by decide
  by_cases h : k < 2
  · have hl : ((be (x.length : Int) 2 ++ x).take k).length < 2 := by simp [h2]; omega
    have : rtake ((be (x.length : Int) 2 ++ x).take k, false) (clampN 2 : Nat) = ([], ([], true)) := by
      unfold rtake
      rw [if_pos (.inr (.inr (by rw [hc]; simp only; omega)))]
    unfold rvec rnum
    rw [this]
    rfl
  · have ht : (be (x.length : Int) 2 ++ x).take k = be (x.length : Int) 2 ++ x.take (k - 2) := by
      rw [List.take_append, h2, List.take_of_length_le (by omega)]
    rw [ht]
    have h3 : rtake (be (x.length : Int) 2 ++ x.take (k - 2), false) (clampN 2 : Nat) = (be (x.length : Int) 2, (x.take (k - 2), false)) := by
      unfold rtake
      rw [hc, if_neg (by simp [h2]; omega)]
      simp [h2]
    have h4 : rnum (be (x.length : Int) 2 ++ x.take (k - 2), false) 2 = ((x.length : Int), (x.take (k - 2), false)) := by
      unfold rnum
      rw [h3]
      simp only
      have := beNum_be (x.length : Int) 2
      rw [this]
      congr 1
      omega
    unfold rvec
    rw [h4]
    simp only [Bool.false_eq_true, if_false]
    unfold rtake
    rw [if_pos (.inr (.inr (by simp; omega)))]

theorem rtake_bad (n : Int) : rtake ([], true) n = ([], ([], true)) := by unfold rtake; rw [if_pos (.inl rfl)]
theorem rnum_bad (n : Int) : rnum ([], true) n = (0, ([], true)) := by unfold rnum; rw [rtake_bad]; rfl

set_option maxHeartbeats 2000000 in
theorem beCut_any (M : Nat → Prop) (v0 : Value) (x : List UInt8) (cut : Int) (w : World) (hx : Rd u8 M w v0 x) :
    Calls Try.prog 7 #[v0, .int .i64 cut] w fun e w' => e = .returned (.bool true) ∧ Stp (fun _ => False) w w' := by
  obtain ⟨A, c, rfl, hle⟩ := hx.form
  have HX := Lib.hid hx
  clear hx
  by_cases hg1 : 1000 < x.length
  · go_enter Try.func7, Try.ntmps7
    go_wp2_with (go_at_call 9; refine (small_any _).mono ?_; rintro e w1 ⟨rfl, hs⟩; have HS := Lib.hid hs; clear hs)
    go_ret
    exact ⟨rfl, HS.out⟩
  have hv : vecB [] 2 x = (be x.length 2 ++ x, true) := by
    unfold vecB
    rw [show clampN 2 = 2 by decide, if_pos (by omega)]
    rfl
  have HV := Lib.hid hv
  clear hv
  have hbl := be_len (x.length : Int) 2
  obtain ⟨b, hb⟩ : ∃ b, b = be x.length 2 ++ x := ⟨_, rfl⟩
  have hbl : b.length = x.length + 2 := by rw [hb, List.length_append, hbl]; omega
  have HB := Lib.hid hb
  rw [← hb] at HV
  clear hb
  have HBL := Lib.hid hbl
  clear hbl
  go_enter Try.func7, Try.ntmps7
  go_wp2_with (first
    | (go_at_call 9; refine (small_any _).mono ?_; rintro e w1 ⟨rfl, hs⟩; have HS := Lib.hid hs; clear hs)
    | (go_at_call 11; refine stopc ?_))
  refine Stop.go ?_
  refine (vec_any M _ _ [] x _ _ (Rd.nil _ _ _) (HX.out.stp0 HS.out) (by simp; omega)).mono ?_
  rw [HV.out]
  rintro e w2 ⟨v, rfl, ho2, hs2⟩
  obtain ⟨A2, c2, rfl, hle2⟩ := ho2.form
  simp only [HBL.out] at ho2 hle2 ⊢
  have HO2 := Lib.hid ho2
  have HS2 := Lib.hid (HS.out.trans hs2)
  clear ho2 hs2
  by_cases hc0 : cut < 0
  · go_wp2
    go_ret
    exact ⟨rfl, HS2.out⟩
  obtain ⟨k, rfl⟩ := Int.eq_ofNat_of_zero_le (show 0 ≤ cut by omega)
  clear hc0
  by_cases hc1 : x.length + 2 ≤ k
  · have hd : decide ((x.length : Int) + 2 ≤ k) = true := by simp; omega
    go_wp2
    go_ret
    exact ⟨rfl, HS2.out⟩
  have hd : decide ((x.length : Int) + 2 ≤ k) = false := by simp; omega
  obtain ⟨hcut, hcr⟩ := cut_hi (P := Try.prog) u8 22 5 Try.underlying22 size_u8 A2 (x.length + 2) c2 k (by omega) (by omega)
  have hcut1 := fun W => hcut W .i64
  have HCR := Lib.hid hcr
  clear hcut hcr
  go_wp2_with (go_at_call 14; refine stopc ?_)
  refine Stop.go ?_
  refine (read_any (fun _ => False) _ (b.take k) _ (HCR.out _ _ _ (HO2.out.rd (h1 := fun _ => rfl) (fun _ _ => id))) (by simp [HBL.out]; omega)).mono ?_
  rintro e w3 ⟨g, rfl, hi3, hs3⟩
  have HG := Lib.hid (Nat.le_trans HS2.out.size (Nat.not_lt.1 hi3.1))
  have HI3 := Lib.hid (hi3.weak (M' := fun _ => False) (fun _ _ h => h.elim))
  have HS3 := Lib.hid (HS2.out.trans hs3)
  clear hi3 hs3
  go_wp2_with (go_at_call 19; refine stopc ?_)
  refine Stop.go ?_
  refine (rvec_any (fun _ => False) g _ _ _ HI3.out (by simp [HBL.out]; omega)).mono ?_
  rw [HB.out, rvec_cut x k (by omega) (by omega)]
  rintro e w4 ⟨v4, rfl, ho4, hi4, hs4⟩
  obtain ⟨A4, c4, rfl, _⟩ := ho4.form
  have HI4 := Lib.hid hi4
  have HS4 := Lib.hid (HS3.out.new hs4 HG.out)
  clear hi4 hs4 ho4
  go_wp2_with (first
    | (go_at_call 23; refine (bad_any (fun _ => False) g _ _ HI4.out).mono ?_; rintro e w' ⟨rfl, rfl⟩)
    | (go_at_call 15; refine stopc ?_))
  refine Stop.go ?_
  refine (num_any (fun _ => False) g _ _ _ HI4.out (by decide)).mono ?_
  rw [rnum_bad]
  rintro e w5 ⟨rfl, hi5, hs5⟩
  have HI5 := Lib.hid hi5
  have HS5 := Lib.hid (HS4.out.new hs5 HG.out)
  clear hi5 hs5
  go_wp2_with (go_at_call 17; refine stopc ?_)
  refine Stop.go ?_
  refine (take_any (fun _ => False) g _ _ _ HI5.out (by decide)).mono ?_
  rw [rtake_bad]
  rintro e w6 ⟨v6, rfl, ho6, hi6, hs6⟩
  obtain ⟨A6, c6, rfl, _⟩ := ho6.form
  have HI6 := Lib.hid hi6
  have HS6 := Lib.hid (HS5.out.new hs6 HG.out)
  clear hi6 hs6 ho6
  go_wp2_with (go_at_call 24; refine (done_any (fun _ => False) g _ _ HI6.out (by decide)).mono ?_; rintro e w' ⟨rfl, rfl⟩)
  go_ret
  exact ⟨rfl, HS6.out⟩

theorem rnum_take (l : List UInt8) (s : Nat) (h1 : 1 ≤ s) (h4 : s ≤ 4) (h : s ≤ l.length) : rnum (l, false) s = (((beNum (l.take s) : Nat) : Int), (l.drop s, false)) := by
  have hc : clampN (s : Int) = s := by unfold clampN; (repeat' split) <;> omega
  unfold rnum rtake
  rw [hc, if_neg (by simp; omega)]
  simp

set_option maxHeartbeats 2000000 in
theorem beSplit_any (a b c d : UInt8) (w : World) :
    Calls Try.prog 8 #[.int .u8 (a.toNat : Int), .int .u8 (b.toNat : Int), .int .u8 (c.toNat : Int), .int .u8 (d.toNat : Int)] w fun e w' => e = .returned (.bool true) ∧ Stp (fun _ => False) w w' := by
  have ha := a.toNat_lt
  have hb := b.toNat_lt
  have hc := c.toNat_lt
  have hd := d.toNat_lt
  obtain ⟨n4, hn4⟩ : ∃ n : Nat, n = ((a.toNat * 256 + b.toNat) * 256 + c.toNat) * 256 + d.toNat := ⟨_, rfl⟩
  obtain ⟨p2, hp2⟩ : ∃ n : Nat, n = a.toNat * 256 + b.toNat := ⟨_, rfl⟩
  obtain ⟨q2, hq2⟩ : ∃ n : Nat, n = c.toNat * 256 + d.toNat := ⟨_, rfl⟩
  obtain ⟨s3, hs3⟩ : ∃ n : Nat, n = (b.toNat * 256 + c.toNat) * 256 + d.toNat := ⟨_, rfl⟩
  have ht1 : ((n4 : Int) == (p2 : Int) * 65536 + q2) = true := by rw [beq_iff_eq]; omega
  have ht2 : ((n4 : Int) == (a.toNat : Int) * 16777216 + s3) = true := by rw [beq_iff_eq]; omega
  have hb1 : (p2 : Int) ≤ 65535 := by omega
  have hb2 : (q2 : Int) ≤ 65535 := by omega
  have hb3 : (s3 : Int) ≤ 16777215 := by omega
  have ha' : (a.toNat : Int) ≤ 255 := by omega
  have HN4 := Lib.hid hn4
  have HP2 := Lib.hid hp2
  have HQ2 := Lib.hid hq2
  have HS3' := Lib.hid hs3
  have HT1 := Lib.hid ht1
  have HT2 := Lib.hid ht2
  have HB1 := Lib.hid hb1
  have HB2 := Lib.hid hb2
  have HB3 := Lib.hid hb3
  have HA' := Lib.hid ha'
  clear hn4 hp2 hq2 hs3 ha hb hc hd ht1 ht2 hb1 hb2 hb3 ha'
  go_enter Try.func8, Try.ntmps8
  go_wp2_with (first
    | (go_at_call 9; refine (small_any _).mono ?_; rintro e w1 ⟨rfl, hs⟩; have HS := Lib.hid hs; clear hs)
    | (go_at_call 14; refine stopc ?_))
  refine Stop.go ?_
  refine (read_any (fun _ => False) _ [a, b, c, d] _ (Rd.lit [a, b, c, d] _ rfl (by simp) id) (by simp)).mono ?_
  rintro e w2 ⟨gx, rfl, hx2, hs2⟩
  have HGX := Lib.hid (Nat.not_lt.1 hx2.1)
  have HLX := Lib.hid hx2.lt
  have HX2 := Lib.hid (hx2.weak (M' := fun k => w2.heap.size ≤ k) (fun k h1 h2 => absurd h1 (by omega)))
  have HS2 := Lib.hid ((HS.out.alloc _).trans hs2)
  clear hx2 hs2
  go_wp2_with (go_at_call 14; refine stopc ?_)
  refine Stop.go ?_
  refine (read_any (fun _ => False) _ [a, b, c, d] _ (Rd.lit [a, b, c, d] _ rfl (by simp) id) (by simp)).mono ?_
  rintro e w3 ⟨gy, rfl, hy3, hs3⟩
  have HT3 := Lib.hid (((Stp.refl (fun _ => False) w2).alloc _).trans hs3)
  have HGY := Lib.hid (Nat.not_lt.1 hy3.1)
  have HLY := Lib.hid hy3.lt
  have HX3 := Lib.hid (HX2.out.stp0 HT3.out)
  have HY3 := Lib.hid (hy3.weak (M' := fun k => k < w2.heap.size ∨ w3.heap.size ≤ k) (fun k h1 h2 => by simp; omega))
  have HS3 := Lib.hid (HS2.out.trans HT3.out)
  clear hy3 hs3
  go_wp2_with (go_at_call 14; refine stopc ?_)
  refine Stop.go ?_
  refine (read_any (fun _ => False) _ [a, b, c, d] _ (Rd.lit [a, b, c, d] _ rfl (by simp) id) (by simp)).mono ?_
  rintro e w4 ⟨gz, rfl, hz4, hs4⟩
  have HT4 := Lib.hid (((Stp.refl (fun _ => False) w3).alloc _).trans hs4)
  have HGZ := Lib.hid (Nat.not_lt.1 hz4.1)
  have HLZ := Lib.hid hz4.lt
  have HX4 := Lib.hid (HX3.out.stp0 HT4.out)
  have HY4 := Lib.hid (HY3.out.stp0 HT4.out)
  have HZ4 := Lib.hid (hz4.weak (M' := fun k => k < w3.heap.size) (fun k h1 h2 => by simp; omega))
  have HS4 := Lib.hid (HS3.out.trans HT4.out)
  clear hz4 hs4
  go_wp2_with (go_at_call 15; refine stopc ?_)
  refine Stop.go ?_
  refine (num_any _ gx _ _ _ HX4.out (by simp)).mono ?_
  rw [show rnum ([a, b, c, d], false) 4 = (((n4 : Nat) : Int), ([], false)) from by
    rw [show (4 : Int) = ((4 : Nat) : Int) from rfl, rnum_take _ _ (by decide) (by decide) (by simp)]
    simp [beNum, HN4.out]]
  rintro e w5 ⟨rfl, hi, hs⟩
  have HY5 := Lib.hid (HY4.out.step hs (fun k _ h => by have h1 := HGX.out; have h2 := HLX.out; have h3 := HGY.out; have h4 := HLY.out; have h5 := HGZ.out; have h6 := HT3.out.size; have h7 := HT4.out.size; simp at h1 h3 h5 ⊢; omega))
  have HZ5 := Lib.hid (HZ4.out.step hs (fun k _ h => by have h1 := HGX.out; have h2 := HLX.out; have h3 := HGY.out; have h4 := HLY.out; have h5 := HGZ.out; have h6 := HT3.out.size; have h7 := HT4.out.size; simp at h1 h3 h5 ⊢; omega))
  have HX5 := Lib.hid hi
  have HS5 := Lib.hid (HS4.out.new hs (by have h1 := HGX.out; have h2 := HLX.out; have h3 := HGY.out; have h5 := HGZ.out; have h6 := HT3.out.size; have h7 := HS.out.size; simp at h1 h3 h5; omega))
  clear hi hs
  go_wp2_with (go_at_call 15; refine stopc ?_)
  refine Stop.go ?_
  refine (num_any _ gy _ _ _ HY5.out (by simp)).mono ?_
  rw [show rnum ([a, b, c, d], false) 2 = (((p2 : Nat) : Int), ([c, d], false)) from by
    rw [show (2 : Int) = ((2 : Nat) : Int) from rfl, rnum_take _ _ (by decide) (by decide) (by simp)]
    simp [beNum, HP2.out]]
  rintro e w6 ⟨rfl, hi, hs⟩
  have HX6 := Lib.hid (HX5.out.step hs (fun k _ h => by have h1 := HGX.out; have h2 := HLX.out; have h3 := HGY.out; have h4 := HLY.out; have h5 := HGZ.out; have h6 := HT3.out.size; have h7 := HT4.out.size; simp at h1 h3 h5 ⊢; omega))
  have HZ6 := Lib.hid (HZ5.out.step hs (fun k _ h => by have h1 := HGX.out; have h2 := HLX.out; have h3 := HGY.out; have h4 := HLY.out; have h5 := HGZ.out; have h6 := HT3.out.size; have h7 := HT4.out.size; simp at h1 h3 h5 ⊢; omega))
  have HY6 := Lib.hid hi
  have HS6 := Lib.hid (HS5.out.new hs (by have h1 := HGX.out; have h2 := HLX.out; have h3 := HGY.out; have h5 := HGZ.out; have h6 := HT3.out.size; have h7 := HS.out.size; simp at h1 h3 h5; omega))
  clear hi hs
  go_wp2_with (go_at_call 15; refine stopc ?_)
  refine Stop.go ?_
  refine (num_any _ gy _ _ _ HY6.out (by simp)).mono ?_
  rw [show rnum ([c, d], false) 2 = (((q2 : Nat) : Int), ([], false)) from by
    rw [show (2 : Int) = ((2 : Nat) : Int) from rfl, rnum_take _ _ (by decide) (by decide) (by simp)]
    simp [beNum, HQ2.out]]
  rintro e w7 ⟨rfl, hi, hs⟩
  have HX7 := Lib.hid (HX6.out.step hs (fun k _ h => by have h1 := HGX.out; have h2 := HLX.out; have h3 := HGY.out; have h4 := HLY.out; have h5 := HGZ.out; have h6 := HT3.out.size; have h7 := HT4.out.size; simp at h1 h3 h5 ⊢; omega))
  have HZ7 := Lib.hid (HZ6.out.step hs (fun k _ h => by have h1 := HGX.out; have h2 := HLX.out; have h3 := HGY.out; have h4 := HLY.out; have h5 := HGZ.out; have h6 := HT3.out.size; have h7 := HT4.out.size; simp at h1 h3 h5 ⊢; omega))
  have HY7 := Lib.hid hi
  have HS7 := Lib.hid (HS6.out.new hs (by have h1 := HGX.out; have h2 := HLX.out; have h3 := HGY.out; have h5 := HGZ.out; have h6 := HT3.out.size; have h7 := HS.out.size; simp at h1 h3 h5; omega))
  clear hi hs
  go_wp2_with (go_at_call 15; refine stopc ?_)
  refine Stop.go ?_
  refine (num_any _ gz _ _ _ HZ7.out (by simp)).mono ?_
  rw [show rnum ([a, b, c, d], false) 1 = (((a.toNat : Nat) : Int), ([b, c, d], false)) from by
    rw [show (1 : Int) = ((1 : Nat) : Int) from rfl, rnum_take _ _ (by decide) (by decide) (by simp)]
    simp [beNum]]
  rintro e w8 ⟨rfl, hi, hs⟩
  have HX8 := Lib.hid (HX7.out.step hs (fun k _ h => by have h1 := HGX.out; have h2 := HLX.out; have h3 := HGY.out; have h4 := HLY.out; have h5 := HGZ.out; have h6 := HT3.out.size; have h7 := HT4.out.size; simp at h1 h3 h5 ⊢; omega))
  have HY8 := Lib.hid (HY7.out.step hs (fun k _ h => by have h1 := HGX.out; have h2 := HLX.out; have h3 := HGY.out; have h4 := HLY.out; have h5 := HGZ.out; have h6 := HT3.out.size; have h7 := HT4.out.size; simp at h1 h3 h5 ⊢; omega))
  have HZ8 := Lib.hid hi
  have HS8 := Lib.hid (HS7.out.new hs (by have h1 := HGX.out; have h2 := HLX.out; have h3 := HGY.out; have h5 := HGZ.out; have h6 := HT3.out.size; have h7 := HS.out.size; simp at h1 h3 h5; omega))
  clear hi hs
  go_wp2_with (go_at_call 15; refine stopc ?_)
  refine Stop.go ?_
  refine (num_any _ gz _ _ _ HZ8.out (by simp)).mono ?_
  rw [show rnum ([b, c, d], false) 3 = (((s3 : Nat) : Int), ([], false)) from by
    rw [show (3 : Int) = ((3 : Nat) : Int) from rfl, rnum_take _ _ (by decide) (by decide) (by simp)]
    simp [beNum, HS3'.out]]
  rintro e w9 ⟨rfl, hi, hs⟩
  have HX9 := Lib.hid (HX8.out.step hs (fun k _ h => by have h1 := HGX.out; have h2 := HLX.out; have h3 := HGY.out; have h4 := HLY.out; have h5 := HGZ.out; have h6 := HT3.out.size; have h7 := HT4.out.size; simp at h1 h3 h5 ⊢; omega))
  have HY9 := Lib.hid (HY8.out.step hs (fun k _ h => by have h1 := HGX.out; have h2 := HLX.out; have h3 := HGY.out; have h4 := HLY.out; have h5 := HGZ.out; have h6 := HT3.out.size; have h7 := HT4.out.size; simp at h1 h3 h5 ⊢; omega))
  have HZ9 := Lib.hid hi
  have HS9 := Lib.hid (HS8.out.new hs (by have h1 := HGX.out; have h2 := HLX.out; have h3 := HGY.out; have h5 := HGZ.out; have h6 := HT3.out.size; have h7 := HS.out.size; simp at h1 h3 h5; omega))
  clear hi hs
  have ht1 := HT1.out
  have ht2 := HT2.out
  have hb1 := HB1.out
  have hb2 := HB2.out
  have hb3 := HB3.out
  have ha' := HA'.out
  clear HGX HLX HGY HLY HGZ HLZ HX2 HX3 HX4 HY3 HY4 HZ4 HT3 HT4
  go_wp2_with (first
    | (go_at_call 24; (with_reducible refine (done_any _ gx _ _ HX9.out (by decide)).mono ?_); rintro e w' ⟨rfl, rfl⟩)
    | (go_at_call 24; (with_reducible refine (done_any _ gy _ _ HY9.out (by decide)).mono ?_); rintro e w' ⟨rfl, rfl⟩)
    | (go_at_call 24; (with_reducible refine (done_any _ gz _ _ HZ9.out (by decide)).mono ?_); rintro e w' ⟨rfl, rfl⟩))
  go_ret
  exact ⟨rfl, HS9.out⟩
end Go.Proofs.Ytahjmnamdmdloaa.L
