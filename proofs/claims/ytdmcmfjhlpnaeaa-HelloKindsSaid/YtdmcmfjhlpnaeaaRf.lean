/- The document's own be: each function's contract. -/
import Derived.Test.YtdmcmfjhlpnaeaaBr
import Derived.Deep.RegionHeld3
set_option linter.unusedVariables false
set_option linter.unusedSimpArgs false
namespace Go.Proofs.Ytdmcmfjhlpnaeaa.L
open Go.RowKit Go.Proofs

set_option maxHeartbeats 400000 in
theorem clampR_any (n : Int) (w : World) : Calls Try.prog 65 #[.int .i64 n] w fun e w' => e = .returned (.int .i64 (clampN n : Nat)) ∧ w = w' := by
  by_cases h1 : n < 1
  · have e : ((clampN n : Nat) : Int) = 1 := by simp [clampN, h1]
    have h2 : ¬ 4 < n := by omega
    have H := Lib.hid e
    clear e
    go_enter Try.func65, Try.ntmps65
    go_wp2
    go_ret
    exact ⟨ret_i H.out.symm, rfl⟩
  · by_cases h2 : 4 < n
    · have e : ((clampN n : Nat) : Int) = 4 := by simp [clampN, h1, h2]
      have H := Lib.hid e
      clear e
      go_enter Try.func65, Try.ntmps65
      go_wp2
      go_ret
      exact ⟨ret_i H.out.symm, rfl⟩
    · have e : ((clampN n : Nat) : Int) = n := by simp [clampN, h1, h2]; omega
      have H := Lib.hid e
      clear e
      go_enter Try.func65, Try.ntmps65
      go_wp2
      all_goals go_ret
      · exact ⟨ret_i H.out.symm, rfl⟩
      · exact ⟨ret_i (by rw [H.out]; omega), rfl⟩

/-- The document's reader at block g: the bytes B, the place, whether it is bad. -/
def IsRf (M : Nat → Prop) (W : World) (g : Nat) (s : RSt) : Prop :=
  ¬ M g ∧ ∃ A c n, ∃ l : List UInt8, l.length ≤ 140737488355328 ∧ n ≤ l.length ∧ W.heap[g]? = some (.cells #[.slice A l.length c, .int .i64 (n : Nat), .bool s.2] 33 (0, 0)) ∧
    Rd u8 (fun k => k = g ∨ M k) W (.slice A l.length c) l ∧ s.1 = if s.2 = true then [] else l.drop n

/-- What its call hands back, and the reader behind it. -/
def RfRet (M : Nat → Prop) (w : World) (g : Nat) (l : List UInt8) (s : RSt) (e : Ending) (w' : World) : Prop :=
  ∃ v, e = .returned v ∧ Own enc8 5 w.heap.size w' v l ∧ IsRf M w' g s ∧ Stp (fun k => k = g) w w'

set_option maxHeartbeats 1000000 in
theorem takeR_any (M : Nat → Prop) (g : Nat) (s : RSt) (n : Int) (w : World) (hr : IsRf M w g s) :
    Calls Try.prog 30 #[.pointer (some ⟨g, 0, none⟩), .int .i64 n] w
      (RfRet M w g (rtake s n).1 (rtake s n).2) := by
  obtain ⟨hM, A, c, p, l, hll, hpl, hg, hrd, hs⟩ := hr
  obtain ⟨s1, bad⟩ := s
  have HG := Lib.hid hg
  have HRD := Lib.hid hrd
  have hc0 := blk_cell (j := 0) hg
  have hc1 := blk_cell (j := 1) hg
  have hc2 := blk_cell (j := 2) hg
  have hf1 := blk_free hg 1
  have hf2 := blk_free hg 2
  have hle := (Rd.at_ hrd).2.1
  have HL := Lib.hid (blk_lt hg)
  simp only at hc0 hc1 hc2
  clear hg hrd
  have hend : ∀ nq, RfRet M w g [] ([], true) (.returned (.slice none 0 0)) ((w.drewN nq).setCell ⟨g, 2, none⟩ (.bool true)) := by
    intro nq
    refine ⟨_, rfl, Own.nil _ _ _ _, ⟨hM, A, c, p, l, hll, hpl, ?_, ?_, rfl⟩, ?_⟩
    · simpa using blk_set (w := w.drewN nq) HG.out 2 (.bool true)
    · exact HRD.out.step (S := fun k => k = g) (((Stp.refl _ _).drewN _).setg 2 _) (fun _ _ h => .inl h)
    · exact ((Stp.refl _ _).drewN _).setg 2 _
  have HE := Lib.hid hend
  clear hend
  cases bad with
  | true =>
    have hv : rtake (s1, true) n = ([], ([], true)) := by unfold rtake; rw [if_pos (.inl rfl)]
    rw [hv]
    clear hv hs
    go_enter Try.func30, Try.ntmps30
    go_wp2_with fail
    go_quiet (fail)
    go_wp2
    go_ret
    exact HE.out _
  | false =>
    simp only [Bool.false_eq_true, if_false] at hs
    subst hs
    by_cases h0 : n < 0
    · have hv : rtake (l.drop p, false) n = ([], ([], true)) := by unfold rtake; rw [if_pos (.inr (.inl h0))]
      rw [hv]
      clear hv
      go_enter Try.func30, Try.ntmps30
      go_wp2_with fail
      go_quiet (fail)
      go_wp2
      go_ret
      exact HE.out _
    · obtain ⟨m, rfl⟩ := Int.eq_ofNat_of_zero_le (show 0 ≤ n by omega)
      have hd0 : decide ((m : Int) < 0) = false := by simp
      by_cases h1 : (l.length : Int) - p < m
      · have hv : rtake (l.drop p, false) m = ([], ([], true)) := by unfold rtake; rw [if_pos (.inr (.inr (by simp; omega)))]
        rw [hv]
        clear hv
        go_enter Try.func30, Try.ntmps30
        go_wp2_with fail
        go_quiet (fail)
        go_wp2
        go_ret
        exact HE.out _
      · have hv : rtake (l.drop p, false) m = ((l.drop p).take m, ((l.drop p).drop m, false)) := by
          unfold rtake; rw [if_neg (by simp; omega)]; simp
        rw [hv]
        clear hv
        have hpm : p + m ≤ l.length := by omega
        have hd1 : decide ((l.length : Int) - p < m) = false := by simpa using h1
        obtain ⟨A', hcut, hcr⟩ := cut_lh (P := Try.prog) u8 22 5 Try.underlying22 size_u8 A l.length c p (p + m) (by omega) hpm hle
        rw [Nat.add_sub_cancel_left] at hcut hcr
        have HCR := Lib.hid hcr
        have hcut1 := fun W => hcut W .i64 .i64
        simp only [Int.natCast_add] at hcut1
        clear hcr hcut
        go_enter Try.func30, Try.ntmps30
        go_wp2_with fail
        go_quiet (fail)
        go_wp2
        have e1 : IntKind.i64.wrap ((p : Int) + m) = (p : Int) + m := IntWalk.i64_in _ (by omega)
        have e2 : (0 : Int) ≤ (p : Int) := by omega
        have e3 : (0 : Int) ≤ (p : Int) + m := by omega
        go_region_held3 (fun w' => w'.cell? ⟨g, 0, none⟩ = some (.slice A l.length c) ∧ w'.cell? ⟨g, 1, none⟩ = some (.int .i64 (p : Nat)))
          (first | go_keep | (go_split_ands; exact ⟨by rw [World.cell?_of_block (hg2.block g (by have := HL.out; simp; omega) (by simp [Value.ownBlock]; have := HL.out; omega))]; go_simp, by rw [World.cell?_of_block (hg2.block g (by have := HL.out; simp; omega) (by simp [Value.ownBlock]; have := HL.out; omega))]; go_simp⟩))
          ((refine st_appendRd enc8 (h1e := fun _ => rfl) (by rfl) _ _ _ (by rfl) Try.underlying22 info_u8 (by rfl) (Own.lit (B := w.heap.size) ([] : List UInt8) #[] (by rfl) (by simp) (by simp)) (HCR.out (fun k => k = g ∨ M k) _ l (HRD.out.stp0 (by repeat (first | exact Stp.refl _ _ | apply Stp.alloc | apply Stp.drew | apply Stp.drewN)))) (by rfl) (by rfl) (by simp; omega) (by simp; omega) (by simp) ?_; intro v2 w2 ho2 hg2))
        have hsz : (w.drewN (nq + 1)).heap.size = w.heap.size := rfl
        have hs2 : Stp (fun _ => False) w w2 := (((Stp.refl _ _).drewN (nq + 1)).alloc _).grown hg2 (by
          intro k hk hlt
          simp [Value.ownBlock] at hk
          omega)
        have hc1' := hs2.cell hc1 id
        have hg' := hs2.blk HG.out id
        have hf1' := blk_free hg' 1
        have HO2 := Lib.hid ho2
        have HS2 := Lib.hid hs2
        have HG2 := Lib.hid hg'
        clear ho2 hg2 hs2 hg'
        go_wp2
        go_ret
        refine ⟨_, rfl, ?_, ⟨hM, A, c, p + m, l, hll, hpm, ?_, ?_, ?_⟩, ?_⟩
        · have := HO2.out.step (S := fun k => k = g) ((Stp.refl _ _).setg 1 (.int .i64 ((p : Int) + m))) (fun k hk hkg => by
            have := (HO2.out.lt k hk).1
            have := HL.out
            omega)
          rw [List.nil_append, List.drop_take, Nat.add_sub_cancel_left] at this
          exact this
        · simpa using blk_set HG2.out 1 (.int .i64 ((p : Int) + m))
        · exact (HRD.out.stp0 HS2.out).step (S := fun k => k = g) ((Stp.refl _ _).setg 1 _) (fun _ _ h => .inl h)
        · simp [List.drop_drop]
        · exact HS2.out.to.setg 1 _

theorem rtake_len (s : RSt) (n : Int) : (rtake s n).1.length ≤ s.1.length ∧ (rtake s n).2.1.length ≤ s.1.length := by
  unfold rtake
  split
  · simp
  · simp
    omega
theorem rtake4 (s : RSt) (size : Int) : (rtake s (clampN size : Nat)).1.length ≤ 4 := by
  have := (clampN_le size).2
  unfold rtake
  split
  · simp
  · simp
    omega
theorem beNum_le (x : List UInt8) (h : x.length ≤ 4) : (beNum x : Int) ≤ 4294967295 := by
  have hb := beNum_lt x
  have h2 : 256 ^ x.length ≤ 256 ^ 4 := Nat.pow_le_pow_right (by decide) h
  omega

set_option maxHeartbeats 1000000 in
theorem numR_any (M : Nat → Prop) (g : Nat) (s : RSt) (size : Int) (w : World) (hr : IsRf M w g s) :
    Calls Try.prog 28 #[.pointer (some ⟨g, 0, none⟩), .int .i64 size] w fun e w' => e = .returned (.int .i64 (rnum s size).1) ∧ IsRf M w' g (rnum s size).2 ∧ Stp (fun k => k = g) w w' := by
  have HR := Lib.hid hr
  clear hr
  have hxl := rtake4 s size
  obtain ⟨x, hx⟩ : ∃ x, x = (rtake s (clampN size : Nat)).1 := ⟨_, rfl⟩
  rw [← hx] at hxl
  have HX := Lib.hid hx
  clear hx
  go_enter Try.func28, Try.ntmps28
  go_wp2_with (first
    | (go_at_call 65; refine (clampR_any _ _).mono ?_; rintro e w' ⟨rfl, rfl⟩)
    | (go_at_call 30; refine stopc ?_))
  refine Stop.go ?_
  refine (takeR_any M g s _ _ HR.out).mono ?_
  rintro e w1 ⟨v1, rfl, ho1, hi1, hs1⟩
  rw [← HX.out] at ho1
  obtain ⟨A, c, rfl, hle⟩ := ho1.form
  have hrd := ho1.rd (h1 := fun _ => rfl) (M := fun _ => False) (fun _ _ => id)
  have HRD := Lib.hid hrd
  have HI := Lib.hid hi1
  have HS := Lib.hid hs1
  clear ho1 hi1 hs1 hrd
  go_wp2
  go_loop [6, 7] (fun n i => ∃ k : Nat, k ≤ x.length ∧ i = .int .i64 k ∧ n = .int .i64 (beNum (x.take k) : Nat)) (fun _ i => x.length - (intOf i).toNat)
  case atStart => exact ⟨0, Nat.zero_le _, rfl, rfl⟩
  case round =>
    obtain ⟨k, hk, rfl, rfl⟩ := hrel
    by_cases hlt : k < x.length
    · obtain ⟨ad, rfl, _, hcell⟩ := plain_cell HRD.out k hlt
      have hb2 := beNum_le (x.take k) (by simp; omega)
      have hb3 := x[k].toNat_lt
      simp only [enc8] at hcell
      go_wp2
      go_round
      case rel => exact ⟨k + 1, by omega, by go_num, by rw [take_snoc _ _ hlt, beNum_snoc]; go_num⟩
      case measure => simp [intOf]; omega
    · obtain rfl : k = x.length := by omega
      go_wp2
      go_ret
      refine ⟨ret_i ?_, HI.out, HS.out⟩
      unfold rnum
      rw [← HX.out]

set_option maxHeartbeats 1000000 in
theorem rvecR_any (M : Nat → Prop) (g : Nat) (s : RSt) (size : Int) (w : World) (hr : IsRf M w g s) :
    Calls Try.prog 32 #[.pointer (some ⟨g, 0, none⟩), .int .i64 size] w (RfRet M w g (rvec s size).1 (rvec s size).2) := by
  have HR := Lib.hid hr
  clear hr
  have key : ∀ (b : Bool) (w1 : World), (rnum s size).2.2 = b → IsRf M w1 g (rnum s size).2 → w1.cell? ⟨g, 2, none⟩ = some (.bool b) := by
    rintro b w1 rfl ⟨_, A, c, p, l, _, _, hg, _⟩
    rw [blk_cell hg]
    rfl
  by_cases hb : (rnum s size).2.2 = true
  · have hv : rvec s size = ([], (rnum s size).2) := by unfold rvec; rw [if_pos hb]
    rw [hv]
    have KEY := Lib.hid (fun w1 => key true w1 hb)
    clear key hv hb
    go_enter Try.func32, Try.ntmps32
    go_wp2_with (go_at_call 28; refine (numR_any M g s _ _ HR.out).mono ?_; rintro e w1 ⟨rfl, hi1, hs1⟩; have hc := KEY.out _ hi1; have HI := Lib.hid hi1; have HS := Lib.hid hs1; clear hi1 hs1)
    go_ret
    exact ⟨_, rfl, Own.nil _ _ _ _, HI.out, HS.out⟩
  · have hv : rvec s size = rtake (rnum s size).2 (rnum s size).1 := by unfold rvec; rw [if_neg hb]
    rw [hv]
    have KEY := Lib.hid (fun w1 => key false w1 (by simpa using hb))
    clear key hv hb
    go_enter Try.func32, Try.ntmps32
    go_wp2_with (first
      | (go_at_call 28; refine (numR_any M g s _ _ HR.out).mono ?_; rintro e w1 ⟨rfl, hi1, hs1⟩; have hc := KEY.out _ hi1; have HI := Lib.hid hi1; have HS := Lib.hid hs1; clear hi1 hs1)
      | (go_at_call 30; refine (takeR_any M g (rnum s size).2 _ _ HI.out).mono ?_; rintro e w2 ⟨v2, rfl, ho2, hi2, hs2⟩; have HO2 := Lib.hid ho2; have HI2 := Lib.hid hi2; have HS2 := Lib.hid hs2; clear ho2 hi2 hs2))
    go_ret
    exact ⟨_, rfl, HO2.out.lower HS.out.size, HI2.out, HS.out.trans HS2.out⟩

set_option maxHeartbeats 400000 in
theorem leftR_any (M : Nat → Prop) (g : Nat) (s : RSt) (w : World) (hr : IsRf M w g s) :
    Calls Try.prog 34 #[.pointer (some ⟨g, 0, none⟩)] w fun e w' => e = .returned (.int .i64 (s.1.length : Nat)) ∧ Stp (fun _ => False) w w' := by
  obtain ⟨_, A, c, p, l, hll, hpl, hg, _, hs⟩ := hr
  have hc0 := blk_cell (j := 0) hg
  have hc1 := blk_cell (j := 1) hg
  have hc2 := blk_cell (j := 2) hg
  clear hg
  obtain ⟨s1, bad⟩ := s
  cases bad
  · simp only [Bool.false_eq_true, if_false] at hs
    have e : (s1.length : Int) = (l.length : Int) - p := by rw [hs]; simp; omega
    have HE := Lib.hid e
    clear hs e
    go_enter Try.func34, Try.ntmps34
    go_wp2_with fail
    go_quiet (fail)
    go_wp2
    go_ret
    exact ⟨ret_i HE.out.symm, (Stp.refl _ _).drewN _⟩
  · simp only [if_true] at hs
    subst hs
    go_enter Try.func34, Try.ntmps34
    go_wp2
    go_ret
    exact ⟨rfl, Stp.refl _ _⟩

theorem and_255 (n : Int) (m : Nat) (hm : m < 4) : bits .and .u64 ((n % 18446744073709551616) / 2 ^ (8 * m)) 255 % 256 = ((toU8 (n / 256 ^ m)).toNat : Int) := by
  have h0 : 0 ≤ (n % 18446744073709551616) / 2 ^ (8 * m) ∧ (n % 18446744073709551616) / 2 ^ (8 * m) < 18446744073709551616 := by
    match m, hm with
    | 0, _ => omega
    | 1, _ => omega
    | 2, _ => omega
    | 3, _ => omega
  have h := bits_mask .u64 64 (Nat.le_refl _) (fun n h0 h1 => by rw [u64_wrap_mod]; omega) 8 (by decide) ((n % 18446744073709551616) / 2 ^ (8 * m)) h0.1 (by omega)
  rw [show ((2 : Int) ^ 8 - 1) = 255 by decide] at h
  rw [h, byte_of n m hm]
  omega

set_option maxHeartbeats 1000000 in
theorem putR_any (M : Nat → Prop) (v : Value) (b : List UInt8) (n size : Int) (w : World) (hb : Rd u8 M w v b) (hl : b.length ≤ 140737488351232) :
    Calls Try.prog 25 #[v, .int .i64 n, .int .i64 size] w (NewB w (b ++ be n (clampN size))) := by
  obtain ⟨A, c, rfl, hle⟩ := hb.form
  have HB := Lib.hid hb
  clear hb
  obtain ⟨hs1, hs4⟩ := clampN_le size
  go_enter Try.func25, Try.ntmps25
  go_wp2_with (with_reducible refine stop (N := 11) rfl ?_)
  refine Stop.go ?_
  refine wp_appendRd enc8 (h1e := fun _ => rfl) rfl _ _ _ rfl Try.underlying22 info_u8 rfl (Own.lit (B := w.heap.size) ([] : List UInt8) #[] rfl (by simp) (by simp)) (HB.out.stp0 ((Stp.refl _ _).alloc _)) rfl rfl (by simp; omega) (by simp; omega) (by simp) ?_
  intro v1 w1 ho1 hg1
  have HO1 := Lib.hid ho1
  have HS1 := Lib.hid (((Stp.refl (fun _ => False) w).alloc _).grown hg1 (by
          intro k hk hlt
          simp [Value.ownBlock] at hk
          omega))
  clear ho1 hg1
  go_wp2_with (go_at_call 65; refine (clampR_any _ _).mono ?_; rintro e w' ⟨rfl, rfl⟩)
  have hcl : clampN size ≤ clampN size := Nat.le_refl _
  rw [List.nil_append] at HO1
  go_loopg [7, 8] (clampN size) (fun k o i wr => k ≤ clampN size ∧ i = .int .i64 ((k : Int) - 1) ∧ Own enc8 5 w.heap.size wr o (b ++ be (n / 256 ^ k) (clampN size - k)) ∧ Stp (fun _ => False) w wr)
  case atStart => exact ⟨Nat.le_refl _, by go_num, by simpa [be] using HO1.out, HS1.out⟩
  case round =>
    obtain ⟨hk, rfl, ho, hs⟩ := hrel
    have HO := Lib.hid ho
    have HS := Lib.hid hs
    clear ho hs
    by_cases h0 : gk = 0
    · subst h0
      go_wp2
      go_ret
      exact ⟨_, rfl, by simpa using HO.out, HS.out⟩
    · obtain ⟨m, rfl⟩ : ∃ m, gk = m + 1 := ⟨gk - 1, by omega⟩
      go_wp2_with (with_reducible refine stop (N := 29) rfl ?_)
      refine Stop.go ?_
      refine wp_append1 enc8 (toU8 (n / 256 ^ m)) rfl rfl _ _ _ rfl Try.underlying22 info_u8 rfl (HO.out.stp0 ((Stp.refl _ _).alloc _)) rfl ⟨wr.heap.size, 0, none⟩ 1 rfl ?_ ?_ ?_ ?_ ?_
      · rw [World.cell?_alloc_new]
        simp only [u64_wrap_mod, and_255 n m (by omega)]
        rfl
      · have := be_len (n / 256 ^ (m + 1)) (clampN size - (m + 1))
        simp
        omega
      · have := be_len (n / 256 ^ (m + 1)) (clampN size - (m + 1))
        simp
        omega
      · have := HS.out.size
        simp
        omega
      · intro v3 w3 ho3 hg3
        have HO3 := Lib.hid ho3
        have HS3 := Lib.hid ((HS.out.alloc _).own (HO.out.stp0 ((Stp.refl _ _).alloc _)) hg3)
        clear ho3 hg3
        go_wp2
        go_roundg m
        case measure => omega
        case rel =>
          refine ⟨by omega, by go_num, ?_, HS3.out⟩
          have := HO3.out
          rw [List.append_assoc] at this
          rw [show clampN size - m = (clampN size - (m + 1)) + 1 by omega]
          show Own _ _ _ _ _ (b ++ (be (n / 256 ^ m / 256) (clampN size - (m + 1)) ++ [toU8 (n / 256 ^ m)]))
          rw [Int.ediv_ediv_of_nonneg (Int.pow_nonneg (by decide)), ← Int.pow_succ]
          exact this

theorem shl_le (n m : Nat) (hm : m ≤ 4) : decide (wrap64 (2 ^ (8 * m)) ≤ (n : Int)) = decide (256 ^ m ≤ n) := by
  have : wrap64 (2 ^ (8 * m)) = ((256 ^ m : Nat) : Int) := by
    match m, hm with
    | 0, _ => unfold wrap64; omega
    | 1, _ => unfold wrap64; omega
    | 2, _ => unfold wrap64; omega
    | 3, _ => unfold wrap64; omega
    | 4, _ => unfold wrap64; omega
  rw [this, Bool.eq_iff_iff]
  simp only [decide_eq_true_eq]
  exact Int.ofNat_le

set_option maxHeartbeats 1000000 in
theorem vecR_any (M : Nat → Prop) (v y : Value) (b x : List UInt8) (size : Int) (w : World) (hb : Rd u8 M w v b) (hx : Rd u8 M w y x) (hl : b.length ≤ 140737488351232 ∧ b.length + x.length + 4 ≤ 140737488355328 ∧ x.length ≤ 140737488351232) :
    Calls Try.prog 24 #[v, .int .i64 size, y] w (NewB2 w (vecB b size x).1 (vecB b size x).2) := by
  obtain ⟨A, c, rfl, hle⟩ := hb.form
  obtain ⟨A2, c2, rfl, hle2⟩ := hx.form
  have HB := Lib.hid hb
  have HX := Lib.hid hx
  clear hb hx
  obtain ⟨hs1, hs4⟩ := clampN_le size
  obtain ⟨hl1, hl2, hl3⟩ := hl
  have hsh := shl_le x.length (clampN size) hs4
  by_cases hfit : x.length < 256 ^ clampN size
  · have hv : vecB b size x = (b ++ be x.length (clampN size) ++ x, true) := by unfold vecB; rw [if_pos hfit]
    rw [hv]
    rw [show decide (256 ^ clampN size ≤ x.length) = false by simpa using hfit] at hsh
    clear hv hfit
    go_enter Try.func24, Try.ntmps24
    go_wp2_with (first
      | (go_at_call 65; refine (clampR_any _ _).mono ?_; rintro e w' ⟨rfl, rfl⟩)
      | (go_at_call 25; refine stopc ?_))
    refine Stop.go ?_
    refine (putR_any M _ b _ _ _ HB.out hl1).mono ?_
    rintro e w1 ⟨v1, rfl, ho1, hs1⟩
    have HO := Lib.hid ho1
    have HS := Lib.hid hs1
    clear ho1 hs1
    go_wp2_with (with_reducible refine stop (N := 25) rfl ?_)
    refine Stop.go ?_
    refine wp_appendRd enc8 (h1e := fun _ => rfl) rfl _ _ _ rfl Try.underlying22 info_u8 rfl HO.out (HX.out.stp0 HS.out) rfl rfl ?_ ?_ HS.out.size ?_
    · simp [be_len]
      omega
    · simp [be_len]
      omega
    · intro v2 w2 ho2 hg2
      have HO2 := Lib.hid ho2
      have HS2 := Lib.hid (HS.out.own HO.out hg2)
      clear ho2 hg2
      go_wp2
      go_ret2
      exact ⟨_, rfl, HO2.out, HS2.out⟩
  · have hv : vecB b size x = (b, false) := by unfold vecB; rw [if_neg hfit]
    rw [hv]
    rw [show decide (256 ^ clampN size ≤ x.length) = true by simpa using hfit] at hsh
    clear hv hfit
    go_enter Try.func24, Try.ntmps24
    go_wp2_with (first
      | (go_at_call 65; refine (clampR_any _ _).mono ?_; rintro e w' ⟨rfl, rfl⟩)
      | (with_reducible refine stop (N := 18) rfl ?_))
    refine Stop.go ?_
    refine wp_appendRd enc8 (h1e := fun _ => rfl) rfl _ _ _ rfl Try.underlying22 info_u8 rfl (Own.lit (B := w.heap.size) ([] : List UInt8) #[] rfl (by simp) (by simp)) (HB.out.stp0 ((Stp.refl _ _).alloc _)) rfl rfl ?_ ?_ (by simp) ?_
    · simp
      omega
    · simp
      omega
    · intro v2 w2 ho2 hg2
      have HO2 := Lib.hid ho2
      have HS2 := Lib.hid (((Stp.refl (fun _ => False) w).alloc _).grown hg2 (by
          intro k hk hlt
          simp [Value.ownBlock] at hk
          omega))
      clear ho2 hg2
      go_wp2
      go_ret2
      exact ⟨_, rfl, HO2.out, HS2.out⟩
end Go.Proofs.Ytdmcmfjhlpnaeaa.L
