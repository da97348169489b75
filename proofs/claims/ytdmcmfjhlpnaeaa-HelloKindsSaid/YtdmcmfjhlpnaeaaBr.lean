/- be: a reader's calls. -/
import Derived.Test.YtdmcmfjhlpnaeaaBe
set_option linter.unusedVariables false
set_option linter.unusedSimpArgs false
namespace Go.Proofs.Ytdmcmfjhlpnaeaa.L
open Go.RowKit Go.Proofs

theorem beNum_snoc (l : List UInt8) (c : UInt8) : beNum (l ++ [c]) = beNum l * 256 + c.toNat := by simp [beNum]
theorem beNum_lt (l : List UInt8) : beNum l < 256 ^ l.length := by
  suffices h : ∀ (l : List UInt8) (n : Nat), l.foldl (fun n c => n * 256 + c.toNat) n < (n + 1) * 256 ^ l.length by
    have := h l 0
    simpa [beNum] using this
  intro l
  induction l with
  | nil => intro n; simp
  | cons c l ih =>
    intro n
    have h1 := ih (n * 256 + c.toNat)
    have h2 := c.toNat_lt
    have h4 : (n + 1) * (256 ^ l.length * 256) = (n + 1) * 256 * 256 ^ l.length := by rw [Nat.mul_assoc, Nat.mul_comm 256]
    rw [List.foldl_cons, List.length_cons, Nat.pow_succ, h4]
    have h3 : (n * 256 + c.toNat + 1) * 256 ^ l.length ≤ (n + 1) * 256 * 256 ^ l.length := Nat.mul_le_mul_right _ (by omega)
    omega
theorem or_u32 (n : Nat) (c : UInt8) (h : n < 16777216) : bits .or .u32 ((n : Int) * 256) ((c.toNat : Int) % 4294967296) = ((n * 256 + c.toNat : Nat) : Int) := by
  have hc := c.toNat_lt
  have e : ((c.toNat : Int) % 4294967296) = c.toNat := by omega
  rw [e, bits_join .u32 32 (Nat.le_refl _) (fun n h0 h1 => by rw [IntKind.wrap_u32]; omega) 8 _ _ (by omega) (by omega) (by omega) (by omega) (by omega) (by omega)]
  simp
theorem take_snoc {α : Type} (l : List α) (k : Nat) (h : k < l.length) : l.take (k + 1) = l.take k ++ [l[k]] := by
  rw [List.take_succ_eq_append_getElem h]

set_option maxHeartbeats 1000000 in
theorem num_any (M : Nat → Prop) (g : Nat) (s : RSt) (size : Int) (w : World) (hr : IsRd M w g s) (hl : s.1.length ≤ 140737488355328) :
    Calls Try.prog 27 #[.pointer (some ⟨g, 0, none⟩), .int .i64 size] w fun e w' => e = .returned (.int .i64 (rnum s size).1) ∧ IsRd M w' g (rnum s size).2 ∧ Stp (fun k => k = g) w w' := by
  have HR := Lib.hid hr
  clear hr
  obtain ⟨hs1, hs4⟩ := clampN_le size
  obtain ⟨x, hx⟩ : ∃ x, x = (rtake s (clampN size : Nat)).1 := ⟨_, rfl⟩
  have hxl : x.length ≤ 4 := by
    rw [hx]
    unfold rtake
    split
    · simp
    · simp
      omega
  have HX := Lib.hid hx
  clear hx
  go_enter Try.func27, Try.ntmps27
  go_wp2_with (first
    | (go_at_call 64; refine (clamp_any _ _).mono ?_; rintro e w' ⟨rfl, rfl⟩)
    | (go_at_call 29; refine stopc ?_))
  refine Stop.go ?_
  refine (take_any M g s _ _ HR.out hl).mono ?_
  rintro e w1 ⟨v1, rfl, ho1, hi1, hs1⟩
  rw [← HX.out] at ho1
  obtain ⟨A, c, rfl, hle⟩ := ho1.form
  have hrd := ho1.rd (h1 := fun _ => rfl) (M := fun _ => False) (fun _ _ => id)
  have HRD := Lib.hid hrd
  have HO := Lib.hid ho1
  have HI := Lib.hid hi1
  have HS := Lib.hid hs1
  clear ho1 hi1 hs1 hrd
  go_wp2
  go_loop [5, 13] (fun n i => ∃ k : Nat, k ≤ x.length ∧ i = .int .i64 k ∧ n = .int .u32 (beNum (x.take k) : Nat)) (fun _ i => x.length - (intOf i).toNat)
  case atStart => exact ⟨0, Nat.zero_le _, rfl, rfl⟩
  case round =>
    obtain ⟨k, hk, rfl, rfl⟩ := hrel
    by_cases hlt : k < x.length
    · obtain ⟨ad, rfl, _, hcell⟩ := plain_cell HRD.out k hlt
      have hb := beNum_lt (x.take k)
      have hb2 : beNum (x.take k) < 16777216 := by
        have h1 : (x.take k).length ≤ 3 := by simp; omega
        have h2 : 256 ^ (x.take k).length ≤ 256 ^ 3 := Nat.pow_le_pow_right (by decide) h1
        omega
      clear hb
      simp only [enc8] at hcell
      go_wp2
      go_round
      case rel => exact ⟨k + 1, by omega, by go_num, by rw [or_u32 _ _ hb2, take_snoc _ _ hlt, beNum_snoc]⟩
      case measure => simp [intOf]; omega
    · obtain rfl : k = x.length := by omega
      have hb := beNum_lt x
      have hb2 : (beNum x : Int) ≤ 4294967295 := by
        have h2 : 256 ^ x.length ≤ 256 ^ 4 := Nat.pow_le_pow_right (by decide) hxl
        omega
      clear hb
      rw [List.take_length]
      go_wp2
      go_ret
      refine ⟨ret_i ?_, HI.out, HS.out⟩
      unfold rnum
      rw [← HX.out]

set_option maxHeartbeats 1000000 in
theorem rvec_any (M : Nat → Prop) (g : Nat) (s : RSt) (size : Int) (w : World) (hr : IsRd M w g s) (hl : s.1.length ≤ 140737488355328) :
    Calls Try.prog 31 #[.pointer (some ⟨g, 0, none⟩), .int .i64 size] w (RdRet M w g (rvec s size).1 (rvec s size).2) := by
  have HR := Lib.hid hr
  clear hr
  have hl2 : (rnum s size).2.1.length ≤ 140737488355328 := by
    unfold rnum rtake
    split
    · simp
    · simp
      omega
  have key : ∀ (b : Bool) (w1 : World), (rnum s size).2.2 = b → IsRd M w1 g (rnum s size).2 → w1.cell? ⟨g, 1, none⟩ = some (.bool b) := by
    rintro b w1 rfl ⟨_, A, c, hg, _⟩
    rw [blk_cell hg]
    rfl
  by_cases hb : (rnum s size).2.2 = true
  · have hv : rvec s size = ([], (rnum s size).2) := by unfold rvec; rw [if_pos hb]
    rw [hv]
    have KEY := Lib.hid (fun w1 => key true w1 hb)
    clear key hv hb
    go_enter Try.func31, Try.ntmps31
    go_wp2_with (go_at_call 27; refine (num_any M g s _ _ HR.out hl).mono ?_; rintro e w1 ⟨rfl, hi1, hs1⟩; have hc := KEY.out _ hi1; have HI := Lib.hid hi1; have HS := Lib.hid hs1; clear hi1 hs1)
    go_ret
    exact ⟨_, rfl, Own.nil _ _ _ _, HI.out, HS.out⟩
  · have hv : rvec s size = rtake (rnum s size).2 (rnum s size).1 := by unfold rvec; rw [if_neg hb]
    rw [hv]
    have KEY := Lib.hid (fun w1 => key false w1 (by simpa using hb))
    clear key hv hb
    go_enter Try.func31, Try.ntmps31
    go_wp2_with (first
      | (go_at_call 27; refine (num_any M g s _ _ HR.out hl).mono ?_; rintro e w1 ⟨rfl, hi1, hs1⟩; have hc := KEY.out _ hi1; have HI := Lib.hid hi1; have HS := Lib.hid hs1; clear hi1 hs1)
      | (go_at_call 29; refine (take_any M g (rnum s size).2 _ _ HI.out hl2).mono ?_; rintro e w2 ⟨v2, rfl, ho2, hi2, hs2⟩; have HO2 := Lib.hid ho2; have HI2 := Lib.hid hi2; have HS2 := Lib.hid hs2; clear ho2 hi2 hs2))
    go_ret
    exact ⟨_, rfl, HO2.out.lower HS.out.size, HI2.out, HS.out.trans HS2.out⟩

theorem left_any (M : Nat → Prop) (g : Nat) (s : RSt) (w : World) (hr : IsRd M w g s) (hl : s.1.length ≤ 140737488355328) :
    Calls Try.prog 33 #[.pointer (some ⟨g, 0, none⟩)] w fun e w' => e = .returned (.int .i64 (s.1.length : Nat)) ∧ w = w' := by
  obtain ⟨_, A, c, hg, _⟩ := hr
  have hc0 := blk_cell (j := 0) hg
  clear hg
  go_enter Try.func33, Try.ntmps33
  go_wp2
  go_ret
  exact ⟨rfl, rfl⟩

theorem bad_any (M : Nat → Prop) (g : Nat) (s : RSt) (w : World) (hr : IsRd M w g s) :
    Calls Try.prog 35 #[.pointer (some ⟨g, 0, none⟩)] w fun e w' => e = .returned (.bool s.2) ∧ w = w' := by
  obtain ⟨_, A, c, hg, _⟩ := hr
  have hc1 := blk_cell (j := 1) hg
  clear hg
  go_enter Try.func35, Try.ntmps35
  go_wp2
  go_ret
  exact ⟨rfl, rfl⟩

theorem done_any (M : Nat → Prop) (g : Nat) (s : RSt) (w : World) (hr : IsRd M w g s) (hl : s.1.length ≤ 140737488355328) :
    Calls Try.prog 36 #[.pointer (some ⟨g, 0, none⟩)] w fun e w' => e = .returned (.bool (!s.2 && (s.1.length : Int) == 0)) ∧ w = w' := by
  obtain ⟨_, A, c, hg, _⟩ := hr
  have hc0 := blk_cell (j := 0) hg
  have hc1 := blk_cell (j := 1) hg
  clear hg
  obtain ⟨l, bad⟩ := s
  cases bad
  · go_enter Try.func36, Try.ntmps36
    go_wp2
    go_ret
    exact ⟨rfl, rfl⟩
  · go_enter Try.func36, Try.ntmps36
    go_wp2
    go_ret
    exact ⟨rfl, rfl⟩
end Go.Proofs.Ytdmcmfjhlpnaeaa.L
