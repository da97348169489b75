/- BePuts: the walk. -/
import Derived.Test.YtahjmnamdmdloaaSa
import Derived.Deep.DeepCutAuto
import Derived.Deep.RegionWith
set_option linter.unusedVariables false
set_option linter.unusedSimpArgs false
namespace Go.Proofs.Ytahjmnamdmdloaa.L
open Go.RowKit Go.Proofs

abbrev convB (W : World) (v : Value) (l : List UInt8) : Prop := (convert 22 9 v).run Try.prog W = .ok (.string (strB l)) W
theorem conv_of {M : Nat → Prop} {W : World} {v : Value} {l : List UInt8} (h : Rd u8 M W v l) : convB W v l :=
  run_strOf (P := Try.prog) 22 9 5 h Try.underlying22 Try.underlying5 Try.underlying9
theorem conv_own {B e : Nat} {W : World} {v : Value} {l : List UInt8} (h : Own enc8 e B W v l) : convB W v l := conv_of (h.rd (h1 := fun _ => rfl) (M := fun _ => False) (fun _ _ => id))

set_option maxHeartbeats 2000000 in
theorem bePuts_any (M : Nat → Prop) (v0 : Value) (b : List UInt8) (n size : Int) (v3 : Value) (x : List UInt8) (w : World) (hb : Rd u8 M w v0 b) (hx : Rd u8 M w v3 x) :
    Calls Try.prog 3 #[v0, .int .i64 n, .int .i64 size, v3] w fun e w' => e = .returned (.bool true) ∧ Stp (fun _ => False) w w' := by
  obtain ⟨A, c, rfl, hle⟩ := hb.form
  obtain ⟨A3, c3, rfl, hle3⟩ := hx.form
  have HB := Lib.hid hb
  have HX := Lib.hid hx
  clear hb hx
  by_cases hg1 : 3000 < b.length
  · go_enter Try.func3, Try.ntmps3
    go_wp2_with (go_at_call 9; refine (small_any _).mono ?_; rintro e w1 ⟨rfl, hs⟩; have HS := Lib.hid hs; clear hs)
    go_ret
    exact ⟨rfl, HS.out⟩
  by_cases hg2 : 70000 < x.length
  · go_enter Try.func3, Try.ntmps3
    go_wp2_with (go_at_call 9; refine (small_any _).mono ?_; rintro e w1 ⟨rfl, hs⟩; have HS := Lib.hid hs; clear hs)
    go_ret
    exact ⟨rfl, HS.out⟩
  go_enter Try.func3, Try.ntmps3
  go_wp2_with (first
    | (go_at_call 9; refine (small_any _).mono ?_; rintro e w1 ⟨rfl, hs⟩; have HS := Lib.hid hs; have hcb := conv_of (HB.out.stp0 HS.out); clear hs)
    | (go_at_call 10; refine stopc ?_))
  refine Stop.go ?_
  clear hcb
  refine (put_any M _ b _ _ _ (HB.out.stp0 HS.out) (by omega)).mono ?_
  rintro e w2 ⟨p, rfl, ho2, hs2⟩
  have HO2 := Lib.hid ho2
  have HS2 := Lib.hid (HS.out.trans hs2)
  clear ho2 hs2
  go_wp2_with (go_at_call 11; refine stopc ?_)
  refine Stop.go ?_
  refine (vec_any M _ _ b x _ _ (HB.out.stp0 HS2.out) (HX.out.stp0 HS2.out) (by omega)).mono ?_
  rintro e w3 ⟨v, rfl, ho3, hs3⟩
  have HO3 := Lib.hid ho3
  have HT3 := Lib.hid hs3
  have HS3 := Lib.hid (HS2.out.trans hs3)
  clear ho3 hs3
  go_wp2_with (go_at_call 12; refine stopc ?_)
  refine Stop.go ?_
  refine (vecR_any M _ _ b x _ _ (HB.out.stp0 HS3.out) (HX.out.stp0 HS3.out) (by omega)).mono ?_
  rintro e w4 ⟨y, rfl, ho4, hs4⟩
  have HO4 := Lib.hid ho4
  have HT4 := Lib.hid hs4
  have HS4 := Lib.hid (HS3.out.trans hs4)
  clear ho4 hs4
  go_wp2_with fail
  have hk : ∀ w', Stp (fun _ => False) w4 w' → convB w' p (b ++ be n (clampN size)) ∧ convB w' v (vecB b size x).1 ∧ convB w' y (vecB b size x).1 := fun w' h =>
      ⟨conv_own (HO2.out.stp0 (HT3.out.trans (HT4.out.trans h))), conv_own (HO3.out.stp0 (HT4.out.trans h)), conv_own (HO4.out.stp0 h)⟩
  have HK := Lib.hid hk
  clear hk
  refine wp_region_held_drew (S := (fun w' => convB w' p (b ++ be n (clampN size)) ∧ convB w' v (vecB b size x).1 ∧ convB w' y (vecB b size x).1)) (by kernel_rfl) (HK.out _ (Stp.refl _ _).drew) (fun hHeld => ?_)
  try (change wpAnyH _ _ _ _ _ _ _ _ (World.drew _))
  refine rg_take (i := 0) (o := { dst := some 48, op := Op.move (Operand.tmp 11), type := 22, pos := "law.go:41", after := #[], guard := none }) (v := ?rgv1) rfl (by kernel_rfl) (by kernel_rfl) (by kernel_rfl) (fun _ _ _ h => h) (by rfl) (fun w hSw => ?rgy1) hHeld ?_
  case rgy1 => (try dsimp only at hSw); first | (go_simp; done) | (go_simp; with_reducible rfl)
  try simp only [Act.put, List.setIfInBounds_toArray, List.set_cons_zero, List.set_cons_succ]
  refine rg_take (i := 1) (o := { dst := some 49, op := Op.convert 22 9 (Operand.tmp 48), type := 9, pos := "law.go:41", after := #[{ on := 0, ground := Ground.data }], guard := none }) (v := ?rgv2) rfl (by kernel_rfl) (by kernel_rfl) (by kernel_rfl) (fun _ _ _ h => h) (by rfl) (fun w hSw => ?rgy2) hHeld ?_
  case rgy2 => (try dsimp only at hSw); first | (go_simp; done) | (go_simp; with_reducible rfl)
  try simp only [Act.put, List.setIfInBounds_toArray, List.set_cons_zero, List.set_cons_succ]
  refine rg_take (i := 2) (o := { dst := some 50, op := Op.move (Operand.tmp 0), type := 22, pos := "law.go:41", after := #[], guard := none }) (v := ?rgv3) rfl (by kernel_rfl) (by kernel_rfl) (by kernel_rfl) (fun _ _ _ h => h) (by rfl) (fun w hSw => ?rgy3) hHeld ?_
  case rgy3 => (try dsimp only at hSw); first | (go_simp; done) | (go_simp; with_reducible rfl)
  try simp only [Act.put, List.setIfInBounds_toArray, List.set_cons_zero, List.set_cons_succ]
  refine rg_take (i := 3) (o := { dst := some 51, op := Op.move (Operand.tmp 1), type := 3, pos := "law.go:41", after := #[], guard := none }) (v := ?rgv4) rfl (by kernel_rfl) (by kernel_rfl) (by kernel_rfl) (fun _ _ _ h => h) (by rfl) (fun w hSw => ?rgy4) hHeld ?_
  case rgy4 => (try dsimp only at hSw); first | (go_simp; done) | (go_simp; with_reducible rfl)
  try simp only [Act.put, List.setIfInBounds_toArray, List.set_cons_zero, List.set_cons_succ]
  refine rg_take (i := 4) (o := { dst := some 52, op := Op.move (Operand.tmp 2), type := 3, pos := "law.go:41", after := #[], guard := none }) (v := ?rgv5) rfl (by kernel_rfl) (by kernel_rfl) (by kernel_rfl) (fun _ _ _ h => h) (by rfl) (fun w hSw => ?rgy5) hHeld ?_
  case rgy5 => (try dsimp only at hSw); first | (go_simp; done) | (go_simp; with_reducible rfl)
  try simp only [Act.put, List.setIfInBounds_toArray, List.set_cons_zero, List.set_cons_succ]
  refine wpAnyH_ready (rs := [5]) (by kernel_rfl) (by simp) ?_
  refine (AllReadyH.cons (o := { dst := some 53, op := Op.call { callee := Callee.value (Operand.func 13), args := #[Operand.tmp 50, Operand.tmp 51, Operand.tmp 52], argTypes := #[22, 3, 3] }, type := 22, pos := "law.go:41", after := #[{ on := 2, ground := Ground.data }, { on := 3, ground := Ground.data }, { on := 4, ground := Ground.data }], guard := none }) rfl (fun K hK => ?_) AllReadyH.nil)
  go_simp
  refine (putR_any M _ b _ _ _ ((HB.out.stp0 HS4.out).stp0 ((Stp.refl _ _).drew)) (by omega)).mono ?_
  rintro e w5 ⟨q, rfl, ho5, hs5⟩
  have HS5 := Lib.hid (((Stp.refl (fun _ => False) w4).drew).trans hs5)
  have HO5 := Lib.hid ho5
  clear ho5 hs5
  show K _ _
  clear hHeld
  refine hK.out _ _ (HK.out _ HS5.out) (fun hHeld => ?_)
  clear hK K
  try simp only [Act.put, List.setIfInBounds_toArray, List.set_cons_zero, List.set_cons_succ]
  refine rg_more (T := (fun w' => convB w' q (b ++ be n (clampN size)))) ?_
  replace hHeld := And.intro hHeld (conv_own HO5.out)
  refine rg_take (i := 6) (o := { dst := some 54, op := Op.convert 22 9 (Operand.tmp 53), type := 9, pos := "law.go:41", after := #[{ on := 5, ground := Ground.data }], guard := none }) (v := ?rgv6) rfl (by kernel_rfl) (by kernel_rfl) (by kernel_rfl) (fun _ _ _ h => h) (by rfl) (fun w hSw => ?rgy6) hHeld ?_
  case rgy6 => (try dsimp only at hSw); first | (go_simp; done) | (go_simp; with_reducible rfl)
  try simp only [Act.put, List.setIfInBounds_toArray, List.set_cons_zero, List.set_cons_succ]
  refine rg_take (i := 7) (o := { dst := some 55, op := Op.binOp BinOp.eql 9 (Operand.tmp 49) (Operand.tmp 54) 9, type := 4, pos := "law.go:41", after := #[{ on := 1, ground := Ground.data }, { on := 6, ground := Ground.data }], guard := none }) (v := ?rgv7) rfl (by kernel_rfl) (by kernel_rfl) (by kernel_rfl) (fun _ _ _ h => h) (by rfl) (fun w hSw => ?rgy7) hHeld ?_
  case rgy7 => (try dsimp only at hSw); first | (go_simp; done) | (go_simp; with_reducible rfl)
  try simp only [Act.put, List.setIfInBounds_toArray, List.set_cons_zero, List.set_cons_succ]
  refine rg_take (i := 8) (o := { dst := some 56, op := Op.move (Operand.tmp 55), type := 4, pos := "law.go:41", after := #[{ on := 7, ground := Ground.data }, { on := 5, ground := Ground.chain }], guard := none }) (v := ?rgv8) rfl (by kernel_rfl) (by kernel_rfl) (by kernel_rfl) (fun _ _ _ h => h) (by rfl) (fun w hSw => ?rgy8) hHeld ?_
  case rgy8 => (try dsimp only at hSw); first | (go_simp; done) | (go_simp; with_reducible rfl)
  try simp only [Act.put, List.setIfInBounds_toArray, List.set_cons_zero, List.set_cons_succ]
  refine rg_take (i := 9) (o := { dst := some 57, op := Op.move (Operand.tmp 12), type := 22, pos := "law.go:41", after := #[{ on := 8, ground := Ground.guard }], guard := some (8, true) }) (v := ?rgv9) rfl (by kernel_rfl) (by kernel_rfl) (by kernel_rfl) (fun _ _ _ h => h) (by rfl) (fun w hSw => ?rgy9) hHeld ?_
  case rgy9 => (try dsimp only at hSw); first | (go_simp; done) | (go_simp; with_reducible rfl)
  try simp only [Act.put, List.setIfInBounds_toArray, List.set_cons_zero, List.set_cons_succ]
  refine rg_take (i := 10) (o := { dst := some 58, op := Op.convert 22 9 (Operand.tmp 57), type := 9, pos := "law.go:41", after := #[{ on := 9, ground := Ground.data }, { on := 8, ground := Ground.guard }], guard := some (8, true) }) (v := ?rgv10) rfl (by kernel_rfl) (by kernel_rfl) (by kernel_rfl) (fun _ _ _ h => h) (by rfl) (fun w hSw => ?rgy10) hHeld ?_
  case rgy10 => (try dsimp only at hSw); first | (go_simp; done) | (go_simp; with_reducible rfl)
  try simp only [Act.put, List.setIfInBounds_toArray, List.set_cons_zero, List.set_cons_succ]
  refine rg_take (i := 11) (o := { dst := some 59, op := Op.move (Operand.tmp 14), type := 22, pos := "law.go:41", after := #[{ on := 8, ground := Ground.guard }], guard := some (8, true) }) (v := ?rgv11) rfl (by kernel_rfl) (by kernel_rfl) (by kernel_rfl) (fun _ _ _ h => h) (by rfl) (fun w hSw => ?rgy11) hHeld ?_
  case rgy11 => (try dsimp only at hSw); first | (go_simp; done) | (go_simp; with_reducible rfl)
  try simp only [Act.put, List.setIfInBounds_toArray, List.set_cons_zero, List.set_cons_succ]
  refine rg_take (i := 12) (o := { dst := some 60, op := Op.convert 22 9 (Operand.tmp 59), type := 9, pos := "law.go:41", after := #[{ on := 11, ground := Ground.data }, { on := 8, ground := Ground.guard }], guard := some (8, true) }) (v := ?rgv12) rfl (by kernel_rfl) (by kernel_rfl) (by kernel_rfl) (fun _ _ _ h => h) (by rfl) (fun w hSw => ?rgy12) hHeld ?_
  case rgy12 => (try dsimp only at hSw); first | (go_simp; done) | (go_simp; with_reducible rfl)
  try simp only [Act.put, List.setIfInBounds_toArray, List.set_cons_zero, List.set_cons_succ]
  refine rg_take (i := 13) (o := { dst := some 61, op := Op.binOp BinOp.eql 9 (Operand.tmp 58) (Operand.tmp 60) 9, type := 4, pos := "law.go:41", after := #[{ on := 10, ground := Ground.data }, { on := 12, ground := Ground.data }, { on := 8, ground := Ground.guard }], guard := some (8, true) }) (v := ?rgv13) rfl (by kernel_rfl) (by kernel_rfl) (by kernel_rfl) (fun _ _ _ h => h) (by rfl) (fun w hSw => ?rgy13) hHeld ?_
  case rgy13 => (try dsimp only at hSw); first | (go_simp; done) | (go_simp; with_reducible rfl)
  try simp only [Act.put, List.setIfInBounds_toArray, List.set_cons_zero, List.set_cons_succ]
  refine rg_take (i := 14) (o := { dst := some 62, op := Op.pick (Operand.tmp 56) (Operand.tmp 61) (Operand.const (Value.bool false)), type := 4, pos := "law.go:41", after := #[{ on := 8, ground := Ground.data }, { on := 13, ground := Ground.data }], guard := none }) (v := ?rgv14) rfl (by kernel_rfl) (by kernel_rfl) (by kernel_rfl) (fun _ _ _ h => h) (by rfl) (fun w hSw => ?rgy14) hHeld ?_
  case rgy14 => (try dsimp only at hSw); first | (go_simp; done) | (go_simp; with_reducible rfl)
  try simp only [Act.put, List.setIfInBounds_toArray, List.set_cons_zero, List.set_cons_succ]
  refine rg_take (i := 15) (o := { dst := some 63, op := Op.move (Operand.tmp 62), type := 4, pos := "law.go:41", after := #[{ on := 14, ground := Ground.data }, { on := 8, ground := Ground.chain }], guard := none }) (v := ?rgv15) rfl (by kernel_rfl) (by kernel_rfl) (by kernel_rfl) (fun _ _ _ h => h) (by rfl) (fun w hSw => ?rgy15) hHeld ?_
  case rgy15 => (try dsimp only at hSw); first | (go_simp; done) | (go_simp; with_reducible rfl)
  try simp only [Act.put, List.setIfInBounds_toArray, List.set_cons_zero, List.set_cons_succ]
  refine rg_take (i := 16) (o := { dst := some 64, op := Op.move (Operand.tmp 13), type := 4, pos := "law.go:41", after := #[{ on := 15, ground := Ground.guard }], guard := some (15, true) }) (v := ?rgv16) rfl (by kernel_rfl) (by kernel_rfl) (by kernel_rfl) (fun _ _ _ h => h) (by rfl) (fun w hSw => ?rgy16) hHeld ?_
  case rgy16 => (try dsimp only at hSw); first | (go_simp; done) | (go_simp; with_reducible rfl)
  try simp only [Act.put, List.setIfInBounds_toArray, List.set_cons_zero, List.set_cons_succ]
  refine rg_take (i := 17) (o := { dst := some 65, op := Op.move (Operand.tmp 15), type := 4, pos := "law.go:41", after := #[{ on := 15, ground := Ground.guard }], guard := some (15, true) }) (v := ?rgv17) rfl (by kernel_rfl) (by kernel_rfl) (by kernel_rfl) (fun _ _ _ h => h) (by rfl) (fun w hSw => ?rgy17) hHeld ?_
  case rgy17 => (try dsimp only at hSw); first | (go_simp; done) | (go_simp; with_reducible rfl)
  try simp only [Act.put, List.setIfInBounds_toArray, List.set_cons_zero, List.set_cons_succ]
  refine rg_take (i := 18) (o := { dst := some 66, op := Op.binOp BinOp.eql 4 (Operand.tmp 64) (Operand.tmp 65) 4, type := 4, pos := "law.go:41", after := #[{ on := 16, ground := Ground.data }, { on := 17, ground := Ground.data }, { on := 15, ground := Ground.guard }], guard := some (15, true) }) (v := ?rgv18) rfl (by kernel_rfl) (by kernel_rfl) (by kernel_rfl) (fun _ _ _ h => h) (by rfl) (fun w hSw => ?rgy18) hHeld ?_
  case rgy18 => (try dsimp only at hSw); first | (go_simp; done) | (go_simp; with_reducible rfl)
  try simp only [Act.put, List.setIfInBounds_toArray, List.set_cons_zero, List.set_cons_succ]
  refine rg_take (i := 19) (o := { dst := some 67, op := Op.pick (Operand.tmp 63) (Operand.tmp 66) (Operand.const (Value.bool false)), type := 4, pos := "law.go:41", after := #[{ on := 15, ground := Ground.data }, { on := 18, ground := Ground.data }], guard := none }) (v := ?rgv19) rfl (by kernel_rfl) (by kernel_rfl) (by kernel_rfl) (fun _ _ _ h => h) (by rfl) (fun w hSw => ?rgy19) hHeld ?_
  case rgy19 => (try dsimp only at hSw); first | (go_simp; done) | (go_simp; with_reducible rfl)
  try simp only [Act.put, List.setIfInBounds_toArray, List.set_cons_zero, List.set_cons_succ]
  refine rg_take (i := 20) (o := { dst := some 16, op := Op.assign (Operand.tmp 67), type := 4, pos := "law.go:41", after := #[{ on := 19, ground := Ground.data }, { on := 15, ground := Ground.chain }, { on := 0, ground := Ground.phase }, { on := 1, ground := Ground.phase }, { on := 2, ground := Ground.phase }, { on := 3, ground := Ground.phase }, { on := 4, ground := Ground.phase }, { on := 5, ground := Ground.phase }, { on := 6, ground := Ground.phase }, { on := 7, ground := Ground.phase }, { on := 8, ground := Ground.phase }, { on := 9, ground := Ground.phase }, { on := 10, ground := Ground.phase }, { on := 11, ground := Ground.phase }, { on := 12, ground := Ground.phase }, { on := 13, ground := Ground.phase }, { on := 14, ground := Ground.phase }, { on := 15, ground := Ground.phase }, { on := 16, ground := Ground.phase }, { on := 17, ground := Ground.phase }, { on := 18, ground := Ground.phase }, { on := 19, ground := Ground.phase }], guard := none }) (v := ?rgv20) rfl (by kernel_rfl) (by kernel_rfl) (by kernel_rfl) (fun _ _ _ h => h) (by rfl) (fun w hSw => ?rgy20) hHeld ?_
  case rgy20 => (try dsimp only at hSw); first | (go_simp; done) | (go_simp; with_reducible rfl)
  try simp only [Act.put, List.setIfInBounds_toArray, List.set_cons_zero, List.set_cons_succ]
  clear hHeld
  refine wpAnyH_done (by kernel_rfl) ?_ _
  have HO6 := Lib.hid (HO2.out.stp0 (HT3.out.trans (HT4.out.trans HS5.out)))
  have HS6 := Lib.hid (HS4.out.trans HS5.out)
  clear HO2 HO3 HO4 HO5 HK HT3 HT4
  obtain ⟨ps, hps⟩ : ∃ ps, ps = b ++ be n (clampN size) := ⟨_, rfl⟩
  rw [← hps] at HO6
  have hpl : ps.length ≤ 3004 := by
    have := clampN_le size
    rw [hps]
    simp [be_len]
    omega
  clear hps
  obtain ⟨A6, c6, rfl, hle6⟩ := HO6.out.form
  go_wp2
  go_loopw [17] (fun i wr => ∃ k : Nat, k ≤ ps.length ∧ i = .int .i64 k ∧ Stp (fun _ => False) w wr ∧ ∃ qs : List UInt8, qs.length = ps.length ∧ Own enc8 5 w1.heap.size wr (.slice A6 ps.length c6) qs) (fun i _ => ps.length - (intOf i).toNat)
  case atStart => exact ⟨0, Nat.zero_le _, rfl, HS6.out, ps, rfl, HO6.out⟩
  case round =>
    obtain ⟨k, hk, rfl, hs, qs, hql, ho⟩ := hrel
    have HS7 := Lib.hid hs
    have HO7 := Lib.hid ho
    have HQ := Lib.hid hql
    clear hs ho hql
    by_cases hlt : k < ps.length
    · obtain ⟨g, rfl, _, hBg, hgl⟩ := HO7.out.at_ (by rw [HQ.out]; omega)
      have hcell := HO7.out.cellAt k (by rw [HQ.out]; omega)
      have hfree := HO7.out.free k
      have HB7 := Lib.hid hBg
      clear hBg hgl
      go_wp2
      go_roundw
      case rel =>
        refine ⟨k + 1, by omega, by go_num, HS7.out.setCell (fun h => absurd h (by have := HB7.out; have := HS.out.size; simp; omega)) _, qs.set k 7, by rw [List.length_set, HQ.out], HO7.out.set_ k 7⟩
      case measure => simp [intOf]; omega
    · obtain rfl : k = ps.length := by omega
      have hcb := conv_of (HB.out.stp0 HS7.out)
      go_wp2
      go_ret
      exact ⟨rfl, HS7.out⟩
end Go.Proofs.Ytahjmnamdmdloaa.L
