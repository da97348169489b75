/- Rows that are compared. -/
import Derived.Test.YtdmcmfjhlpnaeaaEw
set_option linter.unusedVariables false
set_option linter.unusedSimpArgs false
namespace Go.Proofs.Ytdmcmfjhlpnaeaa.L
open Go.RowKit Go.Proofs

set_option maxHeartbeats 1000000 in
theorem rows_any (M : Nat → Prop) (v0 v1 : Value) (xs ys : List ByteArray) (w : World) (hx : Rd str M w v0 xs) (hy : Rd str M w v1 ys) (hl : xs.length ≤ 1000000000) (hl2 : ys.length ≤ 1000000000) (b : Bool) (hb : b = true ↔ xs = ys) :
    Calls Try.prog 44 #[v0, v1] w fun e w' => e = .returned (.bool b) ∧ Stp (fun _ => False) w w' := by
  obtain ⟨A0, c0, rfl, hle0⟩ := hx.form
  obtain ⟨A1, c1, rfl, hle1⟩ := hy.form
  have HX := Lib.hid hx
  have HY := Lib.hid hy
  have HB := Lib.hid hb
  clear hx hy hb
  by_cases hlen : xs.length = ys.length
  · have hlne : ((xs.length : Int) != (ys.length : Int)) = false := by rw [hlen]; simp
    have HLEN := Lib.hid hlen
    clear hlen
    go_enter Try.func44, Try.ntmps44
    go_wp2
    go_loopw [5] (fun i wr => ∃ k : Nat, k ≤ xs.length ∧ i = .int .i64 k ∧ (∀ j (hj : j < xs.length) (hj2 : j < ys.length), j < k → xs[j] = ys[j]) ∧ Stp (fun _ => False) w wr) (fun i _ => xs.length - (intOf i).toNat)
    case atStart => exact ⟨0, Nat.zero_le _, rfl, fun j _ _ h => absurd h (by omega), Stp.refl _ _⟩
    case round =>
      obtain ⟨k, hk, rfl, hall, hs⟩ := hrel
      have HALL := Lib.hid hall
      have HS := Lib.hid hs
      clear hall hs
      by_cases hlt : k < xs.length
      · have hlt2 : k < ys.length := by have := HLEN.out; omega
        obtain ⟨ad, rfl, _, hcell⟩ := plain_cell (HX.out.stp0 HS.out) k hlt
        obtain ⟨ad2, rfl, _, hcell2⟩ := plain_cell (HY.out.stp0 HS.out) k hlt2
        by_cases he : xs[k] = ys[k]
        · have hb : (xs[k].toList != ys[k].toList) = false := by rw [he]; simp
          go_wp2_with fail
          go_quiet (fail)
          go_wp2
          go_roundw
          case rel =>
            refine ⟨k + 1, by omega, by go_num, fun j hj hj2 h => ?_, HS.out.drewN _⟩
            by_cases hjk : j = k
            · subst hjk
              exact he
            · exact HALL.out j hj hj2 (by omega)
          case measure => simp [intOf]; omega
        · have hb : (xs[k].toList == ys[k].toList) = false := ba_ne he
          have hbf : b = false := by
            rw [Bool.eq_false_iff]
            intro h
            have := HB.out.1 h
            subst this
            exact he rfl
          go_wp2_with fail
          go_quiet (fail)
          go_wp2
          go_ret
          exact ⟨by rw [hbf]; rfl, HS.out.drewN _⟩
      · obtain rfl : k = xs.length := by omega
        have hbt : b = true := HB.out.2 (List.ext_getElem HLEN.out (fun j h1 h2 => HALL.out j h1 h2 h1))
        go_wp2
        go_ret
        exact ⟨by rw [hbt]; rfl, HS.out⟩
  · have hlne : ((xs.length : Int) != (ys.length : Int)) = true := by simp; omega
    have hbf : b = false := by
      rw [Bool.eq_false_iff]
      intro h
      exact hlen (by rw [HB.out.1 h])
    clear hlen
    go_enter Try.func44, Try.ntmps44
    go_wp2
    go_ret
    exact ⟨by rw [hbf]; rfl, Stp.refl _ _⟩

set_option maxHeartbeats 1000000 in
theorem ints_any (M : Nat → Prop) (v0 v1 : Value) (xs ys : List Int) (w : World) (hx : Rd (int .i64) M w v0 xs) (hy : Rd (int .i64) M w v1 ys) (hl : xs.length ≤ 1000000000) (hl2 : ys.length ≤ 1000000000) (b : Bool) (hb : b = true ↔ xs = ys) :
    Calls Try.prog 45 #[v0, v1] w fun e w' => e = .returned (.bool b) ∧ Stp (fun _ => False) w w' := by
  obtain ⟨A0, c0, rfl, hle0⟩ := hx.form
  obtain ⟨A1, c1, rfl, hle1⟩ := hy.form
  have HX := Lib.hid hx
  have HY := Lib.hid hy
  have HB := Lib.hid hb
  clear hx hy hb
  by_cases hlen : xs.length = ys.length
  · have hlne : ((xs.length : Int) != (ys.length : Int)) = false := by rw [hlen]; simp
    have HLEN := Lib.hid hlen
    clear hlen
    go_enter Try.func45, Try.ntmps45
    go_wp2
    go_loopw [5] (fun i wr => ∃ k : Nat, k ≤ xs.length ∧ i = .int .i64 k ∧ (∀ j (hj : j < xs.length) (hj2 : j < ys.length), j < k → xs[j] = ys[j]) ∧ Stp (fun _ => False) w wr) (fun i _ => xs.length - (intOf i).toNat)
    case atStart => exact ⟨0, Nat.zero_le _, rfl, fun j _ _ h => absurd h (by omega), Stp.refl _ _⟩
    case round =>
      obtain ⟨k, hk, rfl, hall, hs⟩ := hrel
      have HALL := Lib.hid hall
      have HS := Lib.hid hs
      clear hall hs
      by_cases hlt : k < xs.length
      · have hlt2 : k < ys.length := by have := HLEN.out; omega
        obtain ⟨ad, rfl, _, hcell⟩ := plain_cell (HX.out.stp0 HS.out) k hlt
        obtain ⟨ad2, rfl, _, hcell2⟩ := plain_cell (HY.out.stp0 HS.out) k hlt2
        by_cases he : xs[k] = ys[k]
        · have hb : (xs[k] != ys[k]) = false := by rw [he]; simp
          go_wp2_with fail
          go_quiet (fail)
          go_wp2
          go_roundw
          case rel =>
            refine ⟨k + 1, by omega, by go_num, fun j hj hj2 h => ?_, HS.out.drewN _⟩
            by_cases hjk : j = k
            · subst hjk
              exact he
            · exact HALL.out j hj hj2 (by omega)
          case measure => simp [intOf]; omega
        · have hb : (xs[k] != ys[k]) = true := by simpa using he
          have hbf : b = false := by
            rw [Bool.eq_false_iff]
            intro h
            have := HB.out.1 h
            subst this
            exact he rfl
          go_wp2_with fail
          go_quiet (fail)
          go_wp2
          go_ret
          exact ⟨by rw [hbf]; rfl, HS.out.drewN _⟩
      · obtain rfl : k = xs.length := by omega
        have hbt : b = true := HB.out.2 (List.ext_getElem HLEN.out (fun j h1 h2 => HALL.out j h1 h2 h1))
        go_wp2
        go_ret
        exact ⟨by rw [hbt]; rfl, HS.out⟩
  · have hlne : ((xs.length : Int) != (ys.length : Int)) = true := by simp; omega
    have hbf : b = false := by
      rw [Bool.eq_false_iff]
      intro h
      exact hlen (by rw [HB.out.1 h])
    clear hlen
    go_enter Try.func45, Try.ntmps45
    go_wp2
    go_ret
    exact ⟨by rw [hbf]; rfl, Stp.refl _ _⟩
end Go.Proofs.Ytdmcmfjhlpnaeaa.L
