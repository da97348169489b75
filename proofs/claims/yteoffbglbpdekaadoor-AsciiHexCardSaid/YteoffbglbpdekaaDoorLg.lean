/- Layer 2: the small case; the laws. -/
import Derived.Test.YteoffbglbpdekaaDoorAh
set_option linter.unusedVariables false
set_option linter.unusedSimpArgs false
namespace Go.Proofs.YteoffbglbpdekaaDoor.L
open Go.RowKit Go.Proofs

theorem trimR_stp (s : ByteArray) (w : World) (hs : s.size ≤ 9223372036854775807) :
    Calls Tryd.prog 43 #[.string s] w fun e w' => e = .returned (.string (strB (trimS s.data.toList))) ∧ Stp (fun _ => False) w w' := (trimR_any s w hs).mono fun e w' ⟨h1, h2⟩ => ⟨h1, h2 ▸ Stp.refl _ _⟩
theorem text_stp (n : Nat) (w : World) (h : n ≤ 9223372036854775807) :
    Calls Tryd.prog 48 #[.int .i64 (n : Int)] w fun e w' => e = .returned (.string (strB (Lib.decDigits n))) ∧ Stp (fun _ => False) w w' := (text_any n w h).mono fun e w' ⟨h1, h2⟩ => ⟨h1, h2 ▸ Stp.refl _ _⟩
def TrueStp (w : World) (e : Ending) (w' : World) : Prop := e = .returned (.bool true) ∧ Stp (fun _ => False) w w'

set_option maxRecDepth 100000 in
set_option maxHeartbeats 4000000 in
theorem small02_any (w : World) : Calls Tryd.prog 35 #[] w (TrueStp w) := by
  have HS0 := Lib.hid (Stp.refl (fun _ => False) w)
  obtain ⟨R, hR⟩ : ∃ R, R = TrueStp w := ⟨_, rfl⟩
  rw [← hR]
  have HR := Lib.hid hR
  clear hR
  go_enter Tryd.func35, Tryd.ntmps35
  go_wp2_with (go_at_call 44; refine stopc ?_)
  refine Stop.go ?_
  refine (number_any _ _ _ (by decide)).mono ?_
  rintro e w1 ⟨he, hs1⟩
  obtain rfl : e = .returned (.tuple #[.int .i64 120, .bool true]) := he.trans (by kernel_rfl)
  have HS1 := Lib.hid (HS0.out.trans hs1)
  clear hs1 he
  go_wp2_with (go_at_call 44; refine stopc ?_)
  refine Stop.go ?_
  refine (number_any _ _ _ (by decide)).mono ?_
  rintro e w2 ⟨he, hs2⟩
  obtain rfl : e = .returned (.tuple #[.int .i64 0, .bool false]) := he.trans (by kernel_rfl)
  have HS2 := Lib.hid (HS1.out.trans hs2)
  clear hs2 he
  go_wp2_with (go_at_call 44; refine stopc ?_)
  refine Stop.go ?_
  refine (number_any _ _ _ (by decide)).mono ?_
  rintro e w3 ⟨he, hs3⟩
  obtain rfl : e = .returned (.tuple #[.int .i64 0, .bool false]) := he.trans (by kernel_rfl)
  have HS3 := Lib.hid (HS2.out.trans hs3)
  clear hs3 he
  go_wp2_with (go_at_call 46; refine stopc ?_)
  refine Stop.go ?_
  refine (hex_any _ _ (by decide)).mono ?_
  rintro e w4 ⟨he, hs4⟩
  obtain rfl : e = .returned (.tuple #[.int .i64 255, .bool true]) := he.trans (by kernel_rfl)
  have HS4 := Lib.hid (HS3.out.trans hs4)
  clear hs4 he
  go_wp2_with (go_at_call 46; refine stopc ?_)
  refine Stop.go ?_
  refine (hex_any _ _ (by decide)).mono ?_
  rintro e w5 ⟨he, hs5⟩
  obtain rfl : e = .returned (.tuple #[.int .i64 0, .bool false]) := he.trans (by kernel_rfl)
  have HS5 := Lib.hid (HS4.out.trans hs5)
  clear hs5 he
  go_wp2_with (go_at_call 26; refine stopc ?_)
  refine Stop.go ?_
  refine (lower_any _ _ (by decide)).mono ?_
  rintro e w6 ⟨he, hs6⟩
  obtain rfl : e = .returned (.string ⟨#[97, 196, 122, 91]⟩) := he.trans (by kernel_rfl)
  have HS6 := Lib.hid (HS5.out.trans hs6)
  clear hs6 he
  go_wp2_with (go_at_call 37; refine stopc ?_)
  refine Stop.go ?_
  refine (same_any _ _ _ (by decide) (by decide)).mono ?_
  rintro e w7 ⟨he, hs7⟩
  obtain rfl : e = .returned (.bool true) := he.trans (by kernel_rfl)
  have HS7 := Lib.hid (HS6.out.trans hs7)
  clear hs7 he
  go_wp2_with (go_at_call 37; refine stopc ?_)
  refine Stop.go ?_
  refine (same_any _ _ _ (by decide) (by decide)).mono ?_
  rintro e w8 ⟨he, hs8⟩
  obtain rfl : e = .returned (.bool false) := he.trans (by kernel_rfl)
  have HS8 := Lib.hid (HS7.out.trans hs8)
  clear hs8 he
  go_wp2_with (go_at_call 38; refine stopc ?_)
  refine Stop.go ?_
  refine (token_any _ _ (by decide)).mono ?_
  rintro e w9 ⟨he, hs9⟩
  obtain rfl : e = .returned (.bool true) := he.trans (by kernel_rfl)
  have HS9 := Lib.hid (HS8.out.trans hs9)
  clear hs9 he
  go_wp2_with (go_at_call 38; refine stopc ?_)
  refine Stop.go ?_
  refine (token_any _ _ (by decide)).mono ?_
  rintro e w10 ⟨he, hs10⟩
  obtain rfl : e = .returned (.bool false) := he.trans (by kernel_rfl)
  have HS10 := Lib.hid (HS9.out.trans hs10)
  clear hs10 he
  go_wp2_with (go_at_call 38; refine stopc ?_)
  refine Stop.go ?_
  refine (token_any _ _ (by decide)).mono ?_
  rintro e w11 ⟨he, hs11⟩
  obtain rfl : e = .returned (.bool false) := he.trans (by kernel_rfl)
  have HS11 := Lib.hid (HS10.out.trans hs11)
  clear hs11 he
  go_wp2_with (go_at_call 40; refine stopc ?_)
  refine Stop.go ?_
  refine (visible_any _ _ (by decide)).mono ?_
  rintro e w12 ⟨he, hs12⟩
  obtain rfl : e = .returned (.bool true) := he.trans (by kernel_rfl)
  have HS12 := Lib.hid (HS11.out.trans hs12)
  clear hs12 he
  go_wp2_with (go_at_call 40; refine stopc ?_)
  refine Stop.go ?_
  refine (visible_any _ _ (by decide)).mono ?_
  rintro e w13 ⟨he, hs13⟩
  obtain rfl : e = .returned (.bool false) := he.trans (by kernel_rfl)
  have HS13 := Lib.hid (HS12.out.trans hs13)
  clear hs13 he
  go_wp2_with (go_at_call 42; refine stopc ?_)
  refine Stop.go ?_
  refine (trim_any _ _ (by decide)).mono ?_
  rintro e w14 ⟨he, hs14⟩
  obtain rfl : e = .returned (.string ⟨#[97, 32, 98]⟩) := he.trans (by kernel_rfl)
  have HS14 := Lib.hid (HS13.out.trans hs14)
  clear hs14 he
  go_wp2
  rw [HR.out]
  exact ⟨rfl, HS14.out⟩

theorem decide_refl {α : Type} [DecidableEq α] (a : α) : decide (a = a) = true := by simp

set_option maxRecDepth 100000 in
set_option maxHeartbeats 4000000 in
theorem tells02_law (s b : ByteArray) (w : World) (ws : s.size ≤ 9223372036854775807) (wb : b.size ≤ 9223372036854775807) : Calls Tryd.prog 12 #[.string s, .string b] w (TrueStp w) := by
  have HS0 := Lib.hid (Stp.refl (fun _ => False) w)
  obtain ⟨R, hR⟩ : ∃ R, R = TrueStp w := ⟨_, rfl⟩
  rw [← hR]
  have HR := Lib.hid hR
  clear hR
  by_cases h1 : s.size ≤ 5000
  · by_cases h2 : b.size ≤ 5000
    · have c1 := fun W => lowerR_any s W ws
      have c2 := fun W => lower_any s W ws
      have c3 := fun W => same_any s b W ws wb
      have c4 := fun W => lowerR_any b W wb
      have c5 := fun W => token_any s W ws
      have c6 := fun W => tokenR_any s W ws
      have c7 := fun W => visible_any s W ws
      have c8 := fun W => visibleR_any s W ws
      have c9 := fun W => trim_any s W ws
      have c10 := fun W => trimR_stp s W ws
      obtain ⟨x, hx⟩ : ∃ x, x = lowS s.data.toList := ⟨_, rfl⟩
      obtain ⟨y, hy⟩ : ∃ y, y = lowS b.data.toList := ⟨_, rfl⟩
      obtain ⟨t, ht⟩ : ∃ t, t = allS tokR s.data.toList := ⟨_, rfl⟩
      obtain ⟨v, hv⟩ : ∃ v, v = allS visR s.data.toList := ⟨_, rfl⟩
      obtain ⟨z, hz⟩ : ∃ z, z = trimS s.data.toList := ⟨_, rfl⟩
      rw [← hx] at c1 c2 c3
      rw [← hy] at c3 c4
      rw [← ht] at c5 c6
      rw [← hv] at c7 c8
      rw [← hz] at c9 c10
      obtain ⟨q, hq⟩ : ∃ q : Bool, q = decide (x = y) := ⟨_, rfl⟩
      have e1 : ((strB x).toList == (strB x).toList) = true := by rw [beq_strB]; simp
      have e2 : ((strB x).toList == (strB y).toList) = q := by rw [beq_strB, hq]
      have e3 : ((strB z).toList == (strB z).toList) = true := by rw [beq_strB]; simp
      rw [← hq] at c3
      clear hx hy ht hv hz hq
      go_enter Tryd.func12, Tryd.ntmps12
      go_wp2_with (go_at_call 35; refine stopc ?_)
      refine Stop.go ?_
      refine (small02_any _).mono ?_
      rintro e w1 ⟨he, hs1⟩
      subst he
      have HS1 := Lib.hid (HS0.out.trans hs1)
      clear hs1
      go_wp2_with (go_at_call 36; refine stopc ?_)
      refine Stop.go ?_
      refine (c1 _).mono ?_
      rintro e w2 ⟨he, hs2⟩
      subst he
      have HS2 := Lib.hid (HS1.out.trans hs2)
      clear hs2
      go_wp2_with (go_at_call 26; refine stopc ?_)
      refine Stop.go ?_
      refine (c2 _).mono ?_
      rintro e w3 ⟨he, hs3⟩
      subst he
      have HS3 := Lib.hid (HS2.out.trans hs3)
      clear hs3
      go_wp2_with (go_at_call 37; refine stopc ?_)
      refine Stop.go ?_
      refine (c3 _).mono ?_
      rintro e w4 ⟨he, hs4⟩
      subst he
      have HS4 := Lib.hid (HS3.out.trans hs4)
      clear hs4
      go_wp2_with (go_at_call 36; refine stopc ?_)
      refine Stop.go ?_
      refine (c4 _).mono ?_
      rintro e w5 ⟨he, hs5⟩
      subst he
      have HS5 := Lib.hid (HS4.out.trans hs5)
      clear hs5
      go_wp2_with (go_at_call 38; refine stopc ?_)
      refine Stop.go ?_
      refine (c5 _).mono ?_
      rintro e w6 ⟨he, hs6⟩
      subst he
      have HS6 := Lib.hid (HS5.out.trans hs6)
      clear hs6
      go_wp2_with (go_at_call 39; refine stopc ?_)
      refine Stop.go ?_
      refine (c6 _).mono ?_
      rintro e w7 ⟨he, hs7⟩
      subst he
      have HS7 := Lib.hid (HS6.out.trans hs7)
      clear hs7
      go_wp2_with (go_at_call 40; refine stopc ?_)
      refine Stop.go ?_
      refine (c7 _).mono ?_
      rintro e w8 ⟨he, hs8⟩
      subst he
      have HS8 := Lib.hid (HS7.out.trans hs8)
      clear hs8
      go_wp2_with (go_at_call 41; refine stopc ?_)
      refine Stop.go ?_
      refine (c8 _).mono ?_
      rintro e w9 ⟨he, hs9⟩
      subst he
      have HS9 := Lib.hid (HS8.out.trans hs9)
      clear hs9
      go_wp2_with (go_at_call 42; refine stopc ?_)
      refine Stop.go ?_
      refine (c9 _).mono ?_
      rintro e w10 ⟨he, hs10⟩
      subst he
      have HS10 := Lib.hid (HS9.out.trans hs10)
      clear hs10
      go_wp2_with (go_at_call 43; refine stopc ?_)
      refine Stop.go ?_
      refine (c10 _).mono ?_
      rintro e w11 ⟨he, hs11⟩
      subst he
      have HS11 := Lib.hid (HS10.out.trans hs11)
      clear hs11
      go_wp2
      rw [HR.out]
      exact ⟨rfl, HS11.out⟩
    · have h2' : 5000 < b.size := by omega
      go_enter Tryd.func12, Tryd.ntmps12
      go_wp2_with (go_at_call 35; refine stopc ?_)
      refine Stop.go ?_
      refine (small02_any _).mono ?_
      rintro e w1 ⟨he, hs1⟩
      subst he
      have HS1 := Lib.hid (HS0.out.trans hs1)
      clear hs1
      go_wp2
      rw [HR.out]
      exact ⟨rfl, HS1.out⟩
  · have h1' : 5000 < s.size := by omega
    go_enter Tryd.func12, Tryd.ntmps12
    go_wp2_with (go_at_call 35; refine stopc ?_)
    refine Stop.go ?_
    refine (small02_any _).mono ?_
    rintro e w1 ⟨he, hs1⟩
    subst he
    have HS1 := Lib.hid (HS0.out.trans hs1)
    clear hs1
    go_wp2
    rw [HR.out]
    exact ⟨rfl, HS1.out⟩

set_option maxRecDepth 100000 in
set_option maxHeartbeats 4000000 in
theorem numbers02_law (s : ByteArray) (n : Int) (w : World) (ws : s.size ≤ 9223372036854775807) : Calls Tryd.prog 13 #[.string s, .int .i64 n] w (TrueStp w) := by
  have HS0 := Lib.hid (Stp.refl (fun _ => False) w)
  obtain ⟨R, hR⟩ : ∃ R, R = TrueStp w := ⟨_, rfl⟩
  rw [← hR]
  have HR := Lib.hid hR
  clear hR
  by_cases h1 : s.size ≤ 5000
  · have c1 := fun W => number_any s n W ws
    have c2 := fun W => numberR_any s n W ws
    have c3 := fun W => hex_any s W ws
    have c4 := fun W => hexR_any s W ws
    obtain ⟨⟨x, p⟩, hx⟩ : ∃ x, x = numS s.data.toList n := ⟨_, rfl⟩
    obtain ⟨⟨y, q⟩, hy⟩ : ∃ y, y = hexS s.data.toList := ⟨_, rfl⟩
    rw [← hx] at c1 c2
    rw [← hy] at c3 c4
    clear hx hy
    go_enter Tryd.func13, Tryd.ntmps13
    go_wp2_with (go_at_call 35; refine stopc ?_)
    refine Stop.go ?_
    refine (small02_any _).mono ?_
    rintro e w1 ⟨he, hs1⟩
    subst he
    have HS1 := Lib.hid (HS0.out.trans hs1)
    clear hs1
    go_wp2_with (go_at_call 44; refine stopc ?_)
    refine Stop.go ?_
    refine (c1 _).mono ?_
    rintro e w2 ⟨he, hs2⟩
    obtain rfl : e = .returned (.tuple #[.int .i64 x, .bool p]) := he.trans (rfl)
    have HS2 := Lib.hid (HS1.out.trans hs2)
    clear hs2 he
    go_wp2_with (go_at_call 45; refine stopc ?_)
    refine Stop.go ?_
    refine (c2 _).mono ?_
    rintro e w3 ⟨he, hs3⟩
    obtain rfl : e = .returned (.tuple #[.int .i64 x, .bool p]) := he.trans (rfl)
    have HS3 := Lib.hid (HS2.out.trans hs3)
    clear hs3 he
    go_wp2_with (go_at_call 46; refine stopc ?_)
    refine Stop.go ?_
    refine (c3 _).mono ?_
    rintro e w4 ⟨he, hs4⟩
    obtain rfl : e = .returned (.tuple #[.int .i64 y, .bool q]) := he.trans (rfl)
    have HS4 := Lib.hid (HS3.out.trans hs4)
    clear hs4 he
    go_wp2_with (go_at_call 47; refine stopc ?_)
    refine Stop.go ?_
    refine (c4 _).mono ?_
    rintro e w5 ⟨he, hs5⟩
    obtain rfl : e = .returned (.tuple #[.int .i64 y, .bool q]) := he.trans (rfl)
    have HS5 := Lib.hid (HS4.out.trans hs5)
    clear hs5 he
    go_wp2
    rw [HR.out]
    exact ⟨rfl, HS5.out⟩
  · have h1' : 5000 < s.size := by omega
    go_enter Tryd.func13, Tryd.ntmps13
    go_wp2_with (go_at_call 35; refine stopc ?_)
    refine Stop.go ?_
    refine (small02_any _).mono ?_
    rintro e w1 ⟨he, hs1⟩
    subst he
    have HS1 := Lib.hid (HS0.out.trans hs1)
    clear hs1
    go_wp2
    rw [HR.out]
    exact ⟨rfl, HS1.out⟩
end Go.Proofs.YteoffbglbpdekaaDoor.L
