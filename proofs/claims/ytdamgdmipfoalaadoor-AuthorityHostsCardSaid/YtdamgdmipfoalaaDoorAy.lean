/- Layer 2: Same, Visible; the reference's Lower, Token, Visible. -/
import Derived.Test.YtdamgdmipfoalaaDoorAx
set_option linter.unusedVariables false
set_option linter.unusedSimpArgs false
namespace Go.Proofs.YtdamgdmipfoalaaDoor.L
open Go.RowKit Go.Proofs

theorem visf_any (x : Nat) (w : World) : Calls Tryd.prog 45 #[.int .i32 (x : Int)] w fun e w' => e = .returned (.bool (visR x)) ∧ w' = w := by
  obtain ⟨b, hb⟩ : ∃ b, b = visR x := ⟨_, rfl⟩
  rw [← hb]
  have HB := Lib.hid hb
  clear hb
  by_cases h1 : 32 < x
  · by_cases h2 : x ≤ 126
    · go_enter Tryd.func45, Tryd.ntmps45
      go_wp2
      go_ret
      exact ⟨ret_b (by rw [HB.out]; simp [visR, h1, h2]; omega), rfl⟩
    · go_enter Tryd.func45, Tryd.ntmps45
      go_wp2
      go_ret
      exact ⟨ret_b (by rw [HB.out]; simp [visR, h1, h2]; omega), rfl⟩
  · go_enter Tryd.func45, Tryd.ntmps45
    go_wp2
    go_ret
    exact ⟨ret_b (by rw [HB.out]; simp [visR, h1]), rfl⟩

theorem visible_any (s : ByteArray) (w : World) (hs : s.size ≤ 9223372036854775807) :
    Calls Tryd.prog 28 #[.string s] w fun e w' => e = .returned (.bool (allS visR s.data.toList)) ∧ Stp (fun _ => False) w w' := by
  obtain ⟨b, hb⟩ : ∃ b, b = allS visR s.data.toList := ⟨_, rfl⟩
  have hc := all_any 45 visR s w (enters_of Tryd.func45 (by kernel_rfl) rfl) (fun W x _ => visf_any x W) visR_high hs
  rw [← hb] at hc ⊢
  clear hb
  go_enter Tryd.func28, Tryd.ntmps28
  go_wp2_with (go_at_call 34; refine hc.mono ?_; rintro e w' ⟨rfl, hs1⟩)
  go_ret
  exact ⟨rfl, hs1⟩

theorem beq_strB (x y : List UInt8) : ((strB x).toList == (strB y).toList) = decide (x = y) := by
  rw [ByteArray.toList_eq, ByteArray.toList_eq, Bool.eq_iff_iff]
  simp [strB]
theorem same_any (s t : ByteArray) (w : World) (hs : s.size ≤ 9223372036854775807) (ht : t.size ≤ 9223372036854775807) :
    Calls Tryd.prog 38 #[.string s, .string t] w fun e w' => e = .returned (.bool (decide (lowS s.data.toList = lowS t.data.toList))) ∧ Stp (fun _ => False) w w' := by
  obtain ⟨b, hb⟩ : ∃ b, b = decide (lowS s.data.toList = lowS t.data.toList) := ⟨_, rfl⟩
  obtain ⟨x, hx⟩ : ∃ x, x = lowS s.data.toList := ⟨_, rfl⟩
  obtain ⟨y, hy⟩ : ∃ y, y = lowS t.data.toList := ⟨_, rfl⟩
  have l1 := fun W => lower_any s W hs
  have l2 := fun W => lower_any t W ht
  rw [← hb]
  rw [← hx] at l1 hb
  rw [← hy] at l2 hb
  have HB := Lib.hid hb
  clear hb hx hy
  go_enter Tryd.func38, Tryd.ntmps38
  go_wp2_with (go_at_call 37; refine stopc ?_)
  refine Stop.go ?_
  refine (l1 _).mono ?_
  rintro e w1 ⟨rfl, hs1⟩
  have HS1 := Lib.hid hs1
  clear hs1
  go_wp2_with (go_at_call 37; refine stopc ?_)
  refine Stop.go ?_
  refine (l2 _).mono ?_
  rintro e w2 ⟨rfl, hs2⟩
  have HS2 := Lib.hid hs2
  clear hs2
  go_wp2
  go_ret
  exact ⟨ret_b (by rw [HB.out]; exact beq_strB x y), HS1.out.trans HS2.out⟩

theorem sign_yes {c d : UInt8} {k : Nat} (h : signsL[k]? = some d) (e : d = c) : (decide (c.toNat < 128) && signsL.contains (UInt8.ofNat c.toNat)) = true := by
  subst e
  have hm : d ∈ signsL := List.mem_of_getElem? h
  have h128 : ∀ x ∈ signsL, x.toNat < 128 := by decide
  rw [show decide (d.toNat < 128) = true by simpa using h128 d hm]
  simpa using hm
theorem sign_no {c : UInt8} (h : ∀ (j : Nat) (d : UInt8), signsL[j]? = some d → d ≠ c) : (decide (c.toNat < 128) && signsL.contains (UInt8.ofNat c.toNat)) = false := by
  rw [Bool.and_eq_false_iff]
  right
  rw [UInt8.ofNat_toNat]
  cases hc : signsL.contains c with
  | false => rfl
  | true =>
    obtain ⟨j, hj⟩ := List.mem_iff_getElem?.1 (show c ∈ signsL by simpa using hc)
    exact absurd rfl (h j c hj)
theorem signs_at (j : Nat) (hj : j < 15) : (⟨#[33, 35, 36, 37, 38, 39, 42, 43, 45, 46, 94, 95, 96, 124, 126]⟩ : ByteArray)[j]'hj = signsL[j]'hj := rfl

end Go.Proofs.YtdamgdmipfoalaaDoor.L
