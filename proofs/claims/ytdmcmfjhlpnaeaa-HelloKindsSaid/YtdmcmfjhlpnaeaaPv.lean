/- exts: what is put of protocols and versions; the document's own. -/
import Derived.Test.YtdmcmfjhlpnaeaaPu
set_option linter.unusedVariables false
set_option linter.unusedSimpArgs false
namespace Go.Proofs.Ytdmcmfjhlpnaeaa.L
open Go.RowKit Go.Proofs

theorem fitP_take (l : List ByteArray) (k : Nat) (h : fitP l = true) : fitP (l.take k) = true := by
  unfold fitP at h ⊢
  rw [List.all_eq_true] at h ⊢
  exact fun x hx => h x (List.mem_of_mem_take hx)

set_option maxRecDepth 10000 in
set_option maxHeartbeats 4000000 in
theorem putPrR_any (M : Nat → Prop) (v0 : Value) (l : List ByteArray) (w : World) (hd : Rd str M w v0 l) (hl : l.length ≤ 1000000) (hs : ∀ s ∈ l, s.size ≤ 1000000000) :
    Calls Try.prog 62 #[v0] w (NewB2 w (putPrS l).1 (putPrS l).2) := by
  obtain ⟨A0, c0, rfl, hle0⟩ := hd.form
  obtain ⟨R, hR⟩ : ∃ R, R = putPrS l := ⟨_, rfl⟩
  rw [← hR]
  have HRD := Lib.hid (show R = if 0 < l.length ∧ fitP l = true ∧ (flatP l).length ≤ 65535 then (be ((flatP l).length : Nat) 2 ++ flatP l, true) else ([], false) from hR)
  clear hR
  have HD := Lib.hid hd
  have HS := Lib.hid hs
  clear hd hs
  go_enter Try.func62, Try.ntmps62
  go_wp2
  go_loopw [4, 5, 6, 7] (fun o i _ _ wr => ∃ (k : Nat) (out : List UInt8), k ≤ l.length ∧ i = .int .i64 k ∧ fitP (l.take k) = true ∧ out = flatP (l.take k) ∧ out.length ≤ 256 * k ∧ Own enc8 5 w.heap.size wr o out ∧ Stp (fun _ => False) w wr) (fun _ i _ _ _ => l.length - (intOf i).toNat)
  case atStart => exact ⟨0, [], Nat.zero_le _, rfl, by simp [fitP], rfl, by simp, Own.nil _ _ _ _, Stp.refl _ _⟩
  case round =>
    obtain ⟨k, out, hk, rfl, hfit, hout, hol, ho, hst⟩ := hrel
    obtain ⟨Ao, co, rfl, hleo⟩ := ho.form
    have HFIT := Lib.hid hfit
    clear hfit
    have HOUT := Lib.hid hout
    have HO := Lib.hid ho
    have HST := Lib.hid hst
    clear hout ho hst
    by_cases hlt : k < l.length
    · obtain ⟨ad, rfl, _, hcell⟩ := plain_cell (HD.out.stp0 HST.out) k hlt
      have hx := HS.out _ (List.getElem_mem hlt)
      have HTK := Lib.hid (take_snoc l k hlt)
      obtain ⟨x, hxe⟩ : ∃ x, x = l[k] := ⟨_, rfl⟩
      rw [← hxe] at hcell hx HTK
      clear hxe
      have HBL := Lib.hid (bytes_len x)
      have hbad : ¬ (0 < x.size ∧ x.size ≤ 255) → R = ([], false) := by
        intro h
        rw [HRD.out, if_neg]
        rintro ⟨-, h2, -⟩
        have h3 := fitP_take l (k + 1) h2
        rw [HTK.out, fitP_snoc] at h3
        simp only [Bool.and_eq_true, decide_eq_true_eq] at h3
        exact h h3.2
      have HBAD := Lib.hid hbad
      clear hbad
      go_wp2_with (with_reducible refine stop (N := 22) rfl ?_)
      refine Stop.go ?_
      refine wp_bytesOf rfl _ _ 5 _ rfl Try.underlying9 Try.underlying22 Try.underlying5 rfl (by omega) ?_
      rintro v3 w3 hr3 hs3 _ ⟨c3, rfl, hc3⟩ _
      have HR3 := Lib.hid (hr3.weak (M' := fun _ => False) (by decide) (fun _ _ h => h.elim))
      have HO3 := Lib.hid ((HO.out.stp0 hs3).rd (h1 := fun _ => rfl) (M := fun _ => False) (fun _ _ => id))
      have HS3 := Lib.hid (HST.out.trans hs3)
      have hcell3 := hs3.cell hcell id
      clear hr3 hs3
      go_wp2_with (go_at_call 24; refine stopc ?_)
      refine Stop.go ?_
      refine (vecR_any (fun _ => False) _ _ out x.data.toList _ _ HO3.out HR3.out (by rw [HBL.out]; omega)).mono ?_
      by_cases h255 : x.size ≤ 255
      · rw [vecB_fit _ _ _ (by rw [HBL.out]; simp [clampN]; omega)]
        rintro e w4 ⟨v4, rfl, ho4, hs4⟩
        have HS4 := Lib.hid (HS3.out.trans hs4)
        have ho4 := ho4.lower HS3.out.size
        rw [HBL.out] at ho4
        have HO4 := Lib.hid ho4
        have hcell4 := hs4.cell hcell3 id
        clear hs4 ho4 hcell hcell3
        by_cases h0 : x.size = 0
        · have HNO := Lib.hid (HBAD.out (by omega))
          go_wp2
          go_ret2
          exact ⟨_, by rw [HNO.out]; rfl, by rw [HNO.out]; exact Own.nil _ _ _ _, HS4.out⟩
        · have h0' : ((x.size : Int) == 0) = false := by simpa using h0
          obtain ⟨y, hy⟩ : ∃ y, y = out ++ be (x.size : Nat) 1 ++ x.data.toList := ⟨_, rfl⟩
          have hyl : y.length ≤ 256 * (k + 1) := by rw [hy]; simp [be_len, HBL.out]; omega
          have hyf : y = flatP (l.take (k + 1)) := by rw [hy, HTK.out, flatP_snoc, HOUT.out, List.append_assoc]
          have hyfit : fitP (l.take (k + 1)) = true := by rw [HTK.out, fitP_snoc, HFIT.out]; simp [h255]; omega
          have ho4 : Own enc8 5 w.heap.size w4 v4 y := by rw [hy]; exact HO4.out
          have HYF := Lib.hid hyf
          have HYFIT := Lib.hid hyfit
          have HO4 := Lib.hid ho4
          clear hyf hyfit ho4
          clear hy h0
          go_wp2
          go_roundw
          case rel => exact ⟨k + 1, y, by omega, by go_num, HYFIT.out, HYF.out, hyl, HO4.out, HS4.out⟩
          case measure => simp [intOf]; omega
      · rw [vecB_no _ _ _ (by rw [HBL.out]; simp [clampN]; omega)]
        rintro e w4 ⟨v4, rfl, ho4, hs4⟩
        have HS4 := Lib.hid (HS3.out.trans hs4)
        have HNO := Lib.hid (HBAD.out (by omega))
        clear hs4 ho4 hcell hcell3
        go_wp2
        go_ret2
        exact ⟨_, by rw [HNO.out]; rfl, by rw [HNO.out]; exact Own.nil _ _ _ _, HS4.out⟩
    · obtain rfl : k = l.length := by omega
      rw [List.take_length] at HFIT HOUT
      go_wp2_with (go_at_call 24; refine stopc ?_)
      refine Stop.go ?_
      refine (vecR_any (fun _ => False) _ _ [] out _ _ (Rd.nil _ _ _) (HO.out.rd (h1 := fun _ => rfl) (fun _ _ => id)) (by simp; omega)).mono ?_
      by_cases h64 : out.length ≤ 65535
      · rw [vecB_fit _ _ _ (by simp [clampN]; omega)]
        rintro e w5 ⟨v5, rfl, ho5, hs5⟩
        have HO5 := Lib.hid (ho5.lower HST.out.size)
        have HS5 := Lib.hid (HST.out.trans hs5)
        clear ho5 hs5
        by_cases h0 : l.length = 0
        · have HNO := Lib.hid (show R = ([], false) by rw [HRD.out, if_neg]; rintro ⟨h1, -⟩; omega)
          have h0' : ((l.length : Int) == 0) = true := by simpa using h0
          clear h0
          go_wp2
          go_ret2
          exact ⟨_, by rw [HNO.out]; rfl, by rw [HNO.out]; exact Own.nil _ _ _ _, HS5.out⟩
        · have h0' : ((l.length : Int) == 0) = false := by simpa using h0
          have HYES := Lib.hid (show R = (be (out.length : Nat) 2 ++ out, true) by rw [HRD.out, if_pos ⟨by omega, HFIT.out, by rw [← HOUT.out]; exact h64⟩, HOUT.out])
          clear h0
          go_wp2
          go_ret2
          exact ⟨_, by rw [HYES.out]; rfl, by rw [HYES.out]; exact HO5.out, HS5.out⟩
      · have HNO := Lib.hid (show R = ([], false) by rw [HRD.out, if_neg]; rintro ⟨-, -, h1⟩; rw [← HOUT.out] at h1; exact h64 h1)
        rw [vecB_no _ _ _ (by simp [clampN]; omega)]
        rintro e w5 ⟨v5, rfl, ho5, hs5⟩
        have HS5 := Lib.hid (HST.out.trans hs5)
        clear ho5 hs5
        go_wp2
        go_ret2
        exact ⟨_, by rw [HNO.out]; rfl, by rw [HNO.out]; exact Own.nil _ _ _ _, HS5.out⟩

/-! ### versions -/
def fitV (l : List Int) : Bool := l.all fun n => decide (0 ≤ n) && decide (n ≤ 65535)
def flatN (l : List Int) : List UInt8 := (l.map fun n => be n 2).flatten
theorem fitV_snoc (l : List Int) (n : Int) : fitV (l ++ [n]) = (fitV l && (decide (0 ≤ n) && decide (n ≤ 65535))) := by simp [fitV]
theorem flatN_snoc (l : List Int) (n : Int) : flatN (l ++ [n]) = flatN l ++ be n 2 := by simp [flatN]
theorem flatN_len (l : List Int) : (flatN l).length = 2 * l.length := by
  induction l with
  | nil => rfl
  | cons n l ih =>
    have : flatN (n :: l) = be n 2 ++ flatN l := by simp [flatN]
    rw [this, List.length_append, be_len, ih, List.length_cons]
    omega
theorem fitV_take (l : List Int) (k : Nat) (h : fitV l = true) : fitV (l.take k) = true := by
  unfold fitV at h ⊢
  rw [List.all_eq_true] at h ⊢
  exact fun x hx => h x (List.mem_of_mem_take hx)
/-- What is put of versions. -/
def putVsS (l : List Int) : List UInt8 × Bool := if 0 < l.length ∧ l.length ≤ 127 ∧ fitV l = true then (toU8 ((2 * l.length : Nat) : Int) :: flatN l, true) else ([], false)

set_option maxRecDepth 10000 in
set_option maxHeartbeats 4000000 in
theorem putVs_any (M : Nat → Prop) (v0 : Value) (l : List Int) (w : World) (hd : Rd (int .i64) M w v0 l) (hl : l.length ≤ 1000000000) :
    Calls Try.prog 59 #[v0] w (NewB2 w (putVsS l).1 (putVsS l).2) := by
  obtain ⟨A0, c0, rfl, hle0⟩ := hd.form
  obtain ⟨R, hR⟩ : ∃ R, R = putVsS l := ⟨_, rfl⟩
  rw [← hR]
  have HRD := Lib.hid (show R = if 0 < l.length ∧ l.length ≤ 127 ∧ fitV l = true then (toU8 ((2 * l.length : Nat) : Int) :: flatN l, true) else ([], false) from hR)
  clear hR
  have HD := Lib.hid hd
  clear hd
  go_enter Try.func59, Try.ntmps59
  go_wp2
  go_loopw [4, 6, 9] (fun o _ i wr => ∃ (k : Nat) (out : List UInt8), k ≤ l.length ∧ i = .int .i64 k ∧ fitV (l.take k) = true ∧ out = flatN (l.take k) ∧ out.length ≤ 2 * k ∧ Own enc8 5 w.heap.size wr o out ∧ Stp (fun _ => False) w wr) (fun _ _ i _ => l.length - (intOf i).toNat)
  case atStart => exact ⟨0, [], Nat.zero_le _, rfl, by simp [fitV], rfl, by simp, Own.nil _ _ _ _, Stp.refl _ _⟩
  case round =>
    obtain ⟨k, out, hk, rfl, hfit, hout, hol, ho, hst⟩ := hrel
    obtain ⟨Ao, co, rfl, hleo⟩ := ho.form
    have HFIT := Lib.hid hfit
    clear hfit
    have HOUT := Lib.hid hout
    have HO := Lib.hid ho
    have HST := Lib.hid hst
    clear hout ho hst
    by_cases hlt : k < l.length
    · obtain ⟨ad, rfl, _, hcell⟩ := plain_cell (HD.out.stp0 HST.out) k hlt
      have HTK := Lib.hid (take_snoc l k hlt)
      obtain ⟨x, hxe⟩ : ∃ x, x = l[k] := ⟨_, rfl⟩
      rw [← hxe] at hcell HTK
      clear hxe
      have hbad : ¬ (0 ≤ x ∧ x ≤ 65535) → R = ([], false) := by
        intro h
        rw [HRD.out, if_neg]
        rintro ⟨-, -, h2⟩
        have h3 := fitV_take l (k + 1) h2
        rw [HTK.out, fitV_snoc] at h3
        simp only [Bool.and_eq_true, decide_eq_true_eq] at h3
        exact h h3.2
      have HBAD := Lib.hid hbad
      clear hbad
      by_cases h1 : x < 0
      · have HNO := Lib.hid (HBAD.out (by omega))
        go_wp2
        go_ret2
        exact ⟨_, by rw [HNO.out]; rfl, by rw [HNO.out]; exact Own.nil _ _ _ _, HST.out⟩
      by_cases h2 : 65535 < x
      · have HNO := Lib.hid (HBAD.out (by omega))
        go_wp2
        go_ret2
        exact ⟨_, by rw [HNO.out]; rfl, by rw [HNO.out]; exact Own.nil _ _ _ _, HST.out⟩
      go_wp2_with (go_at_call 22; refine stopc ?_)
      refine Stop.go ?_
      refine (put_any (fun _ => False) _ out _ _ _ (HO.out.rd (h1 := fun _ => rfl) (fun _ _ => id)) (by omega)).mono ?_
      rintro e w4 ⟨v4, rfl, ho4, hs4⟩
      have HS4 := Lib.hid (HST.out.trans hs4)
      obtain ⟨y, hy⟩ : ∃ y, y = out ++ be x 2 := ⟨_, rfl⟩
      have hyl : y.length ≤ 2 * (k + 1) := by rw [hy]; simp [be_len]; omega
      have hyf : y = flatN (l.take (k + 1)) := by rw [hy, HTK.out, flatN_snoc, HOUT.out]
      have hyfit : fitV (l.take (k + 1)) = true := by rw [HTK.out, fitV_snoc, HFIT.out]; simp; omega
      have HO4 := Lib.hid (show Own enc8 5 w.heap.size w4 v4 y by rw [hy]; exact ho4.lower HST.out.size)
      have HYF := Lib.hid hyf
      have HYFIT := Lib.hid hyfit
      clear hyf hyfit
      clear hy ho4 hs4
      go_wp2
      go_roundw
      case rel => exact ⟨k + 1, y, by omega, by go_num, HYFIT.out, HYF.out, hyl, HO4.out, HS4.out⟩
      case measure => simp [intOf]; omega
    · obtain rfl : k = l.length := by omega
      rw [List.take_length] at HFIT HOUT
      by_cases h0 : l.length = 0
      · have HNO := Lib.hid (show R = ([], false) by rw [HRD.out, if_neg]; rintro ⟨h1, -⟩; omega)
        have h0' : ((l.length : Int) == 0) = true := by simpa using h0
        clear h0
        go_wp2
        go_ret2
        exact ⟨_, by rw [HNO.out]; rfl, by rw [HNO.out]; exact Own.nil _ _ _ _, HST.out⟩
      have h0' : ((l.length : Int) == 0) = false := by simpa using h0
      by_cases h127 : (127 : Int) < l.length
      · have HNO := Lib.hid (show R = ([], false) by rw [HRD.out, if_neg]; rintro ⟨-, h1, -⟩; omega)
        clear h0
        go_wp2
        go_ret2
        exact ⟨_, by rw [HNO.out]; rfl, by rw [HNO.out]; exact Own.nil _ _ _ _, HST.out⟩
      have hol2 : out.length = 2 * l.length := by rw [HOUT.out, flatN_len]
      have HYES := Lib.hid (show R = (be (out.length : Nat) 1 ++ out, true) by rw [HRD.out, if_pos ⟨by omega, by omega, HFIT.out⟩, hol2, ← HOUT.out]; rfl)
      have HOL2 := Lib.hid hol2
      clear hol2
      clear h0
      go_wp2_with (go_at_call 23; refine stopc ?_)
      refine Stop.go ?_
      refine (vec_any (fun _ => False) _ _ [] out _ _ (Rd.nil _ _ _) (HO.out.rd (h1 := fun _ => rfl) (fun _ _ => id)) (by simp; omega)).mono ?_
      rw [vecB_fit _ _ _ (by simp [clampN]; omega)]
      rintro e w5 ⟨v5, rfl, ho5, hs5⟩
      have HO5 := Lib.hid (ho5.lower HST.out.size)
      have HS5 := Lib.hid (HST.out.trans hs5)
      clear ho5 hs5
      go_wp2
      go_ret2
      exact ⟨_, by rw [HYES.out]; rfl, by rw [HYES.out]; exact HO5.out, HS5.out⟩

set_option maxRecDepth 10000 in
set_option maxHeartbeats 4000000 in
theorem putVsR_any (M : Nat → Prop) (v0 : Value) (l : List Int) (w : World) (hd : Rd (int .i64) M w v0 l) (hl : l.length ≤ 1000000000) :
    Calls Try.prog 63 #[v0] w (NewB2 w (putVsS l).1 (putVsS l).2) := by
  obtain ⟨A0, c0, rfl, hle0⟩ := hd.form
  obtain ⟨R, hR⟩ : ∃ R, R = putVsS l := ⟨_, rfl⟩
  rw [← hR]
  have HRD := Lib.hid (show R = if 0 < l.length ∧ l.length ≤ 127 ∧ fitV l = true then (toU8 ((2 * l.length : Nat) : Int) :: flatN l, true) else ([], false) from hR)
  clear hR
  have HD := Lib.hid hd
  clear hd
  by_cases h0 : l.length = 0
  · have HNO := Lib.hid (show R = ([], false) by rw [HRD.out, if_neg]; rintro ⟨h1, -⟩; omega)
    have h0' : ((l.length : Int) == 0) = true := by simpa using h0
    clear h0
    go_enter Try.func63, Try.ntmps63
    go_wp2
    go_ret2
    exact ⟨_, by rw [HNO.out]; rfl, by rw [HNO.out]; exact Own.nil _ _ _ _, Stp.refl _ _⟩
  have h0' : ((l.length : Int) == 0) = false := by simpa using h0
  by_cases h127 : (127 : Int) < l.length
  · have HNO := Lib.hid (show R = ([], false) by rw [HRD.out, if_neg]; rintro ⟨-, h1, -⟩; omega)
    clear h0
    go_enter Try.func63, Try.ntmps63
    go_wp2
    go_ret2
    exact ⟨_, by rw [HNO.out]; rfl, by rw [HNO.out]; exact Own.nil _ _ _ _, Stp.refl _ _⟩
  have hen : enc8 (toU8 ((2 * l.length : Nat) : Int)) = .int .u8 (2 * (l.length : Int)) := by
    unfold enc8
    rw [toU8_nat]
    congr 1
    omega
  have ho1 := Own.lit (enc := enc8) (e := 5) (B := w.heap.size) (W := w) [toU8 ((2 * l.length : Nat) : Int)] #[.int .u8 (2 * (l.length : Int))] (by simp only [List.map_cons, List.map_nil, hen]) (Nat.le_refl _) (by simp)
  have HO1 := Lib.hid ho1
  clear ho1
  clear hen
  go_enter Try.func63, Try.ntmps63
  go_wp2
  go_loopw [4, 5] (fun o i wr => ∃ (k : Nat) (out : List UInt8), k ≤ l.length ∧ i = .int .i64 k ∧ fitV (l.take k) = true ∧ out = toU8 ((2 * l.length : Nat) : Int) :: flatN (l.take k) ∧ out.length ≤ 2 * k + 1 ∧ Own enc8 5 w.heap.size wr o out ∧ Stp (fun _ => False) w wr) (fun _ i _ => l.length - (intOf i).toNat)
  case atStart => exact ⟨0, [toU8 ((2 * l.length : Nat) : Int)], Nat.zero_le _, rfl, by simp [fitV], rfl, by simp, HO1.out, (Stp.refl _ _).alloc _⟩
  case round =>
    obtain ⟨k, out, hk, rfl, hfit, hout, hol, ho, hst⟩ := hrel
    obtain ⟨Ao, co, rfl, hleo⟩ := ho.form
    have HFIT := Lib.hid hfit
    clear hfit
    have HOUT := Lib.hid hout
    have HO := Lib.hid ho
    have HST := Lib.hid hst
    clear hout ho hst
    by_cases hlt : k < l.length
    · obtain ⟨ad, rfl, _, hcell⟩ := plain_cell (HD.out.stp0 HST.out) k hlt
      have HTK := Lib.hid (take_snoc l k hlt)
      obtain ⟨x, hxe⟩ : ∃ x, x = l[k] := ⟨_, rfl⟩
      rw [← hxe] at hcell HTK
      clear hxe
      have hbad : ¬ (0 ≤ x ∧ x ≤ 65535) → R = ([], false) := by
        intro h
        rw [HRD.out, if_neg]
        rintro ⟨-, -, h2⟩
        have h3 := fitV_take l (k + 1) h2
        rw [HTK.out, fitV_snoc] at h3
        simp only [Bool.and_eq_true, decide_eq_true_eq] at h3
        exact h h3.2
      have HBAD := Lib.hid hbad
      clear hbad
      by_cases h1 : x < 0
      · have HNO := Lib.hid (HBAD.out (by omega))
        go_wp2
        go_ret2
        exact ⟨_, by rw [HNO.out]; rfl, by rw [HNO.out]; exact Own.nil _ _ _ _, HST.out⟩
      by_cases h2 : 65535 < x
      · have HNO := Lib.hid (HBAD.out (by omega))
        go_wp2
        go_ret2
        exact ⟨_, by rw [HNO.out]; rfl, by rw [HNO.out]; exact Own.nil _ _ _ _, HST.out⟩
      go_wp2_with (go_at_call 25; refine stopc ?_)
      refine Stop.go ?_
      refine (putR_any (fun _ => False) _ out _ _ _ (HO.out.rd (h1 := fun _ => rfl) (fun _ _ => id)) (by omega)).mono ?_
      rintro e w4 ⟨v4, rfl, ho4, hs4⟩
      have HS4 := Lib.hid (HST.out.trans hs4)
      obtain ⟨y, hy⟩ : ∃ y, y = out ++ be x 2 := ⟨_, rfl⟩
      have hyl : y.length ≤ 2 * (k + 1) + 1 := by rw [hy]; simp [be_len]; omega
      have hyf : y = toU8 ((2 * l.length : Nat) : Int) :: flatN (l.take (k + 1)) := by rw [hy, HTK.out, flatN_snoc, HOUT.out]; rfl
      have hyfit : fitV (l.take (k + 1)) = true := by rw [HTK.out, fitV_snoc, HFIT.out]; simp; omega
      have HO4 := Lib.hid (show Own enc8 5 w.heap.size w4 v4 y by rw [hy]; exact ho4.lower HST.out.size)
      have HYF := Lib.hid hyf
      have HYFIT := Lib.hid hyfit
      clear hyf hyfit
      clear hy ho4 hs4
      go_wp2
      go_roundw
      case rel => exact ⟨k + 1, y, by omega, by go_num, HYFIT.out, HYF.out, hyl, HO4.out, HS4.out⟩
      case measure => simp [intOf]; omega
    · obtain rfl : k = l.length := by omega
      rw [List.take_length] at HFIT HOUT
      have HYES := Lib.hid (show R = (out, true) by rw [HRD.out, if_pos ⟨by omega, by omega, HFIT.out⟩, HOUT.out])
      clear h0
      go_wp2
      go_ret2
      exact ⟨_, by rw [HYES.out]; rfl, by rw [HYES.out]; exact HO.out, HST.out⟩
end Go.Proofs.Ytdmcmfjhlpnaeaa.L
