/- exts: what is put of a name, and the document's own. -/
import Derived.Test.YtdmcmfjhlpnaeaaHe
import Derived.Lib.AppendStr
set_option linter.unusedVariables false
set_option linter.unusedSimpArgs false
namespace Go.Proofs.Ytdmcmfjhlpnaeaa.L
open Go.RowKit Go.Proofs

theorem bytes_len (s : ByteArray) : s.data.toList.length = s.size := by simp
theorem vecB_fit (b x : List UInt8) (n : Int) (h : x.length < 256 ^ clampN n) : vecB b n x = (b ++ be x.length (clampN n) ++ x, true) := by unfold vecB; rw [if_pos h]
theorem vecB_no (b x : List UInt8) (n : Int) (h : ¬ x.length < 256 ^ clampN n) : vecB b n x = (b, false) := by unfold vecB; rw [if_neg h]
theorem may_size {s : ByteArray} (h : mayB s.data.toList = true) : s.size ≤ 255 := by
  unfold mayB at h
  simp at h
  exact h.1

/-- What is put of a name. -/
def putNmS (s : ByteArray) : List UInt8 × Bool := if mayB s.data.toList = true then (be ((s.size + 3 : Nat) : Int) 2 ++ ((0 : UInt8) :: (be (s.size : Nat) 2 ++ s.data.toList)), true) else ([], false)

set_option maxRecDepth 10000 in
set_option maxHeartbeats 2000000 in
theorem putNm_any (s : ByteArray) (w : World) : Calls Try.prog 60 #[.string s] w (NewB2 w (putNmS s).1 (putNmS s).2) := by
  by_cases hm : mayB s.data.toList = true
  · have hsz := may_size hm
    have hp : putNmS s = (be ((s.size + 3 : Nat) : Int) 2 ++ ((0 : UInt8) :: (be (s.size : Nat) 2 ++ s.data.toList)), true) := by unfold putNmS; rw [if_pos hm]
    rw [hp]
    clear hp
    have hbl := bytes_len s
    have HBL := Lib.hid hbl
    clear hbl
    go_enter Try.func60, Try.ntmps60
    go_wp2_with (go_at_call 68; refine stopc ?_)
    refine Stop.go ?_
    refine (may_any _ _).mono ?_
    rw [hm]
    rintro e w1 ⟨rfl, hs1⟩
    have HS1 := Lib.hid hs1
    clear hs1
    go_wp2_with (with_reducible refine stop (N := 12) rfl ?_)
    refine Stop.go ?_
    refine wp_bytesOf rfl _ _ 5 _ rfl Try.underlying9 Try.underlying22 Try.underlying5 rfl (by omega) ?_
    rintro v3 w3 hr3 hs3 _ ⟨c3, rfl, hc3⟩ _
    rw [World.size_alloc] at hr3
    have hr1 := (Rd.lit (W := w1) (enc := enc8) (h1 := fun _ => rfl) (M := fun _ => False) (e := 5) (fr := (0, 0)) [0] #[.int .u8 0] rfl (by simp) id).stp0 hs3
    have HR3 := Lib.hid (hr3.weak (M' := fun _ => False) (by decide) (fun _ _ h => h.elim))
    have HS3 := Lib.hid ((HS1.out.alloc _).trans hs3)
    have HR1 := Lib.hid hr1
    clear hr1
    clear hr3 hs3
    go_wp2_with (go_at_call 23; refine stopc ?_)
    refine Stop.go ?_
    refine (vec_any (fun _ => False) _ _ [0] s.data.toList _ _ HR1.out HR3.out (by rw [HBL.out]; simp; omega)).mono ?_
    rw [vecB_fit _ _ _ (by rw [HBL.out]; simp [clampN]; omega)]
    rintro e w4 ⟨v4, rfl, ho4, hs4⟩
    obtain ⟨X, hX⟩ : ∃ X : List UInt8, X = (0 : UInt8) :: (be (s.size : Nat) 2 ++ s.data.toList) := ⟨_, rfl⟩
    have hXl : X.length = s.size + 3 := by rw [hX]; simp [be_len]; omega
    have e1 : [0] ++ be (s.data.toList.length : Nat) (clampN 2) ++ s.data.toList = X := by rw [hX, HBL.out]; rfl
    simp only [e1] at ho4
    obtain ⟨A4, c4, rfl, hle4⟩ := ho4.form
    have HS4 := Lib.hid (HS3.out.trans hs4)
    have HX := Lib.hid hX
    have HO4 := Lib.hid ho4
    have HXL := Lib.hid hXl
    clear ho4 hXl
    clear hs4 e1 hX
    go_wp2_with (go_at_call 23; refine stopc ?_)
    refine Stop.go ?_
    refine (vec_any (fun _ => False) _ _ [] X _ _ (Rd.nil _ _ _) (HO4.out.rd (h1 := fun _ => rfl) (fun _ _ => id)) (by rw [HXL.out]; simp; omega)).mono ?_
    rw [vecB_fit _ _ _ (by rw [HXL.out]; simp [clampN]; omega)]
    rintro e w5 ⟨v5, rfl, ho5, hs5⟩
    have HO5 := Lib.hid ho5
    have HS5 := Lib.hid (HS4.out.trans hs5)
    clear ho5 hs5
    go_wp2
    go_ret2
    refine ⟨_, rfl, ?_, HS5.out⟩
    have := HO5.out.lower HS4.out.size
    rw [HXL.out, HX.out] at this
    exact this
  · have hm' : mayB s.data.toList = false := by simpa using hm
    have hp : putNmS s = ([], false) := by unfold putNmS; rw [if_neg hm]
    rw [hp]
    clear hp hm
    go_enter Try.func60, Try.ntmps60
    go_wp2_with (go_at_call 68; refine stopc ?_)
    refine Stop.go ?_
    refine (may_any _ _).mono ?_
    rw [hm']
    rintro e w1 ⟨rfl, hs1⟩
    have HS1 := Lib.hid hs1
    clear hs1
    go_wp2
    go_ret2
    exact ⟨_, rfl, Own.nil _ _ _ _, HS1.out⟩

theorem be2_name (n : Nat) (h : n ≤ 255) (l : List UInt8) : be ((n + 3 : Nat) : Int) 2 ++ ((0 : UInt8) :: (be (n : Nat) 2 ++ l)) = [toU8 (((n : Int) + 3) / 256), toU8 ((n : Int) + 3), 0, 0, toU8 n] ++ l := by
  have h0 : toU8 (((n : Nat) : Int) / 256) = 0 := by
    apply UInt8.toNat_inj.1
    have := toU8_nat (((n : Nat) : Int) / 256)
    simp
    omega
  simp [be, h0]

set_option maxRecDepth 10000 in
set_option maxHeartbeats 2000000 in
theorem putNmR_any (s : ByteArray) (w : World) (hs : s.size ≤ 9223372036854775807) : Calls Try.prog 61 #[.string s] w (NewB2 w (putNmS s).1 (putNmS s).2) := by
  by_cases hm : mayB s.data.toList = true
  · have hsz := may_size hm
    have hp : putNmS s = (be ((s.size + 3 : Nat) : Int) 2 ++ ((0 : UInt8) :: (be (s.size : Nat) 2 ++ s.data.toList)), true) := by unfold putNmS; rw [if_pos hm]
    rw [be2_name _ hsz] at hp
    rw [hp]
    clear hp
    have hv : visB s.data.toList = true := by unfold mayB at hm; simp at hm; exact hm.2
    clear hm
    have hsz' : ¬ (255 : Int) < s.size := by omega
    have hsc : ([toU8 (((s.size : Int) + 3) / 256), toU8 ((s.size : Int) + 3), 0, 0, toU8 s.size] ++ s.data.toList).length = s.size + 5 := by simp
    have HSC := Lib.hid hsc
    clear hsc
    go_enter Try.func61, Try.ntmps61
    go_wp2_with (go_at_call 69; refine stopc ?_)
    refine Stop.go ?_
    refine (visR_any _ _ hs).mono ?_
    rw [hv]
    rintro e w1 ⟨rfl, rfl⟩
    go_wp2_with (with_reducible refine stop (N := 20) rfl ?_)
    refine Stop.go ?_
    obtain ⟨i0, hi0, hz0, hs0, hb0⟩ := info_parts info_u8
    have hen : enc8 (toU8 s.size) = .int .u8 s.size := by unfold enc8; rw [toU8_nat, Int.emod_eq_of_lt (by omega) (by omega)]
    have ho1 := Own.lit (enc := enc8) (e := 5) (B := w.heap.size) (W := w) [0, 0, 0, 0, toU8 s.size] #[.int .u8 0, .int .u8 0, .int .u8 0, .int .u8 0, .int .u8 s.size] (by simp [hen]; rfl) (Nat.le_refl _) (by simp)
    refine Go.Lib.wpList_append_own_string _ rfl _ _ 22 9 rfl w.heap.size 5 i0 Try.underlying22 Try.underlying9 hi0 hz0 hs0 hb0 _ 5 ([0, 0, 0, 0, toU8 s.size].map enc8) rfl ho1 s rfl (by unfold maxLen; omega) (by omega) (by simp) ?_
    intro v2 w2 hown hgrow _
    have ho2 : Own enc8 5 w.heap.size w2 v2 ([0, 0, 0, 0, toU8 s.size] ++ s.data.toList) := by
      unfold Own
      rw [List.map_append, List.length_append, bytes_len]
      exact hown
    have hs2 := ((Stp.refl (fun _ => False) w).alloc _).own (xs := [0, 0, 0, 0, toU8 s.size]) ho1 hgrow
    obtain ⟨A2, c2, rfl, hle2⟩ := ho2.form
    obtain ⟨g, rfl, -, hg1, hg2⟩ := ho2.at_ (by simp)
    have hc0 := ho2.cellAt 0 (by simp)
    have hc1 := ho2.cellAt 1 (by simp)
    have hf0 := ho2.free 0
    have hf1 := ho2.free 1
    have hlen : ([0, 0, 0, 0, toU8 s.size] ++ s.data.toList).length = s.size + 5 := by simp
    rw [hlen] at ho2
    have HO2 := Lib.hid ho2
    have HS2 := Lib.hid hs2
    clear ho1 ho2 hs2 hown hgrow hen hi0 hz0 hs0 hb0
    rw [hlen]
    clear hlen
    go_wp2
    go_ret2
    have e1 : enc8 (toU8 ((s.size : Int) + 3)) = .int .u8 (((s.size : Int) + 3) % 256) := by unfold enc8; rw [toU8_nat]
    have e0 : enc8 (toU8 (((s.size : Int) + 3) / 256)) = .int .u8 (((s.size : Int) + 3) / 256) := by unfold enc8; rw [toU8_nat, Int.emod_eq_of_lt (by omega) (by omega)]
    have h3 := (HO2.out.set_ 1 (toU8 ((s.size : Int) + 3))).set_ 0 (toU8 (((s.size : Int) + 3) / 256))
    rw [e1, e0] at h3
    refine ⟨_, rfl, h3, ?_⟩
    exact Stp.then_ (T := fun k => k = g) HS2.out (((Stp.refl _ _).setg 1 _).setg 0 _) (fun k hk he => by omega)
  · have hp : putNmS s = ([], false) := by unfold putNmS; rw [if_neg hm]
    rw [hp]
    clear hp
    have hm2 : ¬ (s.size ≤ 255 ∧ visB s.data.toList = true) := by
      intro h
      apply hm
      unfold mayB
      simp [h.1, h.2]
    clear hm
    obtain ⟨b, hb⟩ : ∃ b, b = visB s.data.toList := ⟨_, rfl⟩
    rw [← hb] at hm2
    have HB := Lib.hid hb
    clear hb
    by_cases h255 : (255 : Int) < s.size
    · clear hm2
      go_enter Try.func61, Try.ntmps61
      go_wp2_with (go_at_call 69; refine stopc ?_)
      refine Stop.go ?_
      refine (visR_any _ _ hs).mono ?_
      rintro e w1 ⟨rfl, rfl⟩
      go_wp2
      go_ret2
      exact ⟨_, rfl, Own.nil _ _ _ _, Stp.refl _ _⟩
    · have hbf : b = false := by
        rw [Bool.eq_false_iff]
        intro h
        exact hm2 ⟨by omega, h⟩
      subst hbf
      clear hm2
      go_enter Try.func61, Try.ntmps61
      go_wp2_with (go_at_call 69; refine stopc ?_)
      refine Stop.go ?_
      refine (visR_any _ _ hs).mono ?_
      rw [← HB.out]
      rintro e w1 ⟨rfl, rfl⟩
      go_wp2
      go_ret2
      exact ⟨_, rfl, Own.nil _ _ _ _, Stp.refl _ _⟩

/-- What does not fit: what was there is handed back. -/
theorem vecN_any (M : Nat → Prop) (v y : Value) (b x : List UInt8) (size : Int) (w : World) (hb : Rd u8 M w v b) (hx : Rd u8 M w y x) (hl : b.length ≤ 140737488351232) (hxl : x.length ≤ 140737488355328) (hfit : ¬ x.length < 256 ^ clampN size) :
    Calls Try.prog 23 #[v, .int .i64 size, y] w (NewB2 w b false) := by
  obtain ⟨A, c, rfl, hle⟩ := hb.form
  obtain ⟨A2, c2, rfl, hle2⟩ := hx.form
  have HB := Lib.hid hb
  have HX := Lib.hid hx
  clear hb hx
  obtain ⟨hs1, hs4⟩ := clampN_le size
  have hsh := shr_ne x.length (clampN size)
  rw [show decide (256 ^ clampN size ≤ x.length) = true by simpa using hfit] at hsh
  clear hfit
  go_enter Try.func23, Try.ntmps23
  go_wp2_with (first
    | (go_at_call 64; refine (clamp_any _ _).mono ?_; rintro e w' ⟨rfl, rfl⟩)
    | (with_reducible refine stop (N := 18) rfl ?_))
  refine Stop.go ?_
  refine wp_appendRd enc8 (h1e := fun _ => rfl) rfl _ _ _ rfl Try.underlying22 info_u8 rfl (Own.nil _ _ _ _) HB.out rfl rfl ?_ ?_ (Nat.le_refl _) ?_
  · simp
    omega
  · simp
    omega
  · intro v2 w2 ho2 hg2
    have HO2 := Lib.hid ho2
    have HS2 := Lib.hid ((Stp.refl (fun _ => False) _).nil hg2)
    clear ho2 hg2
    go_wp2
    go_ret2
    exact ⟨_, rfl, HO2.out, HS2.out⟩

/-! ### protocols -/
def fitP (l : List ByteArray) : Bool := l.all fun s => decide (0 < s.size) && decide (s.size ≤ 255)
def flatP (l : List ByteArray) : List UInt8 := (l.map fun s => be (s.size : Nat) 1 ++ s.data.toList).flatten
theorem fitP_snoc (l : List ByteArray) (s : ByteArray) : fitP (l ++ [s]) = (fitP l && (decide (0 < s.size) && decide (s.size ≤ 255))) := by simp [fitP]
theorem flatP_snoc (l : List ByteArray) (s : ByteArray) : flatP (l ++ [s]) = flatP l ++ (be (s.size : Nat) 1 ++ s.data.toList) := by simp [flatP]
/-- What is put of protocols. -/
def putPrS (l : List ByteArray) : List UInt8 × Bool := if 0 < l.length ∧ fitP l = true ∧ (flatP l).length ≤ 65535 then (be ((flatP l).length : Nat) 2 ++ flatP l, true) else ([], false)

set_option maxRecDepth 10000 in
set_option maxHeartbeats 4000000 in
theorem putPr_any (M : Nat → Prop) (v0 : Value) (l : List ByteArray) (w : World) (hd : Rd str M w v0 l) (hl : l.length ≤ 1000000) (hs : ∀ s ∈ l, s.size ≤ 140737488351232) :
    Calls Try.prog 58 #[v0] w (NewB2 w (putPrS l).1 (putPrS l).2) := by
  obtain ⟨A0, c0, rfl, hle0⟩ := hd.form
  obtain ⟨R, hR⟩ : ∃ R, R = putPrS l := ⟨_, rfl⟩
  rw [← hR]
  have HD := Lib.hid hd
  have HS := Lib.hid hs
  have HR := Lib.hid hR
  clear hd hs hR
  obtain ⟨b0, hb0⟩ : ∃ b0 : Bool, b0 = decide (0 < l.length) := ⟨_, rfl⟩
  have hb0' := hb0.symm
  have HB0 := Lib.hid hb0
  clear hb0
  go_enter Try.func58, Try.ntmps58
  go_wp2
  go_loopw [4, 5, 7, 8, 9, 15] (fun o ok _ _ _ i wr => ∃ (k : Nat) (b : Bool) (out : List UInt8), k ≤ l.length ∧ i = .int .i64 k ∧ ok = .bool b ∧ b = (b0 && fitP (l.take k)) ∧ (fitP (l.take k) = true → out = flatP (l.take k)) ∧ out.length ≤ 256 * k ∧ Own enc8 5 w.heap.size wr o out ∧ Stp (fun _ => False) w wr) (fun _ _ _ _ _ i _ => l.length - (intOf i).toNat)
  case atStart => exact ⟨0, b0, [], Nat.zero_le _, rfl, rfl, by simp [fitP], fun _ => rfl, by simp, Own.nil _ _ _ _, Stp.refl _ _⟩
  case round =>
    obtain ⟨k, b, out, hk, rfl, rfl, hb, hout, hol, ho, hst⟩ := hrel
    obtain ⟨Ao, co, rfl, hleo⟩ := ho.form
    have HB := Lib.hid hb
    have HOUT := Lib.hid hout
    have HO := Lib.hid ho
    have HST := Lib.hid hst
    clear hb hout ho hst
    by_cases hlt : k < l.length
    · obtain ⟨ad, rfl, _, hcell⟩ := plain_cell (HD.out.stp0 HST.out) k hlt
      have hx := HS.out _ (List.getElem_mem hlt)
      have HTK := Lib.hid (take_snoc l k hlt)
      obtain ⟨x, hxe⟩ : ∃ x, x = l[k] := ⟨_, rfl⟩
      rw [← hxe] at hcell hx HTK
      clear hxe
      have HBL := Lib.hid (bytes_len x)
      have hkey : ∀ b', b' = (b && (decide (0 < x.size) && decide (x.size ≤ 255))) → b' = (b0 && fitP (l.take (k + 1))) := by
        intro b' h
        rw [h, HTK.out, fitP_snoc, HB.out, Bool.and_assoc]
      have hkey2 : ∀ o', (x.size ≤ 255 → o' = out ++ be (x.size : Nat) 1 ++ x.data.toList) → fitP (l.take (k + 1)) = true → o' = flatP (l.take (k + 1)) := by
        intro o' h1 h2
        rw [HTK.out, fitP_snoc] at h2
        simp only [Bool.and_eq_true, decide_eq_true_eq] at h2
        rw [h1 h2.2.2, HTK.out, flatP_snoc, HOUT.out h2.1, List.append_assoc]
      have HKEY := Lib.hid hkey
      have HKEY2 := Lib.hid hkey2
      clear hkey hkey2
      go_wp2_with (with_reducible refine stop (N := 22) rfl ?_)
      refine Stop.go ?_
      refine wp_bytesOf rfl _ _ 5 _ rfl Try.underlying9 Try.underlying22 Try.underlying5 rfl (by omega) ?_
      rintro v3 w3 hr3 hs3 _ ⟨c3, rfl, hc3⟩ _
      have HR3 := Lib.hid (hr3.weak (M' := fun _ => False) (by decide) (fun _ _ h => h.elim))
      have HO3 := Lib.hid ((HO.out.stp0 hs3).rd (h1 := fun _ => rfl) (M := fun _ => False) (fun _ _ => id))
      have HS3 := Lib.hid (HST.out.trans hs3)
      clear hr3 hs3
      go_wp2_with (go_at_call 23; refine stopc ?_)
      refine Stop.go ?_
      by_cases h255 : x.size ≤ 255
      · refine (vec_any (fun _ => False) _ _ out x.data.toList _ _ HO3.out HR3.out (by rw [HBL.out]; omega)).mono ?_
        rw [vecB_fit _ _ _ (by rw [HBL.out]; simp [clampN]; omega)]
        rintro e w4 ⟨v4, rfl, ho4, hs4⟩
        have HS4 := Lib.hid (HS3.out.trans hs4)
        have ho4 := ho4.lower HS3.out.size
        rw [HBL.out] at ho4
        have HO4 := Lib.hid ho4
        clear hs4 ho4
        cases b with
        | false =>
          go_wp2
          go_roundw
          case rel => exact ⟨k + 1, false, _, by omega, by go_num, rfl, HKEY.out _ rfl, HKEY2.out _ (fun _ => rfl), by simp [be_len, HBL.out]; omega, HO4.out, HS4.out⟩
          case measure => simp [intOf]; omega
        | true =>
          obtain ⟨c, hc⟩ : ∃ c, c = decide (0 < x.size) := ⟨_, rfl⟩
          have hxc : (!x.toList.isEmpty) = c := by
            rw [hc, ByteArray.toList_eq, ← bytes_len]
            cases x.data.toList <;> simp
          have HC := Lib.hid hc
          clear hc
          go_wp2
          go_roundw
          case rel => exact ⟨k + 1, c, _, by omega, by go_num, rfl, HKEY.out _ (by rw [← HC.out]; simp [h255]), HKEY2.out _ (fun _ => rfl), by simp [be_len, HBL.out]; omega, HO4.out, HS4.out⟩
          case measure => simp [intOf]; omega
      · refine (vecN_any (fun _ => False) _ _ out x.data.toList _ _ HO3.out HR3.out (by omega) (by rw [HBL.out]; omega) (by rw [HBL.out]; simp [clampN]; omega)).mono ?_
        rintro e w4 ⟨v4, rfl, ho4, hs4⟩
        have HS4 := Lib.hid (HS3.out.trans hs4)
        have HO4 := Lib.hid (ho4.lower HS3.out.size)
        clear hs4 ho4
        cases b with
        | false =>
          go_wp2
          go_roundw
          case rel => exact ⟨k + 1, false, _, by omega, by go_num, rfl, HKEY.out _ rfl, HKEY2.out _ (fun h => absurd h h255), by omega, HO4.out, HS4.out⟩
          case measure => simp [intOf]; omega
        | true =>
          go_wp2
          go_roundw
          case rel => exact ⟨k + 1, false, _, by omega, by go_num, rfl, HKEY.out _ (by simp [h255]), HKEY2.out _ (fun h => absurd h h255), by omega, HO4.out, HS4.out⟩
          case measure => simp [intOf]; omega
    · obtain rfl : k = l.length := by omega
      rw [List.take_length] at HB HOUT
      have hRd : R = if 0 < l.length ∧ fitP l = true ∧ (flatP l).length ≤ 65535 then (be ((flatP l).length : Nat) 2 ++ flatP l, true) else ([], false) := HR.out
      have HRD := Lib.hid hRd
      clear hRd
      cases b with
      | false =>
        have hno : R = ([], false) := by
          rw [HRD.out, if_neg]
          rintro ⟨h1, h2, -⟩
          have h3 := HB.out
          rw [HB0.out, h2, Bool.and_true, decide_eq_true h1] at h3
          cases h3
        have HNO := Lib.hid hno
        clear hno
        go_wp2
        go_ret2
        exact ⟨_, by rw [HNO.out]; rfl, by rw [HNO.out]; exact Own.nil _ _ _ _, HST.out⟩
      | true =>
        have hb2 : 0 < l.length ∧ fitP l = true := by
          have h3 := HB.out.symm
          rw [HB0.out] at h3
          simpa using h3
        have hof := HOUT.out hb2.2
        by_cases h64 : (65535 : Int) < out.length
        · have hno : R = ([], false) := by
            rw [HRD.out, if_neg]
            rintro ⟨-, -, h3⟩
            rw [← hof] at h3
            omega
          have HNO := Lib.hid hno
          clear hno
          clear hof hb2
          go_wp2
          go_ret2
          exact ⟨_, by rw [HNO.out]; rfl, by rw [HNO.out]; exact Own.nil _ _ _ _, HST.out⟩
        · have hyes : R = (be (out.length : Nat) 2 ++ out, true) := by
            rw [HRD.out, if_pos ⟨hb2.1, hb2.2, by rw [← hof]; omega⟩, hof]
          have HYES := Lib.hid hyes
          clear hyes
          clear hof hb2
          go_wp2_with (go_at_call 23; refine stopc ?_)
          refine Stop.go ?_
          refine (vec_any (fun _ => False) _ _ [] out _ _ (Rd.nil _ _ _) (HO.out.rd (h1 := fun _ => rfl) (fun _ _ => id)) (by simp; omega)).mono ?_
          rw [vecB_fit _ _ _ (by simp [clampN]; omega)]
          rintro e w5 ⟨v5, rfl, ho5, hs5⟩
          have HO5 := Lib.hid (ho5.lower HST.out.size)
          have HS5 := Lib.hid (HST.out.trans hs5)
          clear ho5 hs5
          go_wp2
          go_ret2
          exact ⟨_, by rw [HYES.out]; rfl, by rw [HYES.out]; exact HO5.out, HS5.out⟩
end Go.Proofs.Ytdmcmfjhlpnaeaa.L
