/- Texts of the proof, joined: Pu Pv Pl Hp. -/
import Derived.Test.YtligofmhbbgalaaGreatDoorG06
import Derived.Lib.AppendStr
set_option linter.unusedVariables false
set_option linter.unusedSimpArgs false
/- exts: what is put of a name, and the document's own. -/
namespace Go.Proofs.YtligofmhbbgalaaGreatDoor.L
open Go.RowKit Go.Proofs

theorem bytes_len (s : ByteArray) : s.data.toList.length = s.size := by simp
theorem vecB_fit (b x : List UInt8) (n : Int) (h : x.length < 256 ^ clampN n) : vecB b n x = (b ++ be x.length (clampN n) ++ x, true) := by unfold vecB; rw [if_pos h]
theorem vecB_no (b x : List UInt8) (n : Int) (h : ¬ x.length < 256 ^ clampN n) : vecB b n x = (b, false) := by unfold vecB; rw [if_neg h]
theorem may_size {s : ByteArray} (h : mayB s.data.toList = true) : s.size ≤ 255 := by
  unfold mayB at h
  simp at h
  exact h.1

/-- What is put of a name. -/
def putNmS (s : ByteArray) : List UInt8 × Bool := if mayB s.data.toList = true then (be ((s.size + 3 : Nat) : Int) 2 ++ ((0 : UInt8) :: (be (s.size : Nat) 2 ++ s.data.toList)), true) else ([], false)

set_option maxRecDepth 10000 in
set_option maxHeartbeats 2000000 in
theorem putNm_any (s : ByteArray) (w : World) : Calls Tryz.prog 14 #[.string s] w (NewB2 w (putNmS s).1 (putNmS s).2) := by
  by_cases hm : mayB s.data.toList = true
  · have hsz := may_size hm
    have hp : putNmS s = (be ((s.size + 3 : Nat) : Int) 2 ++ ((0 : UInt8) :: (be (s.size : Nat) 2 ++ s.data.toList)), true) := by unfold putNmS; rw [if_pos hm]
    rw [hp]
    clear hp
    have hbl := bytes_len s
    have HBL := Lib.hid hbl
    clear hbl
    go_enter Tryz.func14, Tryz.ntmps14
    go_wp2_with (go_at_call 30; refine stopc ?_)
    refine Stop.go ?_
    refine (may_any _ _).mono ?_
    rw [hm]
    rintro e w1 ⟨rfl, hs1⟩
    have HS1 := Lib.hid hs1
    clear hs1
    go_wp2_with (with_reducible refine stop (N := 12) rfl ?_)
    refine Stop.go ?_
    refine wp_bytesOf rfl _ _ 5 _ rfl Tryz.underlying9 Tryz.underlying22 Tryz.underlying5 rfl (by omega) ?_
    rintro v3 w3 hr3 hs3 _ ⟨c3, rfl, hc3⟩ _
    rw [World.size_alloc] at hr3
    have hr1 := (Rd.lit (W := w1) (enc := enc8) (h1 := fun _ => rfl) (M := fun _ => False) (e := 5) (fr := (0, 0)) [0] #[.int .u8 0] rfl (by simp) id).stp0 hs3
    have HR3 := Lib.hid (hr3.weak (M' := fun _ => False) (by decide) (fun _ _ h => h.elim))
    have HS3 := Lib.hid ((HS1.out.alloc _).trans hs3)
    have HR1 := Lib.hid hr1
    clear hr1
    clear hr3 hs3
    go_wp2_with (go_at_call 31; refine stopc ?_)
    refine Stop.go ?_
    refine (vec_any (fun _ => False) _ _ [0] s.data.toList _ _ HR1.out HR3.out (by rw [HBL.out]; simp; omega)).mono ?_
    rw [vecB_fit _ _ _ (by rw [HBL.out]; simp [clampN]; omega)]
    rintro e w4 ⟨v4, rfl, ho4, hs4⟩
    obtain ⟨X, hX⟩ : ∃ X : List UInt8, X = (0 : UInt8) :: (be (s.size : Nat) 2 ++ s.data.toList) := ⟨_, rfl⟩
    have hXl : X.length = s.size + 3 := by rw [hX]; simp [be_len]; omega
    have e1 : [0] ++ be (s.data.toList.length : Nat) (clampN 2) ++ s.data.toList = X := by rw [hX, HBL.out]; rfl
    simp only [e1] at ho4
    obtain ⟨A4, c4, rfl, hle4⟩ := ho4.form
    have HS4 := Lib.hid (HS3.out.trans hs4)
    have HX := Lib.hid hX
    have HO4 := Lib.hid ho4
    have HXL := Lib.hid hXl
    clear ho4 hXl
    clear hs4 e1 hX
    go_wp2_with (go_at_call 31; refine stopc ?_)
    refine Stop.go ?_
    refine (vec_any (fun _ => False) _ _ [] X _ _ (Rd.nil _ _ _) (HO4.out.rd (h1 := fun _ => rfl) (fun _ _ => id)) (by rw [HXL.out]; simp; omega)).mono ?_
    rw [vecB_fit _ _ _ (by rw [HXL.out]; simp [clampN]; omega)]
    rintro e w5 ⟨v5, rfl, ho5, hs5⟩
    have HO5 := Lib.hid ho5
    have HS5 := Lib.hid (HS4.out.trans hs5)
    clear ho5 hs5
    go_wp2
    go_ret2
    refine ⟨_, rfl, ?_, HS5.out⟩
    have := HO5.out.lower HS4.out.size
    rw [HXL.out, HX.out] at this
    exact this
  · have hm' : mayB s.data.toList = false := by simpa using hm
    have hp : putNmS s = ([], false) := by unfold putNmS; rw [if_neg hm]
    rw [hp]
    clear hp hm
    go_enter Tryz.func14, Tryz.ntmps14
    go_wp2_with (go_at_call 30; refine stopc ?_)
    refine Stop.go ?_
    refine (may_any _ _).mono ?_
    rw [hm']
    rintro e w1 ⟨rfl, hs1⟩
    have HS1 := Lib.hid hs1
    clear hs1
    go_wp2
    go_ret2
    exact ⟨_, rfl, Own.nil _ _ _ _, HS1.out⟩

theorem be2_name (n : Nat) (h : n ≤ 255) (l : List UInt8) : be ((n + 3 : Nat) : Int) 2 ++ ((0 : UInt8) :: (be (n : Nat) 2 ++ l)) = [toU8 (((n : Int) + 3) / 256), toU8 ((n : Int) + 3), 0, 0, toU8 n] ++ l := by
  have h0 : toU8 (((n : Nat) : Int) / 256) = 0 := by
    apply UInt8.toNat_inj.1
    have := toU8_nat (((n : Nat) : Int) / 256)
    simp
    omega
  simp [be, h0]

set_option maxRecDepth 10000 in
set_option maxHeartbeats 2000000 in
theorem putNmR_any (s : ByteArray) (w : World) (hs : s.size ≤ 9223372036854775807) : Calls Tryz.prog 32 #[.string s] w (NewB2 w (putNmS s).1 (putNmS s).2) := by
  by_cases hm : mayB s.data.toList = true
  · have hsz := may_size hm
    have hp : putNmS s = (be ((s.size + 3 : Nat) : Int) 2 ++ ((0 : UInt8) :: (be (s.size : Nat) 2 ++ s.data.toList)), true) := by unfold putNmS; rw [if_pos hm]
    rw [be2_name _ hsz] at hp
    rw [hp]
    clear hp
    have hv : visB s.data.toList = true := by unfold mayB at hm; simp at hm; exact hm.2
    clear hm
    have hsz' : ¬ (255 : Int) < s.size := by omega
    have hsc : ([toU8 (((s.size : Int) + 3) / 256), toU8 ((s.size : Int) + 3), 0, 0, toU8 s.size] ++ s.data.toList).length = s.size + 5 := by simp
    have HSC := Lib.hid hsc
    clear hsc
    go_enter Tryz.func32, Tryz.ntmps32
    go_wp2_with (go_at_call 61; refine stopc ?_)
    refine Stop.go ?_
    refine (visR_any _ _ hs).mono ?_
    rw [hv]
    rintro e w1 ⟨rfl, rfl⟩
    go_wp2_with (with_reducible refine stop (N := 20) rfl ?_)
    refine Stop.go ?_
    obtain ⟨i0, hi0, hz0, hs0, hb0⟩ := info_parts info_u8
    have hen : enc8 (toU8 s.size) = .int .u8 s.size := by unfold enc8; rw [toU8_nat, Int.emod_eq_of_lt (by omega) (by omega)]
    have ho1 := Own.lit (enc := enc8) (e := 5) (B := w.heap.size) (W := w) [0, 0, 0, 0, toU8 s.size] #[.int .u8 0, .int .u8 0, .int .u8 0, .int .u8 0, .int .u8 s.size] (by simp [hen]; rfl) (Nat.le_refl _) (by simp)
    refine Go.Lib.wpList_append_own_string _ rfl _ _ 22 9 rfl w.heap.size 5 i0 Tryz.underlying22 Tryz.underlying9 hi0 hz0 hs0 hb0 _ 5 ([0, 0, 0, 0, toU8 s.size].map enc8) rfl ho1 s rfl (by unfold maxLen; omega) (by omega) (by simp) ?_
    intro v2 w2 hown hgrow _
    have ho2 : Own enc8 5 w.heap.size w2 v2 ([0, 0, 0, 0, toU8 s.size] ++ s.data.toList) := by
      unfold Own
      rw [List.map_append, List.length_append, bytes_len]
      exact hown
    have hs2 := ((Stp.refl (fun _ => False) w).alloc _).own (xs := [0, 0, 0, 0, toU8 s.size]) ho1 hgrow
    obtain ⟨A2, c2, rfl, hle2⟩ := ho2.form
    obtain ⟨g, rfl, -, hg1, hg2⟩ := ho2.at_ (by simp)
    have hc0 := ho2.cellAt 0 (by simp)
    have hc1 := ho2.cellAt 1 (by simp)
    have hf0 := ho2.free 0
    have hf1 := ho2.free 1
    have hlen : ([0, 0, 0, 0, toU8 s.size] ++ s.data.toList).length = s.size + 5 := by simp
    rw [hlen] at ho2
    have HO2 := Lib.hid ho2
    have HS2 := Lib.hid hs2
    clear ho1 ho2 hs2 hown hgrow hen hi0 hz0 hs0 hb0
    rw [hlen]
    clear hlen
    go_wp2
    go_ret2
    have e1 : enc8 (toU8 ((s.size : Int) + 3)) = .int .u8 (((s.size : Int) + 3) % 256) := by unfold enc8; rw [toU8_nat]
    have e0 : enc8 (toU8 (((s.size : Int) + 3) / 256)) = .int .u8 (((s.size : Int) + 3) / 256) := by unfold enc8; rw [toU8_nat, Int.emod_eq_of_lt (by omega) (by omega)]
    have h3 := (HO2.out.set_ 1 (toU8 ((s.size : Int) + 3))).set_ 0 (toU8 (((s.size : Int) + 3) / 256))
    rw [e1, e0] at h3
    refine ⟨_, rfl, h3, ?_⟩
    exact Stp.then_ (T := fun k => k = g) HS2.out (((Stp.refl _ _).setg 1 _).setg 0 _) (fun k hk he => by omega)
  · have hp : putNmS s = ([], false) := by unfold putNmS; rw [if_neg hm]
    rw [hp]
    clear hp
    have hm2 : ¬ (s.size ≤ 255 ∧ visB s.data.toList = true) := by
      intro h
      apply hm
      unfold mayB
      simp [h.1, h.2]
    clear hm
    obtain ⟨b, hb⟩ : ∃ b, b = visB s.data.toList := ⟨_, rfl⟩
    rw [← hb] at hm2
    have HB := Lib.hid hb
    clear hb
    by_cases h255 : (255 : Int) < s.size
    · clear hm2
      go_enter Tryz.func32, Tryz.ntmps32
      go_wp2_with (go_at_call 61; refine stopc ?_)
      refine Stop.go ?_
      refine (visR_any _ _ hs).mono ?_
      rintro e w1 ⟨rfl, rfl⟩
      go_wp2
      go_ret2
      exact ⟨_, rfl, Own.nil _ _ _ _, Stp.refl _ _⟩
    · have hbf : b = false := by
        rw [Bool.eq_false_iff]
        intro h
        exact hm2 ⟨by omega, h⟩
      subst hbf
      clear hm2
      go_enter Tryz.func32, Tryz.ntmps32
      go_wp2_with (go_at_call 61; refine stopc ?_)
      refine Stop.go ?_
      refine (visR_any _ _ hs).mono ?_
      rw [← HB.out]
      rintro e w1 ⟨rfl, rfl⟩
      go_wp2
      go_ret2
      exact ⟨_, rfl, Own.nil _ _ _ _, Stp.refl _ _⟩

/-- What does not fit: what was there is handed back. -/
theorem vecN_any (M : Nat → Prop) (v y : Value) (b x : List UInt8) (size : Int) (w : World) (hb : Rd u8 M w v b) (hx : Rd u8 M w y x) (hl : b.length ≤ 140737488351232) (hxl : x.length ≤ 140737488355328) (hfit : ¬ x.length < 256 ^ clampN size) :
    Calls Tryz.prog 31 #[v, .int .i64 size, y] w (NewB2 w b false) := by
  obtain ⟨A, c, rfl, hle⟩ := hb.form
  obtain ⟨A2, c2, rfl, hle2⟩ := hx.form
  have HB := Lib.hid hb
  have HX := Lib.hid hx
  clear hb hx
  obtain ⟨hs1, hs4⟩ := clampN_le size
  have hsh := shr_ne x.length (clampN size)
  rw [show decide (256 ^ clampN size ≤ x.length) = true by simpa using hfit] at hsh
  clear hfit
  go_enter Tryz.func31, Tryz.ntmps31
  go_wp2_with (first
    | (go_at_call 59; refine (clamp_any _ _).mono ?_; rintro e w' ⟨rfl, rfl⟩)
    | (with_reducible refine stop (N := 18) rfl ?_))
  refine Stop.go ?_
  refine wp_appendRd enc8 (h1e := fun _ => rfl) rfl _ _ _ rfl Tryz.underlying22 info_u8 rfl (Own.nil _ _ _ _) HB.out rfl rfl ?_ ?_ (Nat.le_refl _) ?_
  · simp
    omega
  · simp
    omega
  · intro v2 w2 ho2 hg2
    have HO2 := Lib.hid ho2
    have HS2 := Lib.hid ((Stp.refl (fun _ => False) _).nil hg2)
    clear ho2 hg2
    go_wp2
    go_ret2
    exact ⟨_, rfl, HO2.out, HS2.out⟩

/-! ### protocols -/
def fitP (l : List ByteArray) : Bool := l.all fun s => decide (0 < s.size) && decide (s.size ≤ 255)
def flatP (l : List ByteArray) : List UInt8 := (l.map fun s => be (s.size : Nat) 1 ++ s.data.toList).flatten
theorem fitP_snoc (l : List ByteArray) (s : ByteArray) : fitP (l ++ [s]) = (fitP l && (decide (0 < s.size) && decide (s.size ≤ 255))) := by simp [fitP]
theorem flatP_snoc (l : List ByteArray) (s : ByteArray) : flatP (l ++ [s]) = flatP l ++ (be (s.size : Nat) 1 ++ s.data.toList) := by simp [flatP]
/-- What is put of protocols. -/
def putPrS (l : List ByteArray) : List UInt8 × Bool := if 0 < l.length ∧ fitP l = true ∧ (flatP l).length ≤ 65535 then (be ((flatP l).length : Nat) 2 ++ flatP l, true) else ([], false)

set_option maxRecDepth 10000 in
set_option maxHeartbeats 4000000 in
theorem putPr_any (M : Nat → Prop) (v0 : Value) (l : List ByteArray) (w : World) (hd : Rd str M w v0 l) (hl : l.length ≤ 2000000) (hs : ∀ s ∈ l, s.size ≤ 140737488351232) :
    Calls Tryz.prog 15 #[v0] w (NewB2 w (putPrS l).1 (putPrS l).2) := by
  obtain ⟨A0, c0, rfl, hle0⟩ := hd.form
  obtain ⟨R, hR⟩ : ∃ R, R = putPrS l := ⟨_, rfl⟩
  rw [← hR]
  have HD := Lib.hid hd
  have HS := Lib.hid hs
  have HR := Lib.hid hR
  clear hd hs hR
  obtain ⟨b0, hb0⟩ : ∃ b0 : Bool, b0 = decide (0 < l.length) := ⟨_, rfl⟩
  have hb0' := hb0.symm
  have HB0 := Lib.hid hb0
  clear hb0
  go_enter Tryz.func15, Tryz.ntmps15
  go_wp2
  go_loopw [4, 5, 7, 8, 9, 15] (fun o ok _ _ _ i wr => ∃ (k : Nat) (b : Bool) (out : List UInt8), k ≤ l.length ∧ i = .int .i64 k ∧ ok = .bool b ∧ b = (b0 && fitP (l.take k)) ∧ (fitP (l.take k) = true → out = flatP (l.take k)) ∧ out.length ≤ 256 * k ∧ Own enc8 5 w.heap.size wr o out ∧ Stp (fun _ => False) w wr) (fun _ _ _ _ _ i _ => l.length - (intOf i).toNat)
  case atStart => exact ⟨0, b0, [], Nat.zero_le _, rfl, rfl, by simp [fitP], fun _ => rfl, by simp, Own.nil _ _ _ _, Stp.refl _ _⟩
  case round =>
    obtain ⟨k, b, out, hk, rfl, rfl, hb, hout, hol, ho, hst⟩ := hrel
    obtain ⟨Ao, co, rfl, hleo⟩ := ho.form
    have HB := Lib.hid hb
    have HOUT := Lib.hid hout
    have HO := Lib.hid ho
    have HST := Lib.hid hst
    clear hb hout ho hst
    by_cases hlt : k < l.length
    · obtain ⟨ad, rfl, _, hcell⟩ := plain_cell (HD.out.stp0 HST.out) k hlt
      have hx := HS.out _ (List.getElem_mem hlt)
      have HTK := Lib.hid (take_snoc l k hlt)
      obtain ⟨x, hxe⟩ : ∃ x, x = l[k] := ⟨_, rfl⟩
      rw [← hxe] at hcell hx HTK
      clear hxe
      have HBL := Lib.hid (bytes_len x)
      have hkey : ∀ b', b' = (b && (decide (0 < x.size) && decide (x.size ≤ 255))) → b' = (b0 && fitP (l.take (k + 1))) := by
        intro b' h
        rw [h, HTK.out, fitP_snoc, HB.out, Bool.and_assoc]
      have hkey2 : ∀ o', (x.size ≤ 255 → o' = out ++ be (x.size : Nat) 1 ++ x.data.toList) → fitP (l.take (k + 1)) = true → o' = flatP (l.take (k + 1)) := by
        intro o' h1 h2
        rw [HTK.out, fitP_snoc] at h2
        simp only [Bool.and_eq_true, decide_eq_true_eq] at h2
        rw [h1 h2.2.2, HTK.out, flatP_snoc, HOUT.out h2.1, List.append_assoc]
      have HKEY := Lib.hid hkey
      have HKEY2 := Lib.hid hkey2
      clear hkey hkey2
      go_wp2_with (with_reducible refine stop (N := 22) rfl ?_)
      refine Stop.go ?_
      refine wp_bytesOf rfl _ _ 5 _ rfl Tryz.underlying9 Tryz.underlying22 Tryz.underlying5 rfl (by omega) ?_
      rintro v3 w3 hr3 hs3 _ ⟨c3, rfl, hc3⟩ _
      have HR3 := Lib.hid (hr3.weak (M' := fun _ => False) (by decide) (fun _ _ h => h.elim))
      have HO3 := Lib.hid ((HO.out.stp0 hs3).rd (h1 := fun _ => rfl) (M := fun _ => False) (fun _ _ => id))
      have HS3 := Lib.hid (HST.out.trans hs3)
      clear hr3 hs3
      go_wp2_with (go_at_call 31; refine stopc ?_)
      refine Stop.go ?_
      by_cases h255 : x.size ≤ 255
      · refine (vec_any (fun _ => False) _ _ out x.data.toList _ _ HO3.out HR3.out (by rw [HBL.out]; omega)).mono ?_
        rw [vecB_fit _ _ _ (by rw [HBL.out]; simp [clampN]; omega)]
        rintro e w4 ⟨v4, rfl, ho4, hs4⟩
        have HS4 := Lib.hid (HS3.out.trans hs4)
        have ho4 := ho4.lower HS3.out.size
        rw [HBL.out] at ho4
        have HO4 := Lib.hid ho4
        clear hs4 ho4
        cases b with
        | false =>
          go_wp2
          go_roundw
          case rel => exact ⟨k + 1, false, _, by omega, by go_num, rfl, HKEY.out _ rfl, HKEY2.out _ (fun _ => rfl), by simp [be_len, HBL.out]; omega, HO4.out, HS4.out⟩
          case measure => simp [intOf]; omega
        | true =>
          obtain ⟨c, hc⟩ : ∃ c, c = decide (0 < x.size) := ⟨_, rfl⟩
          have hxc : (!x.toList.isEmpty) = c := by
            rw [hc, ByteArray.toList_eq, ← bytes_len]
            cases x.data.toList <;> simp
          have HC := Lib.hid hc
          clear hc
          go_wp2
          go_roundw
          case rel => exact ⟨k + 1, c, _, by omega, by go_num, rfl, HKEY.out _ (by rw [← HC.out]; simp [h255]), HKEY2.out _ (fun _ => rfl), by simp [be_len, HBL.out]; omega, HO4.out, HS4.out⟩
          case measure => simp [intOf]; omega
      · refine (vecN_any (fun _ => False) _ _ out x.data.toList _ _ HO3.out HR3.out (by omega) (by rw [HBL.out]; omega) (by rw [HBL.out]; simp [clampN]; omega)).mono ?_
        rintro e w4 ⟨v4, rfl, ho4, hs4⟩
        have HS4 := Lib.hid (HS3.out.trans hs4)
        have HO4 := Lib.hid (ho4.lower HS3.out.size)
        clear hs4 ho4
        cases b with
        | false =>
          go_wp2
          go_roundw
          case rel => exact ⟨k + 1, false, _, by omega, by go_num, rfl, HKEY.out _ rfl, HKEY2.out _ (fun h => absurd h h255), by omega, HO4.out, HS4.out⟩
          case measure => simp [intOf]; omega
        | true =>
          go_wp2
          go_roundw
          case rel => exact ⟨k + 1, false, _, by omega, by go_num, rfl, HKEY.out _ (by simp [h255]), HKEY2.out _ (fun h => absurd h h255), by omega, HO4.out, HS4.out⟩
          case measure => simp [intOf]; omega
    · obtain rfl : k = l.length := by omega
      rw [List.take_length] at HB HOUT
      have hRd : R = if 0 < l.length ∧ fitP l = true ∧ (flatP l).length ≤ 65535 then (be ((flatP l).length : Nat) 2 ++ flatP l, true) else ([], false) := HR.out
      have HRD := Lib.hid hRd
      clear hRd
      cases b with
      | false =>
        have hno : R = ([], false) := by
          rw [HRD.out, if_neg]
          rintro ⟨h1, h2, -⟩
          have h3 := HB.out
          rw [HB0.out, h2, Bool.and_true, decide_eq_true h1] at h3
          cases h3
        have HNO := Lib.hid hno
        clear hno
        go_wp2
        go_ret2
        exact ⟨_, by rw [HNO.out]; rfl, by rw [HNO.out]; exact Own.nil _ _ _ _, HST.out⟩
      | true =>
        have hb2 : 0 < l.length ∧ fitP l = true := by
          have h3 := HB.out.symm
          rw [HB0.out] at h3
          simpa using h3
        have hof := HOUT.out hb2.2
        by_cases h64 : (65535 : Int) < out.length
        · have hno : R = ([], false) := by
            rw [HRD.out, if_neg]
            rintro ⟨-, -, h3⟩
            rw [← hof] at h3
            omega
          have HNO := Lib.hid hno
          clear hno
          clear hof hb2
          go_wp2
          go_ret2
          exact ⟨_, by rw [HNO.out]; rfl, by rw [HNO.out]; exact Own.nil _ _ _ _, HST.out⟩
        · have hyes : R = (be (out.length : Nat) 2 ++ out, true) := by
            rw [HRD.out, if_pos ⟨hb2.1, hb2.2, by rw [← hof]; omega⟩, hof]
          have HYES := Lib.hid hyes
          clear hyes
          clear hof hb2
          go_wp2_with (go_at_call 31; refine stopc ?_)
          refine Stop.go ?_
          refine (vec_any (fun _ => False) _ _ [] out _ _ (Rd.nil _ _ _) (HO.out.rd (h1 := fun _ => rfl) (fun _ _ => id)) (by simp; omega)).mono ?_
          rw [vecB_fit _ _ _ (by simp [clampN]; omega)]
          rintro e w5 ⟨v5, rfl, ho5, hs5⟩
          have HO5 := Lib.hid (ho5.lower HST.out.size)
          have HS5 := Lib.hid (HST.out.trans hs5)
          clear ho5 hs5
          go_wp2
          go_ret2
          exact ⟨_, by rw [HYES.out]; rfl, by rw [HYES.out]; exact HO5.out, HS5.out⟩
end Go.Proofs.YtligofmhbbgalaaGreatDoor.L

/- exts: what is put of protocols and versions; the document's own. -/
namespace Go.Proofs.YtligofmhbbgalaaGreatDoor.L
open Go.RowKit Go.Proofs

theorem fitP_take (l : List ByteArray) (k : Nat) (h : fitP l = true) : fitP (l.take k) = true := by
  unfold fitP at h ⊢
  rw [List.all_eq_true] at h ⊢
  exact fun x hx => h x (List.mem_of_mem_take hx)

set_option maxRecDepth 10000 in
set_option maxHeartbeats 4000000 in
theorem putPrR_any (M : Nat → Prop) (v0 : Value) (l : List ByteArray) (w : World) (hd : Rd str M w v0 l) (hl : l.length ≤ 2000000) (hs : ∀ s ∈ l, s.size ≤ 1000000000) :
    Calls Tryz.prog 33 #[v0] w (NewB2 w (putPrS l).1 (putPrS l).2) := by
  obtain ⟨A0, c0, rfl, hle0⟩ := hd.form
  obtain ⟨R, hR⟩ : ∃ R, R = putPrS l := ⟨_, rfl⟩
  rw [← hR]
  have HRD := Lib.hid (show R = if 0 < l.length ∧ fitP l = true ∧ (flatP l).length ≤ 65535 then (be ((flatP l).length : Nat) 2 ++ flatP l, true) else ([], false) from hR)
  clear hR
  have HD := Lib.hid hd
  have HS := Lib.hid hs
  clear hd hs
  go_enter Tryz.func33, Tryz.ntmps33
  go_wp2
  go_loopw [4, 5, 6, 7] (fun o i _ _ wr => ∃ (k : Nat) (out : List UInt8), k ≤ l.length ∧ i = .int .i64 k ∧ fitP (l.take k) = true ∧ out = flatP (l.take k) ∧ out.length ≤ 256 * k ∧ Own enc8 5 w.heap.size wr o out ∧ Stp (fun _ => False) w wr) (fun _ i _ _ _ => l.length - (intOf i).toNat)
  case atStart => exact ⟨0, [], Nat.zero_le _, rfl, by simp [fitP], rfl, by simp, Own.nil _ _ _ _, Stp.refl _ _⟩
  case round =>
    obtain ⟨k, out, hk, rfl, hfit, hout, hol, ho, hst⟩ := hrel
    obtain ⟨Ao, co, rfl, hleo⟩ := ho.form
    have HFIT := Lib.hid hfit
    clear hfit
    have HOUT := Lib.hid hout
    have HO := Lib.hid ho
    have HST := Lib.hid hst
    clear hout ho hst
    by_cases hlt : k < l.length
    · obtain ⟨ad, rfl, _, hcell⟩ := plain_cell (HD.out.stp0 HST.out) k hlt
      have hx := HS.out _ (List.getElem_mem hlt)
      have HTK := Lib.hid (take_snoc l k hlt)
      obtain ⟨x, hxe⟩ : ∃ x, x = l[k] := ⟨_, rfl⟩
      rw [← hxe] at hcell hx HTK
      clear hxe
      have HBL := Lib.hid (bytes_len x)
      have hbad : ¬ (0 < x.size ∧ x.size ≤ 255) → R = ([], false) := by
        intro h
        rw [HRD.out, if_neg]
        rintro ⟨-, h2, -⟩
        have h3 := fitP_take l (k + 1) h2
        rw [HTK.out, fitP_snoc] at h3
        simp only [Bool.and_eq_true, decide_eq_true_eq] at h3
        exact h h3.2
      have HBAD := Lib.hid hbad
      clear hbad
      go_wp2_with (with_reducible refine stop (N := 22) rfl ?_)
      refine Stop.go ?_
      refine wp_bytesOf rfl _ _ 5 _ rfl Tryz.underlying9 Tryz.underlying22 Tryz.underlying5 rfl (by omega) ?_
      rintro v3 w3 hr3 hs3 _ ⟨c3, rfl, hc3⟩ _
      have HR3 := Lib.hid (hr3.weak (M' := fun _ => False) (by decide) (fun _ _ h => h.elim))
      have HO3 := Lib.hid ((HO.out.stp0 hs3).rd (h1 := fun _ => rfl) (M := fun _ => False) (fun _ _ => id))
      have HS3 := Lib.hid (HST.out.trans hs3)
      have hcell3 := hs3.cell hcell id
      clear hr3 hs3
      go_wp2_with (go_at_call 62; refine stopc ?_)
      refine Stop.go ?_
      refine (vecR_any (fun _ => False) _ _ out x.data.toList _ _ HO3.out HR3.out (by rw [HBL.out]; omega)).mono ?_
      by_cases h255 : x.size ≤ 255
      · rw [vecB_fit _ _ _ (by rw [HBL.out]; simp [clampN]; omega)]
        rintro e w4 ⟨v4, rfl, ho4, hs4⟩
        have HS4 := Lib.hid (HS3.out.trans hs4)
        have ho4 := ho4.lower HS3.out.size
        rw [HBL.out] at ho4
        have HO4 := Lib.hid ho4
        have hcell4 := hs4.cell hcell3 id
        clear hs4 ho4 hcell hcell3
        by_cases h0 : x.size = 0
        · have HNO := Lib.hid (HBAD.out (by omega))
          go_wp2
          go_ret2
          exact ⟨_, by rw [HNO.out]; rfl, by rw [HNO.out]; exact Own.nil _ _ _ _, HS4.out⟩
        · have h0' : ((x.size : Int) == 0) = false := by simpa using h0
          obtain ⟨y, hy⟩ : ∃ y, y = out ++ be (x.size : Nat) 1 ++ x.data.toList := ⟨_, rfl⟩
          have hyl : y.length ≤ 256 * (k + 1) := by rw [hy]; simp [be_len, HBL.out]; omega
          have hyf : y = flatP (l.take (k + 1)) := by rw [hy, HTK.out, flatP_snoc, HOUT.out, List.append_assoc]
          have hyfit : fitP (l.take (k + 1)) = true := by rw [HTK.out, fitP_snoc, HFIT.out]; simp [h255]; omega
          have ho4 : Own enc8 5 w.heap.size w4 v4 y := by rw [hy]; exact HO4.out
          have HYF := Lib.hid hyf
          have HYFIT := Lib.hid hyfit
          have HO4 := Lib.hid ho4
          clear hyf hyfit ho4
          clear hy h0
          go_wp2
          go_roundw
          case rel => exact ⟨k + 1, y, by omega, by go_num, HYFIT.out, HYF.out, hyl, HO4.out, HS4.out⟩
          case measure => simp [intOf]; omega
      · rw [vecB_no _ _ _ (by rw [HBL.out]; simp [clampN]; omega)]
        rintro e w4 ⟨v4, rfl, ho4, hs4⟩
        have HS4 := Lib.hid (HS3.out.trans hs4)
        have HNO := Lib.hid (HBAD.out (by omega))
        clear hs4 ho4 hcell hcell3
        go_wp2
        go_ret2
        exact ⟨_, by rw [HNO.out]; rfl, by rw [HNO.out]; exact Own.nil _ _ _ _, HS4.out⟩
    · obtain rfl : k = l.length := by omega
      rw [List.take_length] at HFIT HOUT
      go_wp2_with (go_at_call 62; refine stopc ?_)
      refine Stop.go ?_
      refine (vecR_any (fun _ => False) _ _ [] out _ _ (Rd.nil _ _ _) (HO.out.rd (h1 := fun _ => rfl) (fun _ _ => id)) (by simp; omega)).mono ?_
      by_cases h64 : out.length ≤ 65535
      · rw [vecB_fit _ _ _ (by simp [clampN]; omega)]
        rintro e w5 ⟨v5, rfl, ho5, hs5⟩
        have HO5 := Lib.hid (ho5.lower HST.out.size)
        have HS5 := Lib.hid (HST.out.trans hs5)
        clear ho5 hs5
        by_cases h0 : l.length = 0
        · have HNO := Lib.hid (show R = ([], false) by rw [HRD.out, if_neg]; rintro ⟨h1, -⟩; omega)
          have h0' : ((l.length : Int) == 0) = true := by simpa using h0
          clear h0
          go_wp2
          go_ret2
          exact ⟨_, by rw [HNO.out]; rfl, by rw [HNO.out]; exact Own.nil _ _ _ _, HS5.out⟩
        · have h0' : ((l.length : Int) == 0) = false := by simpa using h0
          have HYES := Lib.hid (show R = (be (out.length : Nat) 2 ++ out, true) by rw [HRD.out, if_pos ⟨by omega, HFIT.out, by rw [← HOUT.out]; exact h64⟩, HOUT.out])
          clear h0
          go_wp2
          go_ret2
          exact ⟨_, by rw [HYES.out]; rfl, by rw [HYES.out]; exact HO5.out, HS5.out⟩
      · have HNO := Lib.hid (show R = ([], false) by rw [HRD.out, if_neg]; rintro ⟨-, -, h1⟩; rw [← HOUT.out] at h1; exact h64 h1)
        rw [vecB_no _ _ _ (by simp [clampN]; omega)]
        rintro e w5 ⟨v5, rfl, ho5, hs5⟩
        have HS5 := Lib.hid (HST.out.trans hs5)
        clear ho5 hs5
        go_wp2
        go_ret2
        exact ⟨_, by rw [HNO.out]; rfl, by rw [HNO.out]; exact Own.nil _ _ _ _, HS5.out⟩

/-! ### versions -/
def fitV (l : List Int) : Bool := l.all fun n => decide (0 ≤ n) && decide (n ≤ 65535)
def flatN (l : List Int) : List UInt8 := (l.map fun n => be n 2).flatten
theorem flatN_snoc (l : List Int) (n : Int) : flatN (l ++ [n]) = flatN l ++ be n 2 := by simp [flatN]
theorem flatN_len (l : List Int) : (flatN l).length = 2 * l.length := by
  induction l with
  | nil => rfl
  | cons n l ih =>
    have : flatN (n :: l) = be n 2 ++ flatN l := by simp [flatN]
    rw [this, List.length_append, be_len, ih, List.length_cons]
    omega
end Go.Proofs.YtligofmhbbgalaaGreatDoor.L

/- What is put is read as it was: plain laws. -/
namespace Go.Proofs.YtligofmhbbgalaaGreatDoor.L

theorem rtake_app (x rest : List UInt8) (n : Int) (hn : n = (x.length : Int)) : rtake (x ++ rest, false) n = (x, (rest, false)) := by
  subst hn
  unfold rtake
  rw [if_neg (by simp; omega)]
  simp
theorem beNum_be (n : Int) (s : Nat) : (beNum (be n s) : Int) = n % 256 ^ s := by
  induction s generalizing n with
  | zero => simp [be, beNum]
  | succ s ih =>
    have h1 : be n (s + 1) = be (n / 256) s ++ [toU8 n] := rfl
    rw [h1, beNum_snoc]
    have h2 := ih (n / 256)
    have h3 := toU8_nat n
    have hp : (0 : Int) < 256 ^ s := Int.pow_pos (by decide)
    have h4 : n % 256 ^ (s + 1) = (n / 256) % 256 ^ s * 256 + n % 256 := by
      rw [Int.pow_succ, Int.mul_comm (256 ^ s) 256]
      have e1 := Int.mul_ediv_add_emod n 256
      have e2 := Int.mul_ediv_add_emod (n / 256) (256 ^ s)
      have hb1 := Int.emod_nonneg (n / 256) (Int.ne_of_gt hp)
      have hb2 := Int.emod_lt_of_pos (n / 256) hp
      have hb3 := Int.emod_nonneg n (show (256 : Int) ≠ 0 by decide)
      have hb4 := Int.emod_lt_of_pos n (show (0 : Int) < 256 by decide)
      generalize hq : n / 256 / 256 ^ s = q at *
      generalize hr : n / 256 % 256 ^ s = r at *
      generalize hm : n % 256 = m at *
      have e3 : n = (r * 256 + m) + 256 * 256 ^ s * q := by
        rw [← e1, ← e2, Int.mul_add, Int.mul_comm r 256, Int.mul_assoc]
        omega
      rw [e3, Int.add_mul_emod_self_left]
      exact Int.emod_eq_of_lt (by omega) (by omega)
    rw [h4, ← h2, ← h3]
    simp
theorem rnum_be (n : Nat) (k : Int) (rest : List UInt8) (h : n < 256 ^ clampN k) : rnum (be n (clampN k) ++ rest, false) k = ((n : Int), (rest, false)) := by
  unfold rnum
  rw [rtake_app _ _ _ (by rw [be_len])]
  simp only
  rw [beNum_be, Int.emod_eq_of_lt (by omega) (by have h1 := Int.ofNat_lt.2 h; rw [Int.natCast_pow] at h1; exact h1)]
theorem rvec_be (x rest : List UInt8) (k : Int) (h : x.length < 256 ^ clampN k) : rvec (be x.length (clampN k) ++ x ++ rest, false) k = (x, (rest, false)) := by
  unfold rvec
  rw [List.append_assoc, rnum_be _ _ _ h]
  simp only
  rw [if_neg (by decide), rtake_app _ _ _ rfl]
theorem be2 (n : Int) : be n 2 = [toU8 (n / 256), toU8 n] := rfl

/-! ### names -/
theorem nameS_put (s : ByteArray) (hm : mayB s.data.toList = true) : nameS (putNmS s).1 = (s, 0) := by
  have hsz := may_size hm
  have hp : (putNmS s).1 = be ((s.size + 3 : Nat) : Int) 2 ++ ((0 : UInt8) :: (be (s.size : Nat) 2 ++ s.data.toList)) := by unfold putNmS; rw [if_pos hm]
  obtain ⟨X, hX⟩ : ∃ X : List UInt8, X = (0 : UInt8) :: (be (s.size : Nat) 2 ++ s.data.toList) := ⟨_, rfl⟩
  have hXl : X.length = s.size + 3 := by rw [hX]; simp [be_len]; omega
  rw [← hX, ← hXl] at hp
  have hv : rvec ((putNmS s).1, false) 2 = (X, ([], false)) := by
    rw [hp]
    have := rvec_be X [] 2 (by rw [hXl]; simp [clampN]; omega)
    rw [List.append_nil] at this
    exact this
  have h1 : oneE (X, false) = ((0, s.data.toList), ([], false)) := by
    have e1 : rnum (X, false) 1 = (0, (be (s.size : Nat) 2 ++ s.data.toList, false)) := by
      rw [hX]
      exact rnum_be 0 1 _ (by simp [clampN])
    have e2 : rvec (be (s.size : Nat) 2 ++ s.data.toList, false) 2 = (s.data.toList, ([], false)) := by
      have := rvec_be s.data.toList [] 2 (by simp [clampN]; omega)
      rw [List.append_nil, bytes_len] at this
      exact this
    unfold oneE
    rw [e1]
    simp only
    rw [e2]
  have h2 : many oneE X.length (X, false) = ([(0, s.data.toList)], ([], false)) := by
    rw [hXl, many_cons _ _ _ (by simp [hXl]), h1]
    simp only
    rw [many_nil _ _ _ rfl]
  have hw : walkS oneE (putNmS s).1 = ([(0, s.data.toList)], true) := by
    unfold walkS
    rw [hv]
    simp only
    rw [if_pos ⟨by trivial, by trivial, by rw [hXl]; omega⟩, h2]
    rfl
  unfold nameS
  rw [hw, if_pos rfl]
  have : namesS [((0 : Int), s.data.toList)] = [s] := by simp [namesS, strB_toList]
  simp only
  rw [this]
  simp [pickS, hm]

/-! ### protocols -/
theorem oneS_put (s : ByteArray) (rest : List UInt8) (h : s.size ≤ 255) : oneS (be (s.size : Nat) 1 ++ s.data.toList ++ rest, false) = (s, (rest, false)) := by
  have := rvec_be s.data.toList rest 1 (by simp [clampN]; omega)
  rw [bytes_len] at this
  unfold oneS
  have e : (be (s.size : Nat) 1 ++ s.data.toList ++ rest) = (be (s.size : Nat) (clampN 1) ++ s.data.toList ++ rest) := rfl
  rw [e, this]
  simp [strB_toList]
theorem flatP_cons (s : ByteArray) (l : List ByteArray) : flatP (s :: l) = be (s.size : Nat) 1 ++ s.data.toList ++ flatP l := by simp [flatP]
theorem fitP_cons (s : ByteArray) (l : List ByteArray) : fitP (s :: l) = true ↔ (0 < s.size ∧ s.size ≤ 255) ∧ fitP l = true := by simp [fitP]
theorem many_put (l : List ByteArray) (n : Nat) (hn : (flatP l).length ≤ n) (h : fitP l = true) : many oneS n (flatP l, false) = (l, ([], false)) := by
  induction l generalizing n with
  | nil => exact many_nil _ _ _ rfl
  | cons s l ih =>
    obtain ⟨⟨h1, h2⟩, h3⟩ := (fitP_cons s l).1 h
    have hl : (flatP (s :: l)).length = 1 + s.size + (flatP l).length := by rw [flatP_cons]; simp [be_len]; omega
    obtain ⟨m, rfl⟩ : ∃ m, n = m + 1 := ⟨n - 1, by omega⟩
    rw [many_cons _ _ _ (by simp only; omega)]
    have h4 : oneS (flatP (s :: l), false) = (s, (flatP l, false)) := by rw [flatP_cons]; exact oneS_put _ _ h2
    rw [h4]
    simp only
    rw [ih m (by omega) h3]
theorem flatP_pos (l : List ByteArray) (h : 0 < l.length) : 0 < (flatP l).length := by
  cases l with
  | nil => simp at h
  | cons s l => rw [flatP_cons]; simp [be_len]; omega
theorem hasE_fit (l : List ByteArray) (h : fitP l = true) : hasE l = false := by
  unfold hasE
  rw [List.any_eq_false]
  intro s hs
  unfold fitP at h
  rw [List.all_eq_true] at h
  have := h s hs
  simp only [Bool.and_eq_true, decide_eq_true_eq] at this
  rw [beq_iff_eq]
  omega

/-- What is put, where it is put. -/
theorem putPr_yes (l : List ByteArray) (h : (putPrS l).2 = true) : 0 < l.length ∧ fitP l = true ∧ (flatP l).length ≤ 65535 ∧ (putPrS l).1 = be ((flatP l).length : Nat) 2 ++ flatP l := by
  unfold putPrS at h ⊢
  split at h
  · rename_i hc
    rw [if_pos hc]
    exact ⟨hc.1, hc.2.1, hc.2.2, rfl⟩
  · cases h
theorem rvec_putPr (l : List ByteArray) (h : (putPrS l).2 = true) (rest : List UInt8) : rvec ((putPrS l).1 ++ rest, false) 2 = (flatP l, (rest, false)) := by
  obtain ⟨h1, h2, h3, h4⟩ := putPr_yes l h
  rw [h4]
  exact rvec_be (flatP l) rest 2 (by simp [clampN]; omega)
theorem protS_put (l : List ByteArray) (h : (putPrS l).2 = true) : protS (putPrS l).1 = (l, 0) := by
  obtain ⟨h1, h2, h3, h4⟩ := putPr_yes l h
  have hv := rvec_putPr l h []
  rw [List.append_nil] at hv
  have hp := flatP_pos l h1
  have hm := many_put l (flatP l).length (Nat.le_refl _) h2
  exact protS_good _ _ _ l hv ⟨rfl, rfl, by omega⟩ (by rw [hm]) (by rw [hm]) (hasE_fit l h2)
/-! ### versions -/
theorem twos_put (l : List Int) (h : fitV l = true) : twos (flatN l) = l := by
  induction l with
  | nil => rfl
  | cons n l ih =>
    have h1 : (0 ≤ n ∧ n ≤ 65535) ∧ fitV l = true := by simpa [fitV] using h
    have e : flatN (n :: l) = toU8 (n / 256) :: toU8 n :: flatN l := by simp [flatN, be2]
    rw [e, twos, ih h1.2]
    congr 1
    have h2 := toU8_nat (n / 256)
    have h3 := toU8_nat n
    omega
end Go.Proofs.YtligofmhbbgalaaGreatDoor.L

/- A hello that is being made, in a block; what bytes are laid out as. -/
namespace Go.Proofs.YtligofmhbbgalaaGreatDoor.L
open Go.RowKit Go.Proofs

/-- A hello in a block: its fields, as values. -/
def HlB (W : World) (g : Nat) (h : Hl) (vs vc vm vx : Value) : Prop := W.heap[g]? = some (.cells (hlV h vs vc vm vx).toArray 69 (0, 0)) ∧ h.rnd.length = 32
def hl0 : Hl := ⟨0, List.replicate 32 0, [], [], [], false, []⟩
theorem hlV0 : (hlV hl0 (.slice none 0 0) (.slice none 0 0) (.slice none 0 0) (.slice none 0 0)).toArray = #[.int .i64 0, .int .u8 0, .int .u8 0, .int .u8 0, .int .u8 0, .int .u8 0, .int .u8 0, .int .u8 0, .int .u8 0, .int .u8 0, .int .u8 0, .int .u8 0, .int .u8 0, .int .u8 0, .int .u8 0, .int .u8 0, .int .u8 0, .int .u8 0, .int .u8 0, .int .u8 0, .int .u8 0, .int .u8 0, .int .u8 0, .int .u8 0, .int .u8 0, .int .u8 0, .int .u8 0, .int .u8 0, .int .u8 0, .int .u8 0, .int .u8 0, .int .u8 0, .int .u8 0, .slice none 0 0, .slice none 0 0, .slice none 0 0, .bool false, .slice none 0 0] := by rfl
section
variable {W W1 : World} {g : Nat} {h : Hl} {vs vc vm vx : Value}
theorem HlB.step {S : Nat → Prop} (hb : HlB W g h vs vc vm vx) (hs : Stp S W W1) (hS : ¬ S g) : HlB W1 g h vs vc vm vx := ⟨hs.blk hb.1 hS, hb.2⟩
theorem HlB.stp0 (hb : HlB W g h vs vc vm vx) (hs : Stp (fun _ => False) W W1) : HlB W1 g h vs vc vm vx := hb.step hs id
theorem HlB.lt (hb : HlB W g h vs vc vm vx) : g < W.heap.size := blk_lt hb.1
theorem hlV_at (hr : h.rnd.length = 32) : (hlV h vs vc vm vx).length = 38 ∧ (hlV h vs vc vm vx)[0]? = some (.int .i64 h.ver) ∧ (hlV h vs vc vm vx)[33]? = some vs ∧ (hlV h vs vc vm vx)[34]? = some vc ∧ (hlV h vs vc vm vx)[35]? = some vm ∧ (hlV h vs vc vm vx)[36]? = some (.bool h.has) ∧ (hlV h vs vc vm vx)[37]? = some vx := by
  refine ⟨by simp [hlV, hr], ?_, ?_, ?_, ?_, ?_, ?_⟩ <;> simp [hlV, List.getElem?_append, hr]
theorem HlB.cells (hb : HlB W g h vs vc vm vx) : W.cell? ⟨g, 0, none⟩ = some (.int .i64 h.ver) ∧ W.cell? ⟨g, 33, none⟩ = some vs ∧ W.cell? ⟨g, 34, none⟩ = some vc ∧ W.cell? ⟨g, 35, none⟩ = some vm ∧ W.cell? ⟨g, 36, none⟩ = some (.bool h.has) ∧ W.cell? ⟨g, 37, none⟩ = some vx := by
  obtain ⟨h1, h2⟩ := hb
  obtain ⟨-, a0, a1, a2, a3, a4, a5⟩ := hlV_at (h := h) (vs := vs) (vc := vc) (vm := vm) (vx := vx) h2
  refine ⟨?_, ?_, ?_, ?_, ?_, ?_⟩ <;> (rw [blk_cell h1, List.getElem?_toArray]; assumption)
theorem HlB.free (hb : HlB W g h vs vc vm vx) (j : Nat) : W.frozen? ⟨g, j, none⟩ = false := blk_free hb.1 j
theorem HlB.set0 (hb : HlB W g h vs vc vm vx) (n : Int) : HlB (W.setCell ⟨g, 0, none⟩ (.int .i64 n)) g { h with ver := n } vs vc vm vx := by
  refine ⟨?_, hb.2⟩
  have := blk_set hb.1 0 (.int .i64 n)
  rw [this]
  simp [hlV]
theorem HlB.set33 (hb : HlB W g h vs vc vm vx) (v : Value) (l : List UInt8) : HlB (W.setCell ⟨g, 33, none⟩ v) g { h with ses := l } v vc vm vx := by
  refine ⟨?_, hb.2⟩
  have := blk_set hb.1 33 v
  rw [this]
  simp [hlV, List.set_append, hb.2]
theorem HlB.set34 (hb : HlB W g h vs vc vm vx) (v : Value) (l : List Int) : HlB (W.setCell ⟨g, 34, none⟩ v) g { h with cip := l } vs v vm vx := by
  refine ⟨?_, hb.2⟩
  have := blk_set hb.1 34 v
  rw [this]
  simp [hlV, List.set_append, hb.2]
theorem HlB.set35 (hb : HlB W g h vs vc vm vx) (v : Value) (l : List UInt8) : HlB (W.setCell ⟨g, 35, none⟩ v) g { h with met := l } vs vc v vx := by
  refine ⟨?_, hb.2⟩
  have := blk_set hb.1 35 v
  rw [this]
  simp [hlV, List.set_append, hb.2]
theorem HlB.set36 (hb : HlB W g h vs vc vm vx) (b : Bool) : HlB (W.setCell ⟨g, 36, none⟩ (.bool b)) g { h with has := b } vs vc vm vx := by
  refine ⟨?_, hb.2⟩
  have := blk_set hb.1 36 (.bool b)
  rw [this]
  simp [hlV, List.set_append, hb.2]
theorem HlB.set37 (hb : HlB W g h vs vc vm vx) (v : Value) (l : List (Int × List UInt8)) : HlB (W.setCell ⟨g, 37, none⟩ v) g { h with exs := l } vs vc vm v := by
  refine ⟨?_, hb.2⟩
  have := blk_set hb.1 37 v
  rw [this]
  simp [hlV, List.set_append, hb.2]

theorem laid_u8 {M : Nat → Prop} {x : List UInt8} {cs : List Value} (h : Laid u8 M W x cs) : cs = x.map enc8 := by
  induction x generalizing cs with
  | nil => exact h
  | cons y ys ih =>
    obtain ⟨c1, r, rfl, hk, hr⟩ := h
    obtain rfl : c1 = [enc8 y] := hk
    rw [ih hr]
    rfl
/-- copy(h.Random[:], x) -/
def rndS (old x : List UInt8) : List UInt8 := if x.length = 32 then x else old
theorem op_copyRnd {P : Program} {o : Oper} {a : Act} {Q : Exit → Act → World → Prop} (hb : HlB W g h vs vc vm vx) (d s : Operand) (dT sT : TypeId)
    (ho : o.op = .call { callee := .builtin .copy, args := #[d, s], argTypes := #[dT, sT] }) (elem : TypeId) (hu : P.underlying dT = some (.slice elem)) (hsz : (P.info? elem).map (·.size) = some 1)
    {M : Nat → Prop} {sv : Value} {x : List UInt8} (hx : Rd u8 M W sv x) (hxl : x.length = 32 ∨ x = []) (hd : a.eval d = .slice (some ⟨g, 1, none⟩) 32 32) (hs : a.eval s = sv) {K : Act → World → Prop}
    (hK : ∀ W', HlB W' g { h with rnd := rndS h.rnd x } vs vc vm vx → Stp (fun k => k = g) W W' → K (a.put o.dst (goInt (x.length : Nat))) W') : Oper.wp P o a W K Q := by
  obtain ⟨A, c, rfl, hl, hm, hc⟩ := hx
  rcases hxl with h32 | rfl
  · obtain ⟨ad, rfl, hcs⟩ := hc (by omega)
    obtain ⟨cs, hla, hcc⟩ := cells_flat x ad hcs.2
    have hcsl := hla.len
    obtain rfl := laid_u8 hla
    have hrun := run_copy_row (P := P) W dT sT o.type elem g 1 32 32 ad x.length c (hlV h vs vc vm vx).toArray 69 (x.map enc8) hu hsz hb.1 (by simp [h32]) hcc (by have := (hlV_at (h := h) (vs := vs) (vc := vc) (vm := vm) (vx := vx) hb.2).1; simp [h32, this]) (by
      intro v hv
      obtain ⟨p, _, rfl⟩ := List.mem_map.1 hv
      rfl)
    unfold Oper.wp
    simp [execOp, ho, resolve, invoke, builtin, hd, hs, hrun, Result.andThen]
    have hk := hK (W.setRow g (hlV { h with rnd := rndS h.rnd x } vs vc vm vx).toArray) ⟨setRow_heap W g _ _ 69 _ hb.1, by simp [rndS, h32]⟩ ⟨rfl, rfl, rfl, by simp, fun k _ hk => setRow_other W g k _ hk⟩
    have e : (hlV { h with rnd := rndS h.rnd x } vs vc vm vx).toArray = ((hlV h vs vc vm vx).take 1 ++ (x.map enc8 ++ (hlV h vs vc vm vx).drop (1 + x.length))).toArray := by
      have h1 : rndS h.rnd x = x := by simp [rndS, h32]
      rw [h1]
      have h2 : (h.rnd.map enc8).length = 32 := by rw [List.length_map, hb.2]
      simp only [hlV, List.take_succ_cons, List.take_zero]
      rw [h32, show 1 + 32 = 32 + 1 from rfl, List.drop_succ_cons, List.drop_append, h2, List.drop_of_length_le (by omega)]
      simp
    rw [e] at hk
    exact hk
  · have hrun := run_copy_none (P := P) W dT sT o.type elem (some ⟨g, 1, none⟩) A 32 32 0 c hu hsz (by simp)
    unfold Oper.wp
    simp [execOp, ho, resolve, invoke, builtin, hd, hs, hrun, Result.andThen]
    exact hK W (by simpa [rndS] using hb) (Stp.refl _ _)
end

/-! ### what bytes are laid out as -/
def rd1 (b : List UInt8) : Int × RSt := rnum (b, false) 2
def rd2 (b : List UInt8) : List UInt8 × RSt := rtake (rd1 b).2 32
def rd3 (b : List UInt8) : List UInt8 × RSt := rvec (rd2 b).2 1
def rd4 (b : List UInt8) : List UInt8 × RSt := rvec (rd3 b).2 2
def rd5 (b : List UInt8) : List UInt8 × RSt := rvec (rd4 b).2 1
def rd6 (b : List UInt8) : List UInt8 × RSt := rvec (rd5 b).2 2
def hlF (b : List UInt8) : Hl := ⟨(rd1 b).1, rndS (List.replicate 32 0) (rd2 b).1, (rd3 b).1, twos (rd4 b).1, (rd5 b).1, false, []⟩
/-- Whether the parts up to the methods are right. -/
def okFH (b : List UInt8) : Prop := (rd5 b).2.2 = false ∧ (rd4 b).1.length ≠ 0 ∧ (rd4 b).1.length % 2 = 0 ∧ (rd5 b).1.length ≠ 0
instance (b : List UInt8) : Decidable (okFH b) := by unfold okFH; infer_instance
def okX (b : List UInt8) : Prop := (rd6 b).2.2 = false ∧ (rd6 b).2.1.length = 0 ∧ (extS (rd6 b).1).2 = true
instance (b : List UInt8) : Decidable (okX b) := by unfold okX; infer_instance
def laidS (b : List UInt8) : Option Hl :=
  if okFH b then (if (rd5 b).2.1.length = 0 then some (hlF b) else if okX b then some { hlF b with has := true, exs := (extS (rd6 b).1).1 } else none) else none
def parseS (b : List UInt8) : Hl × Int :=
  match laidS b with
  | none => (hl0, 3)
  | some h => if wrongH h = 0 then (h, 0) else (hl0, wrongH h)
theorem rd2_len (b : List UInt8) : (rd2 b).1.length = 32 ∨ (rd2 b).1 = [] := by
  unfold rd2 rtake
  split
  · exact .inr rfl
  · left
    simp
    omega
end Go.Proofs.YtligofmhbbgalaaGreatDoor.L
