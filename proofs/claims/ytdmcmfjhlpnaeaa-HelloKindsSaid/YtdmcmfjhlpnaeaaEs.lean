/- exts: the protocols of data, one by one; whether one is empty. -/
import Derived.Test.YtdmcmfjhlpnaeaaEx
set_option linter.unusedVariables false
set_option linter.unusedSimpArgs false
namespace Go.Proofs.Ytdmcmfjhlpnaeaa.L
open Go.RowKit Go.Proofs

set_option maxHeartbeats 4000000 in
theorem walkP_any (M : Nat → Prop) (v0 : Value) (d : List UInt8) (w : World) (hd : Rd u8 M w v0 d) (hl : d.length ≤ 1000000000) :
    Calls Try.prog 70 #[v0, .func (.func 71) #[] #[]] w fun e w' =>
      ∃ v, e = .returned (.tuple #[v, .bool (walkS oneS d).2]) ∧ Rd str (fun k => k < w.heap.size) w' v (walkS oneS d).1 ∧ Stp (fun _ => False) w w' := by
  obtain ⟨a, s1, hv⟩ : ∃ a s1, rvec (d, false) 2 = (a, s1) := ⟨_, _, rfl⟩
  have hal : a.length ≤ d.length := by have := rvec_len1 (d, false) 2; rw [hv] at this; exact this
  have hs1l : s1.1.length ≤ d.length := by have := rvec_len (d, false) 2; rw [hv] at this; exact this
  have HV := Lib.hid hv
  have HD := Lib.hid hd
  clear hv hd
  go_enter Try.func70, Try.ntmps70
  go_wp2_with (go_at_call 26; refine stopc ?_)
  refine Stop.go ?_
  refine (read_any M _ d _ HD.out (by omega)).mono ?_
  rintro e w1 ⟨gr, rfl, hi1, hs1⟩
  have HG := Lib.hid (Nat.not_lt.1 hi1.1)
  have HI1 := Lib.hid (hi1.weak (M' := fun _ => False) (fun _ _ h => h.elim))
  have HS1 := Lib.hid hs1
  clear hi1 hs1
  go_wp2_with (go_at_call 31; refine stopc ?_)
  refine Stop.go ?_
  refine (rvec_any (fun _ => False) gr _ _ _ HI1.out (by simp only; omega)).mono ?_
  rw [HV.out]
  rintro e w2 ⟨v2, rfl, ho2, hi2, hs2⟩
  have HI2 := Lib.hid hi2
  have HO2 := Lib.hid ho2
  have HS2 := Lib.hid (HS1.out.new hs2 HG.out)
  clear hi2 ho2 hs2
  go_wp2_with (go_at_call 26; refine stopc ?_)
  refine Stop.go ?_
  refine (read_any (fun _ => False) _ a _ (HO2.out.rd (h1 := fun _ => rfl) (fun _ _ => id)) (by omega)).mono ?_
  rintro e w3 ⟨gi, rfl, hi3, hs3⟩
  obtain ⟨Mi, hMi⟩ : ∃ M : Nat → Prop, M = fun k => k < w2.heap.size ∨ w3.heap.size ≤ k := ⟨_, rfl⟩
  have HMI := Lib.hid hMi
  have HGI := Lib.hid (And.intro (Nat.not_lt.1 hi3.1) hi3.lt)
  have HI3 := Lib.hid (hi3.weak (M' := Mi) (by
    rw [hMi]
    intro k hk h
    omega))
  have HR3 := Lib.hid (HI2.out.stp0 hs3)
  have HS3 := Lib.hid (HS2.out.trans hs3)
  have HX3 := Lib.hid hs3.size
  clear hMi hi3 hs3
  by_cases hok : s1.2 = false ∧ s1.1.length = 0 ∧ a.length ≠ 0
  · have hw : walkS oneS d = ((many oneS a.length (a, false)).1, !(many oneS a.length (a, false)).2.2) := by
      unfold walkS
      rw [HV.out, if_pos hok]
    have HW := Lib.hid hw
    clear hw
    obtain ⟨hok1, hok2, hok3⟩ := hok
    have hz1 : (!s1.2 && (s1.1.length : Int) == 0) = true := by rw [hok1, hok2]; rfl
    have hz2 : ((a.length : Int) == 0) = false := by simpa using hok3
    clear hok1 hok2
    go_wp2_with (first
      | (go_at_call 36; refine (done_any (fun _ => False) gr _ _ HR3.out (by omega)).mono ?_; rw [hz1]; rintro e w' ⟨rfl, rfl⟩)
      | (go_at_call 33; refine (left_any Mi gi _ _ HI3.out (by simp only; omega)).mono ?_; rintro e w' ⟨rfl, rfl⟩))
    go_loopg [8] a.length (fun n o wr => ∃ xs s D, many oneS a.length (a, false) = (xs ++ (many oneS n s).1, (many oneS n s).2) ∧ s.1.length ≤ n ∧ xs.length + n ≤ a.length ∧ OwnK str 9 w3.heap.size D wr o xs ∧ IsRd Mi wr gi s ∧ Stp (fun _ => False) w wr ∧ w3.heap.size ≤ wr.heap.size)
    case atStart => exact ⟨[], (a, false), fun _ => False, by simp, Nat.le_refl _, by simp, OwnK.nil _ _ _ _, HI3.out, HS3.out, Nat.le_refl _⟩
    case round =>
      obtain ⟨xs, s, D, hm, hsl, hxl, ho, hi, hs, hswr⟩ := hrel
      have HM := Lib.hid hm
      have HO := Lib.hid ho
      have HI := Lib.hid hi
      have HS := Lib.hid hs
      clear hm ho hi hs
      by_cases h0 : s.1.length = 0
      · have hz3 : ((s.1.length : Int) == 0) = true := by simpa using h0
        have hw2 : walkS oneS d = (xs, !s.2) := by
          rw [HW.out, HM.out, many_nil _ _ _ h0]
          simp
        have HW2 := Lib.hid hw2
        obtain ⟨A8, c8, rfl, hle8⟩ := HO.out.form
        clear hw2
        go_wp2_with (first
          | (go_at_call 36; refine (done_any Mi gi _ _ HI.out (by omega)).mono ?_; rw [hz3, Bool.and_true]; rintro e w' ⟨rfl, rfl⟩)
          | (go_at_call 33; refine (left_any Mi gi _ _ HI.out (by omega)).mono ?_; rintro e w' ⟨rfl, rfl⟩))
        go_ret2
        refine ⟨_, by rw [HW2.out]; rfl, ?_, HS.out⟩
        rw [HW2.out]
        have hh := HX3.out
        have hh2 := HS2.out.size
        exact HO.out.rd (fun k hk h hd => by have := (HO.out.lo k hd).1; omega) (fun k hk h => by have := (HO.out.lt k hk).1; omega)
      · obtain ⟨m, rfl⟩ : ∃ m, gk = m + 1 := ⟨gk - 1, by omega⟩
        have HMC := Lib.hid (many_cons oneS m s h0)
        have hpos : 0 < s.1.length := by omega
        have HLT := Lib.hid (oneS_lt s h0)
        go_wp2_with (first
          | (go_at_call 33; refine (left_any Mi gi _ _ HI.out (by omega)).mono ?_; rintro e w' ⟨rfl, rfl⟩)
          | (go_at_call 71; refine stopc ?_))
        refine Stop.go ?_
        refine (protOne_any Mi gi s _ HI.out (by omega)).mono ?_
        rintro e w5 ⟨rfl, hi5, hs5⟩
        have HI5 := Lib.hid hi5
        have HS5 := Lib.hid hs5
        clear hi5 hs5
        go_wp2_with (with_reducible refine stop (N := 30) rfl ?_)
        refine Stop.go ?_
        have hgi := HGI.out
        have hh := HX3.out
        have hh2 := HS2.out.size
        have hh5 := HS5.out.size
        have hOX := (HO.out.step HS5.out (fun k hk he => ⟨fun hd => by have := (HO.out.lo k hd).1; omega, fun hv => by have := (HO.out.lt k hv).1; omega⟩))
        have hsw : w.heap.size ≤ w3.heap.size := HS3.out.size
        refine wp_append1K (D' := D) (oneS s).1 rfl _ _ _ rfl Try.underlying41 info_string rfl (by decide) (hOX.stp0 ((Stp.refl _ _).alloc _)) rfl ⟨w5.heap.size, 0, none⟩ 1 [.string (oneS s).1] rfl (fun j u hu => alloc_at _ _ _ _ _ _ hu) rfl (fun k h => h) ?_ ?_ ?_ ?_ ?_
        · intro k hk
          have hsz : (w5.alloc (Obj.cells #[Value.string (oneS s).1] 9)).heap.size = w5.heap.size + 1 := by simp
          have h1 := hOX.lo k hk
          exact ⟨h1.1, by omega, fun h => hOX.apart k h hk⟩
        · omega
        · omega
        · simp
          omega
        · intro v6 w6 ho6 hg6
          have HS6 := Lib.hid ((((HS.out.new HS5.out (by omega)).alloc _).ownK (hOX.stp0 ((Stp.refl _ _).alloc _)) hsw hg6))
          have HO6 := Lib.hid ho6
          have HI6 := Lib.hid ((HI5.out.stp0 ((Stp.refl _ _).alloc _)).step (Stp.of_grown hg6) (fun k hk he => by
            rw [HMI.out]
            have := (HO.out.lt k he).1
            exact .inr (by omega)))
          have hw6 := hg6.size
          clear ho6 hg6
          go_wp2
          go_roundg m
          case measure => omega
          case rel =>
            refine ⟨xs ++ [(oneS s).1], (oneS s).2, _, ?_, ?_, ?_, HO6.out, HI6.out, HS6.out, by simp at hw6; omega⟩
            · rw [HM.out, HMC.out]
              simp
            · have := HLT.out
              omega
            · rw [List.length_append]
              simp
              omega
  · have hw : walkS oneS d = ([], false) := by
      unfold walkS
      rw [HV.out, if_neg hok]
    have HW := Lib.hid hw
    clear hw
    by_cases hz : (!s1.2 && (s1.1.length : Int) == 0) = true
    · have hz2 : ((a.length : Int) == 0) = true := by
        simp only [Bool.and_eq_true, Bool.not_eq_true', beq_iff_eq] at hz
        have : a.length = 0 := Decidable.byContradiction fun h => hok ⟨hz.1, by omega, h⟩
        simpa using this
      go_wp2_with (first
        | (go_at_call 36; refine (done_any (fun _ => False) gr _ _ HR3.out (by omega)).mono ?_; rw [hz]; rintro e w' ⟨rfl, rfl⟩)
        | (go_at_call 33; refine (left_any Mi gi _ _ HI3.out (by simp only; omega)).mono ?_; rintro e w' ⟨rfl, rfl⟩))
      go_ret2
      exact ⟨_, by rw [HW.out]; rfl, by rw [HW.out]; exact Rd.nil _ _ _, HS3.out⟩
    · have hz' : (!s1.2 && (s1.1.length : Int) == 0) = false := by simpa using hz
      go_wp2_with (first
        | (go_at_call 36; refine (done_any (fun _ => False) gr _ _ HR3.out (by omega)).mono ?_; rw [hz']; rintro e w' ⟨rfl, rfl⟩)
        | (go_at_call 33; refine (left_any Mi gi _ _ HI3.out (by simp only; omega)).mono ?_; rintro e w' ⟨rfl, rfl⟩))
      go_ret2
      exact ⟨_, by rw [HW.out]; rfl, by rw [HW.out]; exact Rd.nil _ _ _, HS3.out⟩

theorem ba_ne {x y : ByteArray} (h : x ≠ y) : (x.toList == y.toList) = false := by
  rw [beq_eq_false_iff_ne]
  intro e
  rw [ByteArray.toList_eq, ByteArray.toList_eq] at e
  apply h
  cases x with | mk a => cases y with | mk b => cases a with | mk l => cases b with | mk m => exact congrArg (fun l => (⟨⟨l⟩⟩ : ByteArray)) e

set_option maxHeartbeats 1000000 in
theorem indexS_any (M : Nat → Prop) (v0 : Value) (x : ByteArray) (ss : List ByteArray) (w : World) (hd : Rd str M w v0 ss) (hl : ss.length ≤ 1000000000) :
    Calls Try.prog 82 #[v0, .string x] w fun e w' => ∃ i : Int, e = .returned (.int .i64 i) ∧ (0 ≤ i ↔ x ∈ ss) ∧ w = w' := by
  obtain ⟨A, c, rfl, hle⟩ := hd.form
  have HD := Lib.hid hd
  clear hd
  go_enter Try.func82, Try.ntmps82
  go_wp2
  go_loop [5, 8] (fun _ i => ∃ k : Nat, k ≤ ss.length ∧ i = .int .i64 k ∧ ∀ j (hj : j < ss.length), j < k → x ≠ ss[j]) (fun _ i => ss.length - (intOf i).toNat)
  case atStart => exact ⟨0, Nat.zero_le _, rfl, fun j hj h => absurd h (by omega)⟩
  case round =>
    obtain ⟨k, hk, rfl, hall⟩ := hrel
    have HALL := Lib.hid hall
    clear hall
    by_cases hlt : k < ss.length
    · obtain ⟨ad, rfl, _, hcell⟩ := plain_cell HD.out k hlt
      by_cases he : x = ss[k]
      · have hb : (x.toList == ss[k].toList) = true := by rw [he]; exact beq_self_eq_true _
        go_wp2
        go_ret
        refine ⟨_, rfl, ?_, rfl⟩
        first | omega | exact ⟨fun _ => by rw [he]; exact List.getElem_mem hlt, fun _ => by omega⟩
      · have hb : (x.toList == ss[k].toList) = false := ba_ne he
        go_wp2
        go_round
        case rel =>
          refine ⟨k + 1, by omega, by go_num, fun j hj h => ?_⟩
          by_cases hjk : j = k
          · subst hjk
            exact he
          · exact HALL.out j hj (by omega)
        case measure => simp [intOf]; omega
    · obtain rfl : k = ss.length := by omega
      go_wp2
      go_ret
      refine ⟨-1, rfl, ⟨fun h => absurd h (by decide), fun h => ?_⟩, rfl⟩
      obtain ⟨j, hj, he⟩ := List.mem_iff_getElem.1 h
      exact absurd he.symm (HALL.out j hj hj)

theorem containsS_any (M : Nat → Prop) (v0 : Value) (x : ByteArray) (ss : List ByteArray) (w : World) (hd : Rd str M w v0 ss) (hl : ss.length ≤ 1000000000) (b : Bool) (hb : b = true ↔ x ∈ ss) :
    Calls Try.prog 72 #[v0, .string x] w fun e w' => e = .returned (.bool b) ∧ w = w' := by
  have HD := Lib.hid hd
  clear hd
  go_enter Try.func72, Try.ntmps72
  go_wp2_with (go_at_call 82; refine (indexS_any M _ _ _ _ HD.out hl).mono ?_; rintro e w' ⟨i, rfl, hi, rfl⟩)
  go_ret
  refine ⟨?_, rfl⟩
  have : decide (0 ≤ i) = b := by
    rw [Bool.eq_iff_iff, decide_eq_true_eq, hb]
    exact hi
  rw [← this]
  rfl
end Go.Proofs.Ytdmcmfjhlpnaeaa.L
