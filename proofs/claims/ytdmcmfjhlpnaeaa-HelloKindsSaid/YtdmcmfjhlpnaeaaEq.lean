/- The document's own Protocols, Versions. -/
import Derived.Test.YtdmcmfjhlpnaeaaEr
import Derived.Deep.RegionHeld3
set_option linter.unusedVariables false
set_option linter.unusedSimpArgs false
namespace Go.Proofs.Ytdmcmfjhlpnaeaa.L
open Go.RowKit Go.Proofs

theorem protS_bad (d a : List UInt8) (s1 : RSt) (hv : rvec (d, false) 2 = (a, s1)) (h : ¬ (s1.2 = false ∧ s1.1.length = 0 ∧ a.length ≠ 0)) : protS d = ([], 3) := by
  unfold protS walkS
  rw [hv, if_neg h]
  rfl
theorem protS_off (d a : List UInt8) (s1 : RSt) (hv : rvec (d, false) 2 = (a, s1)) (h : (many oneS a.length (a, false)).2.2 = true) : protS d = ([], 3) := by
  unfold protS walkS
  rw [hv]
  by_cases hc : s1.2 = false ∧ s1.1.length = 0 ∧ a.length ≠ 0
  · rw [if_pos hc]
    simp [h]
  · rw [if_neg hc]
    rfl
theorem protS_emp (d a : List UInt8) (s1 : RSt) (hv : rvec (d, false) 2 = (a, s1)) (h : hasE (many oneS a.length (a, false)).1 = true) : protS d = ([], 3) := by
  unfold protS walkS
  rw [hv]
  by_cases hc : s1.2 = false ∧ s1.1.length = 0 ∧ a.length ≠ 0
  · rw [if_pos hc]
    simp [h]
  · rw [if_neg hc]
    rfl
theorem protS_good (d a : List UInt8) (s1 : RSt) (xs : List ByteArray) (hv : rvec (d, false) 2 = (a, s1)) (h : s1.2 = false ∧ s1.1.length = 0 ∧ a.length ≠ 0) (hm : (many oneS a.length (a, false)).1 = xs) (hb : (many oneS a.length (a, false)).2.2 = false) (he : hasE xs = false) :
    protS d = (xs, 0) := by
  unfold protS walkS
  rw [hv, if_pos h]
  simp [hb, hm, he]
theorem hasE_app (xs ys : List ByteArray) : hasE (xs ++ ys) = (hasE xs || hasE ys) := by simp [hasE]
theorem hasE_cons (x : ByteArray) (ys : List ByteArray) : hasE (x :: ys) = (x.size == 0 || hasE ys) := by simp [hasE]

set_option maxRecDepth 10000 in
set_option maxHeartbeats 4000000 in
theorem protR_any (M : Nat → Prop) (v0 : Value) (d : List UInt8) (w : World) (hd : Rd u8 M w v0 d) (hl : d.length ≤ 1000000000) :
    Calls Try.prog 41 #[v0] w fun e w' => ∃ v, e = .returned (.tuple #[v, .int .i64 (protS d).2]) ∧ Rd str (fun k => k < w.heap.size) w' v (protS d).1 ∧ Stp (fun _ => False) w w' := by
  obtain ⟨A0, c0, rfl, hle0⟩ := hd.form
  obtain ⟨a, s1, hv⟩ : ∃ a s1, rvec (d, false) 2 = (a, s1) := ⟨_, _, rfl⟩
  have hal : a.length ≤ d.length := by have := rvec_len1 (d, false) 2; rw [hv] at this; exact this
  have hs1l : s1.1.length ≤ d.length := by have := rvec_len (d, false) 2; rw [hv] at this; exact this
  have HV := Lib.hid hv
  have HD := Lib.hid hd
  clear hv hd
  go_enter Try.func41, Try.ntmps41
  go_wp2_with (go_at_call 32; refine stopc ?_)
  refine Stop.go ?_
  have hr1 := newRf (M := fun k => w.heap.size ≤ k ∧ k ≠ w.heap.size) HD.out (by omega) (by simp) (fun k hk h => absurd h.1 (by omega))
  have HR1 := Lib.hid hr1
  clear hr1
  refine (rvecR_any _ _ _ _ _ HR1.out).mono ?_
  rw [HV.out]
  rintro e w2 ⟨v2, rfl, ho2, hi2, hs2⟩
  dsimp only at ho2 hi2
  obtain ⟨A2, c2, rfl, hle2⟩ := ho2.form
  have HR2 := Lib.hid hi2
  have HO2 := Lib.hid ho2
  have HS2 := Lib.hid (((Stp.refl (fun _ => False) w).alloc _).new hs2 (Nat.le_refl _))
  have hw2 : w.heap.size < w2.heap.size := hi2.lt
  clear hi2 ho2 hs2
  have hi3 := newRf (M := fun k => w2.heap.size + 1 ≤ k) (HO2.out.rd (h1 := fun _ => rfl) (M := fun _ => False) (fun _ _ => id)) (by omega) (by omega) (fun k hk h => absurd h (by omega))
  have HI3 := Lib.hid hi3
  have HR3 := Lib.hid (HR2.out.step ((Stp.refl (fun _ => False) _).alloc (.cells #[.slice A2 a.length c2, .int .i64 0, .bool false] 33)) (fun _ _ h => h.elim))
  have hoff := HR3.out.off
  have HS3 := Lib.hid (HS2.out.alloc (.cells #[.slice A2 a.length c2, .int .i64 0, .bool false] 33))
  clear hi3
  by_cases hok : s1.2 = false ∧ s1.1.length = 0 ∧ a.length ≠ 0
  · have HOK := Lib.hid hok
    obtain ⟨hok1, hok2, hok3⟩ := hok
    rw [hok1] at hoff
    have hz0 : s1.1 = [] := List.eq_nil_of_length_eq_zero hok2
    have hz1 : ¬ 0 < s1.1.length := by omega
    have hz2 : ((a.length : Int) == 0) = false := by simpa using hok3
    clear hok1 hok2
    go_wp2_with (first
      | (go_at_call 34; with_reducible refine (leftR_any _ _ _ _ HR3.out).mono ?_; rintro e w4 ⟨rfl, hs4⟩; have HS4 := Lib.hid (HS3.out.trans hs4); have HI4 := Lib.hid (HI3.out.stp0 hs4); have hw4 := hs4.size; clear hs4)
      | (go_at_call 34; with_reducible refine (leftR_any _ _ _ _ HI4.out).mono ?_; rintro e w5 ⟨rfl, hs5⟩; have HS5 := Lib.hid (HS4.out.trans hs5); have HI5 := Lib.hid (HI4.out.stp0 hs5); have hw5 := hs5.size; clear hs5))
    have hw25 : w2.heap.size + 1 ≤ w5.heap.size := by simp at hw4; omega
    clear hoff hz0 hz1 HR3 HI4 HI3 HR2 HR1
    go_loopg [6] a.length (fun n o wr => ∃ xs s, many oneS a.length (a, false) = (xs ++ (many oneS n s).1, (many oneS n s).2) ∧ s.1.length ≤ n ∧ xs.length + n ≤ a.length ∧ Own Value.string 9 w5.heap.size wr o xs ∧ hasE xs = false ∧ s.2 = false ∧ IsRf (fun k => w2.heap.size + 1 ≤ k) wr w2.heap.size s ∧ Stp (fun _ => False) w wr ∧ w5.heap.size ≤ wr.heap.size)
    case atStart => exact ⟨[], (a, false), by simp, Nat.le_refl _, by simp, Own.nil _ _ _ _, rfl, rfl, HI5.out, HS5.out, Nat.le_refl _⟩
    case round =>
      obtain ⟨xs, s, hm, hsl, hxl, ho, hne, hsb, hi, hs, hwr⟩ := hrel
      have HNE := Lib.hid hne
      have HM := Lib.hid hm
      have HI := Lib.hid hi
      have HS := Lib.hid hs
      have HO := Lib.hid ho
      have hws := HS5.out.size
      clear hm hi hs hne ho
      by_cases h0 : s.1.length = 0
      · have hng := protS_good d a s1 xs HV.out HOK.out (by rw [HM.out, many_nil _ _ _ h0]; simp) (by rw [HM.out, many_nil _ _ _ h0]; exact hsb) HNE.out
        have HNG := Lib.hid hng
        clear hng
        have hz0 : s.1 = [] := List.eq_nil_of_length_eq_zero h0
        have hz1 : ¬ 0 < s.1.length := by omega
        obtain ⟨A6, c6, rfl, hle6⟩ := HO.out.form
        go_wp2_with (go_at_call 34; refine (leftR_any _ _ _ _ HI.out).mono ?_; rintro e w6 ⟨rfl, hs6⟩; have HS6 := Lib.hid (HS.out.trans hs6); have HO6 := Lib.hid (HO.out.stp0 hs6); clear hs6)
        go_ret2
        refine ⟨_, by rw [HNG.out]; rfl, ?_, HS6.out⟩
        rw [HNG.out]
        exact HO6.out.rd (h1 := fun _ => rfl) (fun k hk h => by have := (HO6.out.lt k hk).1; omega)
      · obtain ⟨m, rfl⟩ : ∃ m, gk = m + 1 := ⟨gk - 1, by omega⟩
        have HMC := Lib.hid (many_cons oneS m s h0)
        have hpos : 0 < s.1.length := by omega
        have hz0 : ¬ s.1 = [] := fun h => h0 (by rw [h]; rfl)
        have HLT := Lib.hid (oneS_lt s h0)
        go_wp2_with (first
          | (go_at_call 34; with_reducible refine (leftR_any _ _ _ _ HI.out).mono ?_; rintro e w6 ⟨rfl, hs6⟩; have HS6 := Lib.hid (HS.out.trans hs6); have HI6 := Lib.hid (HI.out.stp0 hs6); have HO6 := Lib.hid (HO.out.stp0 hs6); have hw6 := hs6.size; clear hs6)
          | (go_at_call 32; refine stopc ?_))
        refine Stop.go ?_
        refine (rvecR_any _ _ _ _ _ HI6.out).mono ?_
        rintro e w8 ⟨v8, rfl, ho8, hi8, hs8⟩
        obtain ⟨A8, c8, rfl, hle8⟩ := ho8.form
        have hcv := conv_own ho8
        have hoff := hi8.off
        have HI8 := Lib.hid hi8
        have HO8 := Lib.hid (HO6.out.step hs8 (fun k hk he => by have := (HO6.out.lt k hk).1; omega))
        have HS8 := Lib.hid (HS6.out.new hs8 (by omega))
        have hw8 := hs8.size
        clear ho8 hi8 hs8
        by_cases hb : (rvec s 1).2.2 = true
        · rw [hb] at hoff
          have hng := protS_off d a s1 HV.out (by rw [HM.out, HMC.out]; exact many_bad _ _ _ hb (rvec_bad _ _ hb))
          have HNG := Lib.hid hng
          clear hng
          go_wp2
          go_ret2
          exact ⟨_, by rw [HNG.out]; rfl, by rw [HNG.out]; exact Rd.nil _ _ _, HS8.out⟩
        · have hb' : (rvec s 1).2.2 = false := by simpa using hb
          rw [hb'] at hoff
          by_cases hz : (rvec s 1).1.length = 0
          · have hzb : (((rvec s 1).1.length : Int) == 0) = true := by simpa using hz
            have hng := protS_emp d a s1 HV.out (by
              rw [HM.out, HMC.out]
              simp only [hasE_app, hasE_cons]
              have : (oneS s).1.size = 0 := hz
              simp [this])
            have HNG := Lib.hid hng
            clear hng hz
            go_wp2
            go_ret2
            exact ⟨_, by rw [HNG.out]; rfl, by rw [HNG.out]; exact Rd.nil _ _ _, HS8.out⟩
          · have hzb : (((rvec s 1).1.length : Int) == 0) = false := by simpa using hz
            go_wp2_with (with_reducible refine stop (N := 47) rfl ?_)
            refine Stop.go ?_
            have hOX := HO8.out.stp0 ((Stp.refl _ _).alloc (Obj.cells #[Value.string (strB (rvec s 1).1)] 9))
            refine wp_append1 Value.string (strB (rvec s 1).1) rfl rfl _ _ _ rfl Try.underlying41 info_string rfl hOX rfl ⟨w8.heap.size, 0, none⟩ 1 rfl ?_ (by omega) (by omega) (by simp; omega) ?_
            · rw [World.cell?_alloc_new]
              rfl
            · intro v9 w9 ho9 hg9
              have HS9 := Lib.hid ((HS8.out.alloc _).grown hg9 (fun k hk he => by have := (HO.out.lt k hk).1; omega))
              have HO9 := Lib.hid ho9
              have HI9 := Lib.hid ((HI8.out.stp0 ((Stp.refl _ _).alloc _)).step (Stp.of_grown hg9) (fun k hk he => by
                have := (HO.out.lt k he).1
                omega))
              have hw9 := hg9.size
              clear ho9 hg9
              go_wp2
              go_roundg m
              case measure => omega
              case rel =>
                refine ⟨xs ++ [(oneS s).1], (oneS s).2, ?_, ?_, ?_, HO9.out, ?_, hb', HI9.out, HS9.out, by simp at hw9; omega⟩
                · rw [HM.out, HMC.out]
                  simp
                · have := HLT.out
                  omega
                · rw [List.length_append]
                  simp
                  omega
                · rw [hasE_app, HNE.out, hasE_cons]
                  have : ¬ (oneS s).1.size = 0 := hz
                  simp [this, hasE]
  · have hn := protS_bad d a s1 HV.out hok
    have HN := Lib.hid hn
    clear hn
    by_cases hb : s1.2 = true
    · rw [hb] at hoff
      go_wp2
      go_ret2
      exact ⟨_, by rw [HN.out]; rfl, by rw [HN.out]; exact Rd.nil _ _ _, HS3.out⟩
    · have hb' : s1.2 = false := by simpa using hb
      rw [hb'] at hoff
      by_cases hl1 : s1.1.length = 0
      · have hz0 : s1.1 = [] := List.eq_nil_of_length_eq_zero hl1
        have hz1 : ¬ 0 < s1.1.length := by omega
        have hz2 : ((a.length : Int) == 0) = true := by
          have ha0 : a.length = 0 := Decidable.byContradiction fun h => hok ⟨hb', hl1, h⟩
          simpa using ha0
        go_wp2_with (first
          | (go_at_call 34; with_reducible refine (leftR_any _ _ _ _ HR3.out).mono ?_; rintro e w4 ⟨rfl, hs4⟩; have HS4 := Lib.hid (HS3.out.trans hs4); have HI4 := Lib.hid (HI3.out.stp0 hs4); clear hs4)
          | (go_at_call 34; with_reducible refine (leftR_any _ _ _ _ HI4.out).mono ?_; rintro e w5 ⟨rfl, hs5⟩; have HS5 := Lib.hid (HS4.out.trans hs5); clear hs5))
        go_ret2
        exact ⟨_, by rw [HN.out]; rfl, by rw [HN.out]; exact Rd.nil _ _ _, HS5.out⟩
      · have hz0 : ¬ s1.1 = [] := fun h => hl1 (by rw [h]; rfl)
        have hz1 : 0 < s1.1.length := by omega
        go_wp2_with (go_at_call 34; with_reducible refine (leftR_any _ _ _ _ HR3.out).mono ?_; rintro e w4 ⟨rfl, hs4⟩; have HS4 := Lib.hid (HS3.out.trans hs4); clear hs4)
        go_ret2
        exact ⟨_, by rw [HN.out]; rfl, by rw [HN.out]; exact Rd.nil _ _ _, HS4.out⟩
end Go.Proofs.Ytdmcmfjhlpnaeaa.L
