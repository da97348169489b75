/- hello: the extensions of bytes, and the document's own. -/
import Derived.Test.YtdmcmfjhlpnaeaaHw
set_option linter.unusedVariables false
set_option linter.unusedSimpArgs false
namespace Go.Proofs.Ytdmcmfjhlpnaeaa.L
open Go.RowKit Go.Proofs

/-- One extension. -/
def oneX (s : RSt) : (Int × List UInt8) × RSt := (((rnum s 2).1, (rvec (rnum s 2).2 2).1), (rvec (rnum s 2).2 2).2)
theorem oneX_lt (s : RSt) (hs : s.1.length ≠ 0) : (oneX s).2.1.length < s.1.length := Nat.lt_of_le_of_lt (rvec_len _ _) (rnum_lt s 2 hs)
def extS (d : List UInt8) : List (Int × List UInt8) × Bool := ((many oneX d.length (d, false)).1, !(many oneX d.length (d, false)).2.2)

set_option maxRecDepth 10000 in
set_option maxHeartbeats 4000000 in
theorem extsH_any (M : Nat → Prop) (v0 : Value) (d : List UInt8) (w : World) (hd : Rd u8 M w v0 d) (hl : d.length ≤ 1000000000) :
    Calls Try.prog 74 #[v0] w fun e w' => ∃ v, e = .returned (.tuple #[v, .bool (extS d).2]) ∧ Rd extK (fun k => k < w.heap.size) w' v (extS d).1 ∧ Stp (fun _ => False) w w' := by
  have HD := Lib.hid hd
  clear hd
  go_enter Try.func74, Try.ntmps74
  go_wp2_with (go_at_call 26; refine stopc ?_)
  refine Stop.go ?_
  refine (read_any M _ d _ HD.out (by omega)).mono ?_
  rintro e w3 ⟨gi, rfl, hi3, hs3⟩
  obtain ⟨Mi, hMi⟩ : ∃ M : Nat → Prop, M = fun k => k < w.heap.size ∨ w3.heap.size ≤ k := ⟨_, rfl⟩
  have HMI := Lib.hid hMi
  have HGI := Lib.hid (And.intro (Nat.not_lt.1 hi3.1) hi3.lt)
  have HI3 := Lib.hid (hi3.weak (M' := Mi) (by
    rw [hMi]
    intro k hk h
    omega))
  have HS3 := Lib.hid hs3
  have HX3 := Lib.hid hs3.size
  clear hMi hi3 hs3
  go_wp2
  go_loopg [4, 6] d.length (fun n o _ wr => ∃ xs s D, many oneX d.length (d, false) = (xs ++ (many oneX n s).1, (many oneX n s).2) ∧ s.1.length ≤ n ∧ xs.length + n ≤ d.length ∧ OwnK extK 70 w3.heap.size D wr o xs ∧ IsRd Mi wr gi s ∧ Stp (fun _ => False) w wr ∧ w3.heap.size ≤ wr.heap.size)
  case atStart => exact ⟨[], (d, false), fun _ => False, by simp, Nat.le_refl _, by simp, OwnK.nil _ _ _ _, HI3.out, HS3.out, Nat.le_refl _⟩
  case round =>
    obtain ⟨xs, s, D, hm, hsl, hxl, ho, hi, hs, hswr⟩ := hrel
    have HM := Lib.hid hm
    have HO := Lib.hid ho
    have HI := Lib.hid hi
    have HS := Lib.hid hs
    clear hm ho hi hs
    by_cases h0 : s.1.length = 0
    · have HW := Lib.hid (show extS d = (xs, !s.2) by unfold extS; rw [HM.out, many_nil _ _ _ h0]; simp)
      obtain ⟨A8, c8, rfl, hle8⟩ := HO.out.form
      go_wp2_with (first
        | (go_at_call 35; refine (bad_any Mi gi _ _ HI.out).mono ?_; rintro e w' ⟨rfl, rfl⟩)
        | (go_at_call 33; refine (left_any Mi gi _ _ HI.out (by omega)).mono ?_; rintro e w' ⟨rfl, rfl⟩))
      go_ret2
      refine ⟨_, by rw [HW.out]; rfl, ?_, HS.out⟩
      rw [HW.out]
      have hh := HX3.out
      exact HO.out.rd (fun k hk h hd => by have := (HO.out.lo k hd).1; omega) (fun k hk h => by have := (HO.out.lt k hk).1; omega)
    · obtain ⟨m, rfl⟩ : ∃ m, gk = m + 1 := ⟨gk - 1, by omega⟩
      have HMC := Lib.hid (many_cons oneX m s h0)
      have hpos : 0 < s.1.length := by omega
      have HLT := Lib.hid (oneX_lt s h0)
      have HL1 := Lib.hid (rnum_len s 2)
      go_wp2_with (first
        | (go_at_call 33; refine (left_any Mi gi _ _ HI.out (by omega)).mono ?_; rintro e w' ⟨rfl, rfl⟩)
        | (go_at_call 27; refine stopc ?_))
      refine Stop.go ?_
      refine (num_any Mi gi s _ _ HI.out (by omega)).mono ?_
      rintro e w4 ⟨rfl, hi4, hs4⟩
      have hh := HX3.out
      have hgi := HGI.out
      have hgi4 := hs4.size
      have HO4 := Lib.hid (HO.out.step hs4 (fun k hk he => ⟨fun hd => by have := (HO.out.lo k hd).1; omega, fun hv => by have := (HO.out.lt k hv).1; omega⟩))
      have HS4 := Lib.hid (HS.out.new hs4 (by omega))
      have HI4 := Lib.hid hi4
      clear hi4
      clear hs4
      go_wp2_with (go_at_call 31; refine stopc ?_)
      refine Stop.go ?_
      refine (rvec_any Mi gi _ _ _ HI4.out (by have := HL1.out; omega)).mono ?_
      rintro e w5 ⟨v5, rfl, ho5, hi5, hs5⟩
      obtain ⟨A5, c5, rfl, hle5⟩ := ho5.form
      have HO5 := Lib.hid ho5
      have HI5 := Lib.hid hi5
      have HS5 := Lib.hid hs5
      clear ho5 hi5 hs5
      go_wp2_with (with_reducible refine stop (N := 20) rfl ?_)
      refine Stop.go ?_
      have hh5 := HS5.out.size
      have hlo5 := HO5.out.lt
      have hOX := (HO4.out.step HS5.out (fun k hk he => ⟨fun hd => by have := (HO4.out.lo k hd).1; omega, fun hv => by have := (HO4.out.lt k hv).1; omega⟩))
      have hsw : w.heap.size ≤ w3.heap.size := HX3.out
      refine wp_append1K (D' := fun k => D k ∨ (Value.slice A5 (oneX s).1.2.length c5).ownBlock = some k) (oneX s).1 rfl _ _ _ rfl Try.underlying60 info_ext rfl (by decide) (hOX.stp0 ((Stp.refl _ _).alloc _)) rfl ⟨w5.heap.size, 0, none⟩ 1 [.int .i64 (oneX s).1.1, .slice A5 (oneX s).1.2.length c5] rfl (fun j u hu => alloc_at _ _ _ _ _ _ hu) ?_ (fun k h => .inl h) ?_ ?_ ?_ ?_ ?_
      · exact ⟨[_], [_], rfl, rfl, _, rfl, (HO5.out.rd (h1 := fun _ => rfl) (fun k hk hn => hn (.inr hk))).stp0 ((Stp.refl _ _).alloc _)⟩
      · intro k hk
        have hsz : ∀ o, (w5.alloc o).heap.size = w5.heap.size + 1 := by simp
        rw [hsz]
        rcases hk with hk | hk
        · have h1 := hOX.lo k hk
          exact ⟨h1.1, by omega, fun h => hOX.apart k h hk⟩
        · have h1 := hlo5 k hk
          refine ⟨by omega, by omega, fun h => ?_⟩
          have := (HO4.out.lt k h).2
          omega
      · omega
      · omega
      · simp
        omega
      · intro v6 w6 ho6 hg6
        have HS6 := Lib.hid ((((HS4.out.new HS5.out (by omega)).alloc _).ownK (hOX.stp0 ((Stp.refl _ _).alloc _)) hsw hg6))
        have HO6 := Lib.hid ho6
        have HI6 := Lib.hid ((HI5.out.stp0 ((Stp.refl _ _).alloc _)).step (Stp.of_grown hg6) (fun k hk he => by
          rw [HMI.out]
          have := (HO4.out.lt k he).1
          exact .inr (by omega)))
        have hw6 := hg6.size
        clear ho6 hg6
        go_wp2
        go_roundg m
        case measure => omega
        case rel =>
          refine ⟨xs ++ [(oneX s).1], (oneX s).2, _, ?_, ?_, ?_, HO6.out, HI6.out, HS6.out, by simp at hw6; omega⟩
          · rw [HM.out, HMC.out]
            simp
          · have := HLT.out
            omega
          · rw [List.length_append]
            simp
            omega

def ExtRet (w : World) (d : List UInt8) (e : Ending) (w' : World) : Prop :=
  ∃ v, e = .returned (.tuple #[v, .bool (extS d).2]) ∧ Rd extK (fun k => k < w.heap.size) w' v (if (extS d).2 = true then (extS d).1 else []) ∧ Stp (fun _ => False) w w'

set_option maxRecDepth 10000 in
set_option maxHeartbeats 4000000 in
theorem extR_any (M : Nat → Prop) (v0 : Value) (d : List UInt8) (w : World) (hd : Rd u8 M w v0 d) (hl : d.length ≤ 1000000000) :
    Calls Try.prog 86 #[v0] w (ExtRet w d) := by
  obtain ⟨A0, c0, rfl, hle0⟩ := hd.form
  have HD := Lib.hid hd
  clear hd
  go_enter Try.func86, Try.ntmps86
  have hr1 := newRf (M := fun k => w.heap.size + 1 ≤ k) (W := w) HD.out (by omega) (by omega) (fun k hk h => absurd h (by omega))
  have hsz1 : w.heap.size + 1 = (w.alloc (.cells #[.slice A0 d.length c0, .int .i64 0, .bool false] 33)).heap.size := by simp
  obtain ⟨w1, hw1⟩ : ∃ w1, w1 = w.alloc (.cells #[.slice A0 d.length c0, .int .i64 0, .bool false] 33) := ⟨_, rfl⟩
  have HS1 := Lib.hid (show Stp (fun _ => False) w w1 by rw [hw1]; exact (Stp.refl _ _).alloc _)
  rw [← hw1] at hr1 hsz1
  have HR1 := Lib.hid hr1
  clear hr1
  go_wp2
  rw [← hw1]
  clear hw1
  go_loopg [5, 6, 7] d.length (fun n o _ _ wr => ∃ xs s D, many oneX d.length (d, false) = (xs ++ (many oneX n s).1, (many oneX n s).2) ∧ s.2 = false ∧ s.1.length ≤ n ∧ xs.length + n ≤ d.length ∧ OwnK extK 70 (w.heap.size + 1) D wr o xs ∧ IsRf (fun k => w.heap.size + 1 ≤ k) wr w.heap.size s ∧ Stp (fun _ => False) w wr ∧ w1.heap.size ≤ wr.heap.size)
  case atStart => exact ⟨[], (d, false), fun _ => False, by simp, rfl, Nat.le_refl _, by simp, OwnK.nil _ _ _ _, HR1.out, HS1.out, Nat.le_refl _⟩
  case round =>
    obtain ⟨xs, s, D, hm, hsb, hsl, hxl, ho, hi, hs, hswr⟩ := hrel
    have HSB := Lib.hid hsb
    clear hsb
    have HM := Lib.hid hm
    have HO := Lib.hid ho
    have HI := Lib.hid hi
    have HS := Lib.hid hs
    clear hm ho hi hs
    by_cases h0 : s.1.length = 0
    · have HW := Lib.hid (show extS d = (xs, true) by unfold extS; rw [HM.out, many_nil _ _ _ h0, HSB.out]; simp)
      obtain ⟨A8, c8, rfl, hle8⟩ := HO.out.form
      have hz1 : ¬ 0 < s.1.length := by omega
      have hz0 : s.1 = [] := List.eq_nil_of_length_eq_zero h0
      go_wp2_with (go_at_call 34; with_reducible refine (leftR_any _ _ _ _ HI.out).mono ?_; rintro e w4 ⟨rfl, hs4⟩; have HS6 := Lib.hid (HS.out.trans hs4); have HO6 := Lib.hid (HO.out.stp0 hs4); clear hs4)
      go_ret2
      refine ⟨_, by rw [HW.out]; rfl, ?_, HS6.out⟩
      rw [HW.out, if_pos rfl]
      exact HO6.out.rd (fun k hk h hd => by have := (HO6.out.lo k hd).1; omega) (fun k hk h => by have := (HO6.out.lt k hk).1; omega)
    · obtain ⟨m, rfl⟩ : ∃ m, gk = m + 1 := ⟨gk - 1, by omega⟩
      have HMC := Lib.hid (many_cons oneX m s h0)
      have hpos : 0 < s.1.length := by omega
      have hz0 : ¬ s.1 = [] := fun h => h0 (by rw [h]; rfl)
      have HLT := Lib.hid (oneX_lt s h0)
      have hdl : (rvec (rnum s 2).2 2).1.length ≤ s.1.length := Nat.le_trans (rvec_len1 _ _) (rnum_len s 2)
      go_wp2_with (first
        | (go_at_call 34; with_reducible refine (leftR_any _ _ _ _ HI.out).mono ?_; rintro e w5 ⟨rfl, hs5⟩; have HS6 := Lib.hid (HS.out.trans hs5); have HI6 := Lib.hid (HI.out.stp0 hs5); have HO6 := Lib.hid (HO.out.stp0 hs5); have HZ6 := Lib.hid hs5.size; clear hs5)
        | (go_at_call 28; refine stopc ?_))
      refine Stop.go ?_
      refine (numR_any _ _ s _ _ HI6.out).mono ?_
      rintro e w7 ⟨rfl, hi7, hs7⟩
      have hz6 := HZ6.out
      have hz7 := hs7.size
      have HO7 := Lib.hid (HO6.out.step hs7 (fun k hk he => ⟨fun hd => by have := (HO6.out.lo k hd).1; omega, fun hv => by have := (HO6.out.lt k hv).1; omega⟩))
      have HS7 := Lib.hid (HS6.out.new hs7 (by omega))
      have HI7 := Lib.hid hi7
      clear hi7
      clear hs7
      go_wp2_with (go_at_call 32; refine stopc ?_)
      refine Stop.go ?_
      refine (rvecR_any _ _ _ _ _ HI7.out).mono ?_
      rintro e w5 ⟨v5, rfl, ho5, hi5, hs5⟩
      obtain ⟨A5, c5, rfl, hle5⟩ := ho5.form
      have hoff := hi5.off
      have HO5 := Lib.hid ho5
      have HI5 := Lib.hid hi5
      have HS5 := Lib.hid hs5
      clear ho5 hi5 hs5
      by_cases hb : (rvec (rnum s 2).2 2).2.2 = true
      · rw [hb] at hoff
        have HW := Lib.hid (show (extS d).2 = false by unfold extS; rw [HM.out, HMC.out]; show (!(many oneX m (oneX s).2).2.2) = false; rw [many_bad oneX m (oneX s).2 hb (rvec_bad _ _ hb)]; rfl)
        go_wp2
        go_ret2
        refine ⟨_, by rw [HW.out]; rfl, ?_, HS7.out.new HS5.out (Nat.le_refl _)⟩
        rw [HW.out]
        exact Rd.nil _ _ _
      · have hb' : (rvec (rnum s 2).2 2).2.2 = false := by simpa using hb
        rw [hb'] at hoff
        have HB' := Lib.hid hb'
        clear hb hb'
        go_wp2_with (with_reducible refine stop (N := 27) rfl ?_)
        refine Stop.go ?_
        have hh5 := HS5.out.size
        have hlo5 := HO5.out.lt
        have hOX := (HO7.out.step HS5.out (fun k hk he => ⟨fun hd => by have := (HO7.out.lo k hd).1; omega, fun hv => by have := (HO7.out.lt k hv).1; omega⟩))
        refine wp_append1K (D' := fun k => D k ∨ (Value.slice A5 (oneX s).1.2.length c5).ownBlock = some k) (oneX s).1 rfl _ _ _ rfl Try.underlying60 info_ext rfl (by decide) (hOX.stp0 ((Stp.refl _ _).alloc _)) rfl ⟨w5.heap.size, 0, none⟩ 1 [.int .i64 (oneX s).1.1, .slice A5 (oneX s).1.2.length c5] rfl (fun j u hu => alloc_at _ _ _ _ _ _ hu) ?_ (fun k h => .inl h) ?_ ?_ ?_ ?_ ?_
        · exact ⟨[_], [_], rfl, rfl, _, rfl, (HO5.out.rd (h1 := fun _ => rfl) (fun k hk hn => hn (.inr hk))).stp0 ((Stp.refl _ _).alloc _)⟩
        · intro k hk
          have hsz : ∀ o, (w5.alloc o).heap.size = w5.heap.size + 1 := by simp
          rw [hsz]
          rcases hk with hk | hk
          · have h1 := hOX.lo k hk
            exact ⟨h1.1, by omega, fun h => hOX.apart k h hk⟩
          · have h1 := hlo5 k hk
            refine ⟨by omega, by omega, fun h => ?_⟩
            have := (HO7.out.lt k h).2
            omega
        · omega
        · omega
        · simp
          omega
        · intro v6 w6 ho6 hg6
          have HS8 := Lib.hid ((((HS7.out.new HS5.out (Nat.le_refl _)).alloc _).ownK (hOX.stp0 ((Stp.refl _ _).alloc _)) (by omega) hg6))
          have HO8 := Lib.hid ho6
          have HI8 := Lib.hid ((HI5.out.stp0 ((Stp.refl _ _).alloc _)).step (Stp.of_grown hg6) (fun k hk he => (HO7.out.lt k he).1))
          have hw6 := hg6.size
          clear ho6 hg6
          go_wp2
          go_roundg m
          case measure => omega
          case rel =>
            refine ⟨xs ++ [(oneX s).1], (oneX s).2, _, ?_, HB'.out, ?_, ?_, HO8.out, HI8.out, HS8.out, by simp at hw6; omega⟩
            · rw [HM.out, HMC.out]
              simp
            · have := HLT.out
              omega
            · rw [List.length_append]
              simp
              omega
end Go.Proofs.Ytdmcmfjhlpnaeaa.L
