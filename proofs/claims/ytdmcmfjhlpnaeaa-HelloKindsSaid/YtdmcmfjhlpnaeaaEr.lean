/- The document's own Name. -/
import Derived.Test.YtdmcmfjhlpnaeaaEv
set_option linter.unusedVariables false
set_option linter.unusedSimpArgs false
namespace Go.Proofs.Ytdmcmfjhlpnaeaa.L
open Go.RowKit Go.Proofs

theorem rvec_bad (s : RSt) (n : Int) (h : (rvec s n).2.2 = true) : (rvec s n).2.1 = [] := by
  unfold rvec at h ⊢
  split
  · rename_i hb
    exact rtake_bad' _ _ hb
  · rename_i hb
    rw [if_neg hb] at h
    exact rtake_bad' _ _ h
theorem many_bad {α : Type} (one : RSt → α × RSt) (n : Nat) (s : RSt) (h : s.2 = true) (h0 : s.1 = []) : (many one n s).2.2 = true := by
  rw [many_nil _ _ _ (by rw [h0]; rfl)]
  exact h

/-- A reader of the document's, just made. -/
theorem newRf {M M' : Nat → Prop} {W : World} {A : Option Addr} {c : Nat} {l : List UInt8} (h : Rd u8 M' W (.slice A l.length c) l) (hl : l.length ≤ 140737488355328) (hM : ¬ M W.heap.size) (hMM : ∀ k, k < W.heap.size → M k → M' k) :
    IsRf M (W.alloc (.cells #[.slice A l.length c, .int .i64 0, .bool false] 33)) W.heap.size (l, false) :=
  ⟨hM, A, c, 0, l, hl, Nat.zero_le _, heap_alloc_new W _, (h.weak (by decide) (fun k hk h => h.elim (fun h => absurd h (by omega)) (hMM k hk))).stp0 ((Stp.refl _ _).alloc _), rfl⟩

def lastS (ns : List ByteArray) : ByteArray := ns.getLast?.getD ⟨#[]⟩
theorem IsRf.stp0 {M : Nat → Prop} {W W1 : World} {g : Nat} {s : RSt} (h : IsRf M W g s) (hs : Stp (fun _ => False) W W1) : IsRf M W1 g s := h.step hs (fun _ _ h => h.elim)
theorem lastS_snoc (ns : List ByteArray) (x : ByteArray) : lastS (ns ++ [x]) = x := by simp [lastS]

theorem nameS_bad (d a : List UInt8) (s1 : RSt) (hv : rvec (d, false) 2 = (a, s1)) (h : ¬ (s1.2 = false ∧ s1.1.length = 0 ∧ a.length ≠ 0)) : nameS d = (⟨#[]⟩, 3) := by
  unfold nameS walkS
  rw [hv, if_neg h]
  rfl
theorem nameS_off (d a : List UInt8) (s1 : RSt) (hv : rvec (d, false) 2 = (a, s1)) (h : (many oneE a.length (a, false)).2.2 = true) : nameS d = (⟨#[]⟩, 3) := by
  unfold nameS walkS
  rw [hv]
  by_cases hc : s1.2 = false ∧ s1.1.length = 0 ∧ a.length ≠ 0
  · rw [if_pos hc]
    simp [h]
  · rw [if_neg hc]
    rfl
theorem nameS_good (d a : List UInt8) (s1 : RSt) (xs : List (Int × List UInt8)) (hv : rvec (d, false) 2 = (a, s1)) (h : s1.2 = false ∧ s1.1.length = 0 ∧ a.length ≠ 0) (hm : (many oneE a.length (a, false)).1 = xs) (hb : (many oneE a.length (a, false)).2.2 = false) :
    nameS d = pickS (namesS xs) := by
  unfold nameS walkS
  rw [hv, if_pos h]
  simp [hb, hm]

set_option maxRecDepth 10000 in
set_option maxHeartbeats 4000000 in
theorem nameR_any (M : Nat → Prop) (v0 : Value) (d : List UInt8) (w : World) (hd : Rd u8 M w v0 d) (hl : d.length ≤ 1000000000) :
    Calls Try.prog 39 #[v0] w fun e w' => e = .returned (.tuple #[.string (nameS d).1, .int .i64 (nameS d).2]) ∧ Stp (fun _ => False) w w' := by
  obtain ⟨A0, c0, rfl, hle0⟩ := hd.form
  obtain ⟨a, s1, hv⟩ : ∃ a s1, rvec (d, false) 2 = (a, s1) := ⟨_, _, rfl⟩
  have hal : a.length ≤ d.length := by have := rvec_len1 (d, false) 2; rw [hv] at this; exact this
  have hs1l : s1.1.length ≤ d.length := by have := rvec_len (d, false) 2; rw [hv] at this; exact this
  have HV := Lib.hid hv
  have HD := Lib.hid hd
  clear hv hd
  go_enter Try.func39, Try.ntmps39
  go_wp2_with (go_at_call 32; refine stopc ?_)
  refine Stop.go ?_
  have hr1 := newRf (M := fun k => w.heap.size ≤ k ∧ k ≠ w.heap.size) HD.out (by omega) (by simp) (fun k hk h => absurd h.1 (by omega))
  have HR1 := Lib.hid hr1
  clear hr1
  refine (rvecR_any _ _ _ _ _ HR1.out).mono ?_
  rw [HV.out]
  rintro e w2 ⟨v2, rfl, ho2, hi2, hs2⟩
  dsimp only at ho2 hi2
  obtain ⟨A2, c2, rfl, hle2⟩ := ho2.form
  have HR2 := Lib.hid hi2
  have HO2 := Lib.hid ho2
  have HS2 := Lib.hid (((Stp.refl (fun _ => False) w).alloc _).new hs2 (Nat.le_refl _))
  have hw2 : w.heap.size < w2.heap.size := hi2.lt
  clear hi2 ho2 hs2
  have hi3 := newRf (M := fun k => w2.heap.size + 1 ≤ k) (HO2.out.rd (h1 := fun _ => rfl) (M := fun _ => False) (fun _ _ => id)) (by omega) (by omega) (fun k hk h => absurd h (by omega))
  have HI3 := Lib.hid hi3
  have HR3 := Lib.hid (HR2.out.step ((Stp.refl (fun _ => False) _).alloc (.cells #[.slice A2 a.length c2, .int .i64 0, .bool false] 33)) (fun _ _ h => h.elim))
  have hoff := HR3.out.off
  have HS3 := Lib.hid (HS2.out.alloc (.cells #[.slice A2 a.length c2, .int .i64 0, .bool false] 33))
  clear hi3
  by_cases hok : s1.2 = false ∧ s1.1.length = 0 ∧ a.length ≠ 0
  · have HOK := Lib.hid hok
    obtain ⟨hok1, hok2, hok3⟩ := hok
    rw [hok1] at hoff
    have hz0 : s1.1 = [] := List.eq_nil_of_length_eq_zero hok2
    have hz1 : ¬ 0 < s1.1.length := by omega
    have hz2 : ((a.length : Int) == 0) = false := by simpa using hok3
    clear hok1 hok2
    go_wp2_with (first
      | (go_at_call 34; with_reducible refine (leftR_any _ _ _ _ HR3.out).mono ?_; rintro e w4 ⟨rfl, hs4⟩; have HS4 := Lib.hid (HS3.out.trans hs4); have HI4 := Lib.hid (HI3.out.stp0 hs4); clear hs4)
      | (go_at_call 34; with_reducible refine (leftR_any _ _ _ _ HI4.out).mono ?_; rintro e w5 ⟨rfl, hs5⟩; have HS5 := Lib.hid (HS4.out.trans hs5); have HI5 := Lib.hid (HI4.out.stp0 hs5); clear hs5))
    clear hoff hz0 hz1 HR3 HI4 HI3 HR2 HR1
    go_loopg [6, 7] a.length (fun n c o wr => ∃ xs s, many oneE a.length (a, false) = (xs ++ (many oneE n s).1, (many oneE n s).2) ∧ s.1.length ≤ n ∧ xs.length + n ≤ a.length ∧ c = .int .i64 ((namesS xs).length : Nat) ∧ o = .string (lastS (namesS xs)) ∧ (∀ y ∈ namesS xs, y.size ≤ 1000000000) ∧ s.2 = false ∧ IsRf (fun k => w2.heap.size + 1 ≤ k) wr w2.heap.size s ∧ Stp (fun _ => False) w wr)
    case atStart => exact ⟨[], (a, false), by simp, Nat.le_refl _, by simp, rfl, rfl, by simp [namesS], rfl, HI5.out, HS5.out⟩
    case round =>
      obtain ⟨xs, s, hm, hsl, hxl, rfl, rfl, hys, hsb, hi, hs⟩ := hrel
      have HY := Lib.hid hys
      clear hys
      have HM := Lib.hid hm
      have HI := Lib.hid hi
      have HS := Lib.hid hs
      clear hm hi hs
      have hnl := namesS_len xs
      by_cases h0 : s.1.length = 0
      · have hng := nameS_good d a s1 xs HV.out HOK.out (by rw [HM.out, many_nil _ _ _ h0]; simp) (by rw [HM.out, many_nil _ _ _ h0]; exact hsb)
        have HNG := Lib.hid hng
        clear hng
        have hz0 : s.1 = [] := List.eq_nil_of_length_eq_zero h0
        have hz1 : ¬ 0 < s.1.length := by omega
        obtain ⟨ns, hns⟩ : ∃ ns, ns = namesS xs := ⟨_, rfl⟩
        rw [← hns] at HNG hnl HY ⊢
        clear hns
        match ns, HNG, hnl, HY with
        | [], HNG, hnl, HY =>
          go_wp2_with (go_at_call 34; refine (leftR_any _ _ _ _ HI.out).mono ?_; rintro e w4 ⟨rfl, hs4⟩; have HS6 := Lib.hid (HS.out.trans hs4); clear hs4)
          go_ret2
          exact ⟨by rw [HNG.out]; rfl, HS6.out⟩
        | [x], HNG, hnl, HY =>
          have hxs := HY.out x (by simp)
          have hlx : lastS [x] = x := rfl
          rw [hlx]
          by_cases hm : mayB x.data.toList = true
          · have hm2 : x.size ≤ 255 ∧ visB x.data.toList = true := by
              unfold mayB at hm
              simpa using hm
            obtain ⟨hm3, hm4⟩ := hm2
            go_wp2_with (first
              | (go_at_call 34; refine (leftR_any _ _ _ _ HI.out).mono ?_; rintro e w4 ⟨rfl, hs4⟩; have HS6 := Lib.hid (HS.out.trans hs4); clear hs4)
              | (go_at_call 69; refine (visR_any _ _ (by omega)).mono ?_; rw [hm4]; rintro e w' ⟨rfl, rfl⟩))
            go_ret2
            exact ⟨by rw [HNG.out]; simp [pickS, hm], HS6.out⟩
          · have hm' : mayB x.data.toList = false := by simpa using hm
            by_cases hm3 : x.size ≤ 255
            · have hm4 : visB x.data.toList = false := by
                unfold mayB at hm'
                simpa [hm3] using hm'
              go_wp2_with (first
                | (go_at_call 34; refine (leftR_any _ _ _ _ HI.out).mono ?_; rintro e w4 ⟨rfl, hs4⟩; have HS6 := Lib.hid (HS.out.trans hs4); clear hs4)
                | (go_at_call 69; refine (visR_any _ _ (by omega)).mono ?_; rw [hm4]; rintro e w' ⟨rfl, rfl⟩))
              go_ret2
              exact ⟨by rw [HNG.out]; simp [pickS, hm'], HS6.out⟩
            · go_wp2_with (first
                | (go_at_call 34; refine (leftR_any _ _ _ _ HI.out).mono ?_; rintro e w4 ⟨rfl, hs4⟩; have HS6 := Lib.hid (HS.out.trans hs4); clear hs4)
                | (go_at_call 69; refine (visR_any _ _ (by omega)).mono ?_; rintro e w' ⟨rfl, rfl⟩))
              go_ret2
              exact ⟨by rw [HNG.out]; simp [pickS, hm'], HS6.out⟩
        | x :: y :: r, HNG, hnl, HY =>
          go_wp2_with (go_at_call 34; refine (leftR_any _ _ _ _ HI.out).mono ?_; rintro e w4 ⟨rfl, hs4⟩; have HS6 := Lib.hid (HS.out.trans hs4); clear hs4)
          go_ret2
          exact ⟨by rw [HNG.out]; rfl, HS6.out⟩
      · obtain ⟨m, rfl⟩ : ∃ m, gk = m + 1 := ⟨gk - 1, by omega⟩
        have HMC := Lib.hid (many_cons oneE m s h0)
        have hpos : 0 < s.1.length := by omega
        have hz0 : ¬ s.1 = [] := fun h => h0 (by rw [h]; rfl)
        have HLT := Lib.hid (oneE_lt s h0)
        have hdl : (rvec (rnum s 1).2 2).1.length ≤ s.1.length := Nat.le_trans (rvec_len1 _ _) (rnum_len s 1)
        go_wp2_with (first
          | (go_at_call 34; with_reducible refine (leftR_any _ _ _ _ HI.out).mono ?_; rintro e w5 ⟨rfl, hs5⟩; have HS6 := Lib.hid (HS.out.trans hs5); have HI6 := Lib.hid (HI.out.stp0 hs5); clear hs5)
          | (go_at_call 28; with_reducible refine (numR_any _ _ _ _ _ HI6.out).mono ?_; rintro e w7 ⟨rfl, hi7, hs7⟩; have HI7 := Lib.hid hi7; have HS7 := Lib.hid (HS6.out.new hs7 (by omega)); clear hi7 hs7)
          | (go_at_call 32; refine stopc ?_))
        refine Stop.go ?_
        refine (rvecR_any _ _ _ _ _ HI7.out).mono ?_
        rintro e w8 ⟨v8, rfl, ho8, hi8, hs8⟩
        obtain ⟨A8, c8, rfl, hle8⟩ := ho8.form
        have hcv := conv_own ho8
        have hoff := hi8.off
        have HI8 := Lib.hid hi8
        have HS8 := Lib.hid (HS7.out.new hs8 (by omega))
        clear ho8 hi8 hs8
        by_cases hb : (rvec (rnum s 1).2 2).2.2 = true
        · rw [hb] at hoff
          have hng := nameS_off d a s1 HV.out (by rw [HM.out, HMC.out]; exact many_bad _ _ _ hb (rvec_bad _ _ hb))
          have HNG := Lib.hid hng
          clear hng
          go_wp2
          go_ret2
          exact ⟨by rw [HNG.out]; rfl, HS8.out⟩
        · have hb' : (rvec (rnum s 1).2 2).2.2 = false := by simpa using hb
          rw [hb'] at hoff
          have hsn := namesS_snoc xs (oneE s).1
          by_cases hz : (rnum s 1).1 = 0
          · have hzb : ((rnum s 1).1 == 0) = true := by simpa using hz
            rw [if_pos (show (oneE s).1.1 = 0 from hz)] at hsn
            have HSN := Lib.hid hsn
            clear hsn
            go_wp2
            go_roundg m
            case measure => omega
            case rel =>
              refine ⟨xs ++ [(oneE s).1], (oneE s).2, ?_, ?_, ?_, ?_, ?_, ?_, hb', HI8.out, HS8.out⟩
              · rw [HM.out, HMC.out]
                simp
              · have := HLT.out
                omega
              · rw [List.length_append]
                simp
                omega
              · rw [HSN.out]
                simp
              · rw [HSN.out, lastS_snoc]
                rfl
              · rw [HSN.out]
                intro y hy
                rcases List.mem_append.1 hy with h | h
                · exact HY.out y h
                · rw [List.mem_singleton.1 h]
                  show (oneE s).1.2.length ≤ _
                  exact Nat.le_trans hdl (by omega)
          · have hzb : ((rnum s 1).1 == 0) = false := by simpa using hz
            rw [if_neg (show ¬ (oneE s).1.1 = 0 from hz)] at hsn
            have HSN := Lib.hid hsn
            clear hsn
            go_wp2
            go_roundg m
            case measure => omega
            case rel =>
              refine ⟨xs ++ [(oneE s).1], (oneE s).2, ?_, ?_, ?_, by rw [HSN.out], by rw [HSN.out], by rw [HSN.out]; exact HY.out, hb', HI8.out, HS8.out⟩
              · rw [HM.out, HMC.out]
                simp
              · have := HLT.out
                omega
              · rw [List.length_append]
                simp
                omega
  · have hn := nameS_bad d a s1 HV.out hok
    have HN := Lib.hid hn
    clear hn
    by_cases hb : s1.2 = true
    · rw [hb] at hoff
      go_wp2
      go_ret2
      exact ⟨by rw [HN.out]; rfl, HS3.out⟩
    · have hb' : s1.2 = false := by simpa using hb
      rw [hb'] at hoff
      by_cases hl1 : s1.1.length = 0
      · have hz0 : s1.1 = [] := List.eq_nil_of_length_eq_zero hl1
        have hz1 : ¬ 0 < s1.1.length := by omega
        have hz2 : ((a.length : Int) == 0) = true := by
          have ha0 : a.length = 0 := Decidable.byContradiction fun h => hok ⟨hb', hl1, h⟩
          simpa using ha0
        go_wp2_with (first
          | (go_at_call 34; with_reducible refine (leftR_any _ _ _ _ HR3.out).mono ?_; rintro e w4 ⟨rfl, hs4⟩; have HS4 := Lib.hid (HS3.out.trans hs4); have HI4 := Lib.hid (HI3.out.stp0 hs4); clear hs4)
          | (go_at_call 34; with_reducible refine (leftR_any _ _ _ _ HI4.out).mono ?_; rintro e w5 ⟨rfl, hs5⟩; have HS5 := Lib.hid (HS4.out.trans hs5); clear hs5))
        go_ret2
        exact ⟨by rw [HN.out]; rfl, HS5.out⟩
      · have hz0 : ¬ s1.1 = [] := fun h => hl1 (by rw [h]; rfl)
        have hz1 : 0 < s1.1.length := by omega
        go_wp2_with (go_at_call 34; with_reducible refine (leftR_any _ _ _ _ HR3.out).mono ?_; rintro e w4 ⟨rfl, hs4⟩; have HS4 := Lib.hid (HS3.out.trans hs4); clear hs4)
        go_ret2
        exact ⟨by rw [HN.out]; rfl, HS4.out⟩
end Go.Proofs.Ytdmcmfjhlpnaeaa.L
