/- What is printed is parsed as it was, and what is parsed is printed as it was. -/
import Derived.Test.YtdmcmfjhlpnaeaaPo
set_option linter.unusedVariables false
set_option linter.unusedSimpArgs false
namespace Go.Proofs.Ytdmcmfjhlpnaeaa.L
open Go.RowKit Go.Proofs

set_option maxRecDepth 100000 in
set_option maxHeartbeats 8000000 in
theorem helloBack_any (cs : Array Value) (h : Hl) (v1 : Value) (b : List UInt8) (w : World) (hh : IsHl (newB w) w cs h) (hft : HlFit h) (hd : Rd u8 (newB w) w v1 b) :
    Calls Try.prog 14 #[.agg cs, v1] w fun e w' => e = .returned (.bool true) ∧ Stp (fun _ => False) w w' := by
  have hcs := hh.size
  have hrn : h.rnd.length = 32 := by obtain ⟨_, _, _, _, _, h2, _⟩ := hh; exact h2
  obtain ⟨A1, c1, rfl, hle1⟩ := hd.form
  have HZ := Lib.hid hh.info
  obtain ⟨w0, hw0⟩ : ∃ w0, w0 = w.alloc (.cells cs 62) := ⟨_, rfl⟩
  have hs0 : Stp (fun _ => False) w w0 := by rw [hw0]; exact (Stp.refl _ _).alloc _
  have hc0 : w0.heap[w.heap.size]? = some (.cells cs 62 (0, 0)) := by rw [hw0]; exact heap_alloc_new w _
  have HH := Lib.hid ((hh.weak (M' := fun _ => False) (fun _ _ h => h.elim)).stp0 hs0)
  have HD := Lib.hid ((hd.weak (M' := fun _ => False) (by decide) (fun _ _ h => h.elim)).stp0 hs0)
  have HS := Lib.hid hs0
  have HC := Lib.hid hc0
  have HW0 := Lib.hid hw0
  have HRN := Lib.hid hrn
  clear hh hs0 hc0 hw0 hrn hd
  have HFT := Lib.hid hft
  clear hft
  obtain ⟨fb, hfb⟩ : ∃ fb, fb = fewB h := ⟨_, rfl⟩
  have HFB := Lib.hid hfb
  obtain ⟨lb, hlb⟩ : ∃ lb, lb = decide (5000 < (b.length : Int)) := ⟨_, rfl⟩
  have HLB := Lib.hid hlb
  have hlb' := hlb.symm
  clear hfb hlb
  go_enter Try.func14, Try.ntmps14
  go_upto_region 1 with fail
  rw [← HW0.out]
  generalize e0 : w.heap.size = g0 at *
  clear e0 HW0
  go_wp2_with (go_at_call 50; refine stopc ?_)
  refine Stop.go ?_
  refine (small9_any _).mono ?_
  rintro e w1 ⟨rfl, hs⟩
  have HH := Lib.hid (HH.out.stp0 hs)
  have HC := Lib.hid (hs.blk HC.out id)
  have HD := Lib.hid (HD.out.stp0 hs)
  have HS := Lib.hid (HS.out.trans hs)
  clear hs
  go_wp2_with (with_reducible refine stop (N := 16) rfl ?_)
  refine Stop.go ?_
  refine wpList_load_row rfl _ _ rfl g0 rfl _ cs (0, 0) _ HC.out Try.underlying62 rfl HZ.out ?_
  go_wp2_with (go_at_call 46; refine stopc ?_)
  refine Stop.go ?_
  refine (few_any (fun _ => False) cs h _ HH.out HFT.out (fun _ _ h => h)).mono ?_
  rw [← HFB.out]
  rintro e w2 ⟨rfl, hs⟩
  have hltw2 := hs.size
  have HH := Lib.hid (HH.out.stp0 hs)
  have HC := Lib.hid (hs.blk HC.out id)
  have HD := Lib.hid (HD.out.stp0 hs)
  have HS := Lib.hid (HS.out.trans hs)
  clear hs
  cases fb with
  | false =>
    go_wp2
    go_ret
    exact ⟨rfl, HS.out⟩
  | true =>
    cases lb with
    | true =>
      go_wp2
      go_ret
      exact ⟨rfl, HS.out⟩
    | false =>
      have hlen : b.length ≤ 5000 := by
        have := HLB.out.symm
        rw [decide_eq_false_iff_not] at this
        omega
      have hfw := (fewB_iff h).1 HFB.out.symm
      have HXL := Lib.hid (few_sm h (by omega))
      obtain ⟨ok, hok⟩ : ∃ ok, ok = (printH h).2 := ⟨_, rfl⟩
      obtain ⟨p, hp⟩ : ∃ p, p = (printH h).1 := ⟨_, rfl⟩
      have HOK := Lib.hid hok
      have HP := Lib.hid hp
      have hpl : p.length ≤ 100000 := by
        have := layS_len h HRN.out
        rw [hp]
        unfold printH
        split
        · simp only
          omega
        · simp
      clear hok hp
      go_wp2_with (with_reducible refine stop (N := 27) rfl ?_)
      refine Stop.go ?_
      refine wpList_load_row rfl _ _ rfl g0 rfl _ cs (0, 0) _ HC.out Try.underlying62 rfl HZ.out ?_
      go_wp2_with (go_at_call 54; refine stopc ?_)
      refine Stop.go ?_
      refine (print_any (fun _ => False) cs h _ HH.out (by omega) HFT.out (fun _ _ h => h)).mono ?_
      rw [← HOK.out, ← HP.out]
      rintro e w3 ⟨v7, rfl, ho7, hs⟩
      have hltw3 := hs.size
      have HH := Lib.hid (HH.out.stp0 hs)
      have HC := Lib.hid (hs.blk HC.out id)
      have HD := Lib.hid (HD.out.stp0 hs)
      have HS := Lib.hid (HS.out.trans hs)
      clear hs
      have R7 := Lib.hid (ho7.rd (h1 := fun _ => rfl) (M := fun _ => False) (fun _ _ => id))
      obtain ⟨A7, c7, rfl, hle7⟩ := R7.out.form
      clear ho7
      cases ok with
      | false =>
        obtain ⟨Y, hY⟩ : ∃ Y, Y = parseS b := ⟨_, rfl⟩
        have HY := Lib.hid hY
        clear hY
        go_wp2_with (go_at_call 51; refine stopc ?_)
        refine Stop.go ?_
        refine (parseH_any _ _ b _ HD.out (by omega)).mono ?_
        unfold ParseRet
        rw [← HY.out]
        rintro e w4 ⟨cs11, rfl, hi, hs⟩
        have hltw4 := hs.size
        have HH := Lib.hid (HH.out.stp0 hs)
        have HC := Lib.hid (hs.blk HC.out id)
        have HD := Lib.hid (HD.out.stp0 hs)
        have R7 := Lib.hid (R7.out.stp0 hs)
        have HS := Lib.hid (HS.out.trans hs)
        clear hs
        obtain ⟨hbx, heq, w5, hw, hc, hs⟩ := box_hl w4 cs11 hi.size
        rw [hlV0] at hbx heq hw
        have HBX := Lib.hid hbx
        have HEQ := Lib.hid heq
        have HW := Lib.hid hw
        have HZ11 := Lib.hid hi.info
        have HON := Lib.hid hi.one
        have HC11 := Lib.hid hc
        have HI11 := Lib.hid (hi.stp0 hs)
        have hltw5 := hs.size
        clear hbx heq hw hc
        have HH := Lib.hid (HH.out.stp0 hs)
        have HC := Lib.hid (hs.blk HC.out id)
        have HD := Lib.hid (HD.out.stp0 hs)
        have R7 := Lib.hid (R7.out.stp0 hs)
        have HS := Lib.hid (HS.out.trans hs)
        clear hs hi
        go_wp2_with (refine wpList_store_row rfl _ _ _ rfl w4.heap.size cs11 rfl rfl _ _ HBX.out HZ11.out HEQ.out HON.out ?_; rw [HW.out]; refine stopw ?_)
        refine Stop.go ?_
        clear HBX HEQ HW HON
        obtain ⟨g11, hg11⟩ : ∃ g, g = w4.heap.size := ⟨_, rfl⟩
        rw [← hg11] at HC11 ⊢
        have hge11 : w4.heap.size ≤ g11 := by omega
        clear hg11
        obtain ⟨H, q⟩ := Y
        dsimp only at HI11 ⊢
        by_cases hq0 : q = 0
        · subst hq0
          have hpy := parse_few b (by rw [← HY.out])
          have hpf := parse_fit b
          have hpp := print_parse b (by rw [← HY.out])
          rw [← HY.out] at hpy hpf hpp
          dsimp only at hpy hpf hpp
          have HPF := Lib.hid hpf
          have HPP := Lib.hid hpp
          clear hpf hpp
          go_wp2_with (with_reducible refine stop (N := 67) rfl ?_)
          refine Stop.go ?_
          refine wpList_load_row rfl _ _ rfl g11 rfl _ cs11 (0, 0) _ HC11.out Try.underlying62 rfl HZ11.out ?_
          go_wp2_with (go_at_call 54; refine stopc ?_)
          refine Stop.go ?_
          refine (print_any (fun _ => False) cs11 H _ (HI11.out.weak (fun _ _ h => h.elim)) (by omega) HPF.out (fun _ _ h => h)).mono ?_
          rw [HPP.out]
          rintro e w6 ⟨v13, rfl, ho13, hs⟩
          have hltw6 := hs.size
          have HH := Lib.hid (HH.out.stp0 hs)
          have HC := Lib.hid (hs.blk HC.out id)
          have HD := Lib.hid (HD.out.stp0 hs)
          have R7 := Lib.hid (R7.out.stp0 hs)
          have HC11 := Lib.hid (hs.blk HC11.out id)
          have HI11 := Lib.hid (HI11.out.stp0 hs)
          have HS := Lib.hid (HS.out.trans hs)
          clear hs
          have R13 := Lib.hid (show Rd u8 (fun _ => False) w6 v13 b from ho13.rd (h1 := fun _ => rfl) (M := fun _ => False) (fun _ _ => id))
          obtain ⟨A13, c13, rfl, hle13⟩ := R13.out.form
          have cv1 := conv_of HD.out
          have cv13 := conv_of R13.out
          clear ho13
          go_wp2
          go_ret
          exact ⟨rfl, HS.out⟩
        · have hq1 : (q != 0) = true := by simpa using hq0
          have he := parse_err b (by rw [← HY.out]; exact hq0)
          rw [← HY.out] at he
          dsimp only at he
          subst he
          have hnil := IsHl.nil (fun _ => False) w5
          rw [hlV0] at hnil
          have HNIL := Lib.hid hnil
          clear hnil
          have hp0 := print_no h HOK.out.symm
          rw [← HP.out] at hp0
          have hpz : ((p.length : Int) == 0) = true := by rw [hp0]; rfl
          clear hp0
          go_wp2_with (with_reducible refine stop (N := 62) rfl ?_)
          refine Stop.go ?_
          refine wpList_wanted (by kernel_rfl) (wp_load_row _ _ rfl g11 rfl _ cs11 (0, 0) _ HC11.out Try.underlying62 rfl HZ11.out ?_)
          go_wp2_with (go_at_call 53; refine stopc ?_)
          refine Stop.go ?_
          refine (sameR_any (fun _ => False) _ _ hl0 hl0 _ (HI11.out.weak (fun _ _ h => h.elim)) HNIL.out sm_hl0 sm_hl0 true (Tells.t rfl)).mono ?_
          rintro e w6 ⟨rfl, hs⟩
          have hltw6 := hs.size
          have HH := Lib.hid (HH.out.stp0 hs)
          have HC := Lib.hid (hs.blk HC.out id)
          have HD := Lib.hid (HD.out.stp0 hs)
          have R7 := Lib.hid (R7.out.stp0 hs)
          have HC11 := Lib.hid (hs.blk HC11.out id)
          have HI11 := Lib.hid (HI11.out.stp0 hs)
          have HNIL := Lib.hid (HNIL.out.stp0 hs)
          have HS := Lib.hid (HS.out.trans hs)
          clear hs
          go_wp2
          go_ret
          exact ⟨rfl, HS.out⟩
      | true =>
        have hpp := print_yes h HRN.out HOK.out.symm
        rw [← HP.out] at hpp
        have HPP := Lib.hid hpp
        clear hpp
        go_wp2_with (go_at_call 51; refine stopc ?_)
        refine Stop.go ?_
        refine (parseH_any _ _ p _ R7.out (by omega)).mono ?_
        unfold ParseRet
        rw [HPP.out]
        rintro e w4 ⟨cs9, rfl, hi, hs⟩
        have hltw4 := hs.size
        have HH := Lib.hid (HH.out.stp0 hs)
        have HC := Lib.hid (hs.blk HC.out id)
        have HD := Lib.hid (HD.out.stp0 hs)
        have R7 := Lib.hid (R7.out.stp0 hs)
        have HS := Lib.hid (HS.out.trans hs)
        clear hs
        obtain ⟨hbx, heq, w5, hw, hc, hs⟩ := box_hl w4 cs9 hi.size
        rw [hlV0] at hbx heq hw
        have HBX := Lib.hid hbx
        have HEQ := Lib.hid heq
        have HW := Lib.hid hw
        have HZ9 := Lib.hid hi.info
        have HON := Lib.hid hi.one
        have HC9 := Lib.hid hc
        have HI9 := Lib.hid (hi.stp0 hs)
        have hltw5 := hs.size
        clear hbx heq hw hc
        have HH := Lib.hid (HH.out.stp0 hs)
        have HC := Lib.hid (hs.blk HC.out id)
        have HD := Lib.hid (HD.out.stp0 hs)
        have R7 := Lib.hid (R7.out.stp0 hs)
        have HS := Lib.hid (HS.out.trans hs)
        clear hs hi
        go_wp2_with (refine wpList_store_row rfl _ _ _ rfl w4.heap.size cs9 rfl rfl _ _ HBX.out HZ9.out HEQ.out HON.out ?_; rw [HW.out]; refine stopw ?_)
        refine Stop.go ?_
        clear HBX HEQ HW HON
        obtain ⟨g9, hg9⟩ : ∃ g, g = w4.heap.size := ⟨_, rfl⟩
        rw [← hg9] at HC9 ⊢
        have hge9 : w4.heap.size ≤ g9 := by omega
        clear hg9
        go_wp2_with (with_reducible refine stop (N := 40) rfl ?_)
        refine Stop.go ?_
        refine wpList_wanted (by kernel_rfl) (wp_load_row _ _ rfl g9 rfl _ cs9 (0, 0) _ HC9.out Try.underlying62 rfl HZ9.out ?_)
        go_wp2_with (with_reducible refine stop (N := 41) rfl ?_)
        refine Stop.go ?_
        refine wpList_wanted (by kernel_rfl) (wp_load_row _ _ rfl g0 rfl _ cs (0, 0) _ HC.out Try.underlying62 rfl HZ.out ?_)
        go_wp2_with (go_at_call 53; refine stopc ?_)
        refine Stop.go ?_
        refine (sameR_any (fun _ => False) _ _ h h _ (HI9.out.weak (fun _ _ h => h.elim)) (HH.out.weak (fun _ _ h => h.elim)) HXL.out HXL.out true (Tells.t rfl)).mono ?_
        rintro e w6 ⟨rfl, hs⟩
        have hltw6 := hs.size
        have HH := Lib.hid (HH.out.stp0 hs)
        have HC := Lib.hid (hs.blk HC.out id)
        have HD := Lib.hid (HD.out.stp0 hs)
        have R7 := Lib.hid (R7.out.stp0 hs)
        have HC9 := Lib.hid (hs.blk HC9.out id)
        have HI9 := Lib.hid (HI9.out.stp0 hs)
        have HS := Lib.hid (HS.out.trans hs)
        clear hs
        obtain ⟨Y, hY⟩ : ∃ Y, Y = parseS b := ⟨_, rfl⟩
        have HY := Lib.hid hY
        clear hY
        go_wp2_with (go_at_call 51; refine stopc ?_)
        refine Stop.go ?_
        refine (parseH_any _ _ b _ HD.out (by omega)).mono ?_
        unfold ParseRet
        rw [← HY.out]
        rintro e w7 ⟨cs11, rfl, hi, hs⟩
        have hltw7 := hs.size
        have HH := Lib.hid (HH.out.stp0 hs)
        have HC := Lib.hid (hs.blk HC.out id)
        have HD := Lib.hid (HD.out.stp0 hs)
        have R7 := Lib.hid (R7.out.stp0 hs)
        have HC9 := Lib.hid (hs.blk HC9.out id)
        have HI9 := Lib.hid (HI9.out.stp0 hs)
        have HS := Lib.hid (HS.out.trans hs)
        clear hs
        obtain ⟨hbx, heq, w8, hw, hc, hs⟩ := box_hl w7 cs11 hi.size
        rw [hlV0] at hbx heq hw
        have HBX := Lib.hid hbx
        have HEQ := Lib.hid heq
        have HW := Lib.hid hw
        have HZ11 := Lib.hid hi.info
        have HON := Lib.hid hi.one
        have HC11 := Lib.hid hc
        have HI11 := Lib.hid (hi.stp0 hs)
        have hltw8 := hs.size
        clear hbx heq hw hc
        have HH := Lib.hid (HH.out.stp0 hs)
        have HC := Lib.hid (hs.blk HC.out id)
        have HD := Lib.hid (HD.out.stp0 hs)
        have R7 := Lib.hid (R7.out.stp0 hs)
        have HC9 := Lib.hid (hs.blk HC9.out id)
        have HI9 := Lib.hid (HI9.out.stp0 hs)
        have HS := Lib.hid (HS.out.trans hs)
        clear hs hi
        go_wp2_with (refine wpList_store_row rfl _ _ _ rfl w7.heap.size cs11 rfl rfl _ _ HBX.out HZ11.out HEQ.out HON.out ?_; rw [HW.out]; refine stopw ?_)
        refine Stop.go ?_
        clear HBX HEQ HW HON
        obtain ⟨g11, hg11⟩ : ∃ g, g = w7.heap.size := ⟨_, rfl⟩
        rw [← hg11] at HC11 ⊢
        have hge11 : w7.heap.size ≤ g11 := by omega
        clear hg11
        obtain ⟨H, q⟩ := Y
        dsimp only at HI11 ⊢
        by_cases hq0 : q = 0
        · subst hq0
          have hpy := parse_few b (by rw [← HY.out])
          have hpf := parse_fit b
          have hpp := print_parse b (by rw [← HY.out])
          rw [← HY.out] at hpy hpf hpp
          dsimp only at hpy hpf hpp
          have HPF := Lib.hid hpf
          have HPP := Lib.hid hpp
          clear hpf hpp
          go_wp2_with (with_reducible refine stop (N := 67) rfl ?_)
          refine Stop.go ?_
          refine wpList_load_row rfl _ _ rfl g11 rfl _ cs11 (0, 0) _ HC11.out Try.underlying62 rfl HZ11.out ?_
          go_wp2_with (go_at_call 54; refine stopc ?_)
          refine Stop.go ?_
          refine (print_any (fun _ => False) cs11 H _ (HI11.out.weak (fun _ _ h => h.elim)) (by omega) HPF.out (fun _ _ h => h)).mono ?_
          rw [HPP.out]
          rintro e w9 ⟨v13, rfl, ho13, hs⟩
          have hltw9 := hs.size
          have HH := Lib.hid (HH.out.stp0 hs)
          have HC := Lib.hid (hs.blk HC.out id)
          have HD := Lib.hid (HD.out.stp0 hs)
          have R7 := Lib.hid (R7.out.stp0 hs)
          have HC9 := Lib.hid (hs.blk HC9.out id)
          have HI9 := Lib.hid (HI9.out.stp0 hs)
          have HC11 := Lib.hid (hs.blk HC11.out id)
          have HI11 := Lib.hid (HI11.out.stp0 hs)
          have HS := Lib.hid (HS.out.trans hs)
          clear hs
          have R13 := Lib.hid (show Rd u8 (fun _ => False) w9 v13 b from ho13.rd (h1 := fun _ => rfl) (M := fun _ => False) (fun _ _ => id))
          obtain ⟨A13, c13, rfl, hle13⟩ := R13.out.form
          have cv1 := conv_of HD.out
          have cv13 := conv_of R13.out
          clear ho13
          go_wp2
          go_ret
          exact ⟨rfl, HS.out⟩
        · have hq1 : (q != 0) = true := by simpa using hq0
          have he := parse_err b (by rw [← HY.out]; exact hq0)
          rw [← HY.out] at he
          dsimp only at he
          subst he
          have hnil := IsHl.nil (fun _ => False) w8
          rw [hlV0] at hnil
          have HNIL := Lib.hid hnil
          clear hnil
          go_wp2_with (with_reducible refine stop (N := 62) rfl ?_)
          refine Stop.go ?_
          refine wpList_wanted (by kernel_rfl) (wp_load_row _ _ rfl g11 rfl _ cs11 (0, 0) _ HC11.out Try.underlying62 rfl HZ11.out ?_)
          go_wp2_with (go_at_call 53; refine stopc ?_)
          refine Stop.go ?_
          refine (sameR_any (fun _ => False) _ _ hl0 hl0 _ (HI11.out.weak (fun _ _ h => h.elim)) HNIL.out sm_hl0 sm_hl0 true (Tells.t rfl)).mono ?_
          rintro e w9 ⟨rfl, hs⟩
          have hltw9 := hs.size
          have HH := Lib.hid (HH.out.stp0 hs)
          have HC := Lib.hid (hs.blk HC.out id)
          have HD := Lib.hid (HD.out.stp0 hs)
          have R7 := Lib.hid (R7.out.stp0 hs)
          have HC9 := Lib.hid (hs.blk HC9.out id)
          have HI9 := Lib.hid (HI9.out.stp0 hs)
          have HC11 := Lib.hid (hs.blk HC11.out id)
          have HI11 := Lib.hid (HI11.out.stp0 hs)
          have HNIL := Lib.hid (HNIL.out.stp0 hs)
          have HS := Lib.hid (HS.out.trans hs)
          clear hs
          go_wp2
          go_ret
          exact ⟨rfl, HS.out⟩
end Go.Proofs.Ytdmcmfjhlpnaeaa.L
