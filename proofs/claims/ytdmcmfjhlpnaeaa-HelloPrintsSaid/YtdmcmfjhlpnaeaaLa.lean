/- What is printed, and what is found. -/
import Derived.Test.YtdmcmfjhlpnaeaaPn
set_option linter.unusedVariables false
set_option linter.unusedSimpArgs false
namespace Go.Proofs.Ytdmcmfjhlpnaeaa.L
open Go.RowKit Go.Proofs

set_option maxRecDepth 100000 in
set_option maxHeartbeats 8000000 in
theorem helloPrints_any (cs : Array Value) (h : Hl) (kind : Int) (w : World) (hh : IsHl (newB w) w cs h) (hft : HlFit h) :
    Calls Try.prog 13 #[.agg cs, .int .i64 kind] w fun e w' => e = .returned (.bool true) ∧ Stp (fun _ => False) w w' := by
  have hcs := hh.size
  have hrn : h.rnd.length = 32 := by obtain ⟨_, _, _, _, _, h2, _⟩ := hh; exact h2
  have HZ := Lib.hid hh.info
  obtain ⟨w0, hw0⟩ : ∃ w0, w0 = w.alloc (.cells cs 62) := ⟨_, rfl⟩
  have hs0 : Stp (fun _ => False) w w0 := by rw [hw0]; exact (Stp.refl _ _).alloc _
  have hc0 : w0.heap[w.heap.size]? = some (.cells cs 62 (0, 0)) := by rw [hw0]; exact heap_alloc_new w _
  have HH := Lib.hid ((hh.weak (M' := fun _ => False) (fun _ _ h => h.elim)).stp0 hs0)
  have HS := Lib.hid hs0
  have HC := Lib.hid hc0
  have HW0 := Lib.hid hw0
  have HRN := Lib.hid hrn
  clear hh hs0 hc0 hw0 hrn
  have HFT := Lib.hid hft
  clear hft
  go_enter Try.func13, Try.ntmps13
  go_upto_region 1 with fail
  rw [← HW0.out]
  generalize e0 : w.heap.size = g0 at *
  clear e0 HW0
  go_wp2_with (go_at_call 50; refine stopc ?_)
  refine Stop.go ?_
  refine (small9_any _).mono ?_
  rintro e w1 ⟨rfl, hs⟩
  have HH := Lib.hid (HH.out.stp0 hs)
  have HC := Lib.hid (hs.blk HC.out id)
  have HS := Lib.hid (HS.out.trans hs)
  clear hs
  go_wp2_with (with_reducible refine stop (N := 16) rfl ?_)
  refine Stop.go ?_
  refine wpList_load_row rfl _ _ rfl g0 rfl _ cs (0, 0) _ HC.out Try.underlying62 rfl HZ.out ?_
  obtain ⟨fb, hfb⟩ : ∃ fb, fb = fewB h := ⟨_, rfl⟩
  have HFB := Lib.hid hfb
  go_wp2_with (go_at_call 46; refine stopc ?_)
  refine Stop.go ?_
  refine (few_any (fun _ => False) cs h _ HH.out HFT.out (fun _ _ h => h)).mono ?_
  rw [← HFB.out]
  rintro e w2 ⟨rfl, hs⟩
  have hltw2 := hs.size
  have HH := Lib.hid (HH.out.stp0 hs)
  have HC := Lib.hid (hs.blk HC.out id)
  have HS := Lib.hid (HS.out.trans hs)
  clear hs
  clear hfb
  cases fb with
  | false =>
    go_wp2
    go_ret
    exact ⟨rfl, HS.out⟩
  | true =>
    have hfw := (fewB_iff h).1 HFB.out.symm
    obtain ⟨p, hp⟩ : ∃ p, p = printH h := ⟨_, rfl⟩
    obtain ⟨f, hf⟩ : ∃ f, f = findS h.exs kind := ⟨_, rfl⟩
    have HP := Lib.hid hp
    have HF := Lib.hid hf
    have HPS := Lib.hid (show printS h = p by rw [print_eq h HRN.out, hp])
    have HXL := Lib.hid (few_sm h (by omega))
    clear hp hf
    go_wp2_with (with_reducible refine stop (N := 22) rfl ?_)
    refine Stop.go ?_
    refine wpList_load_row rfl _ _ rfl g0 rfl _ cs (0, 0) _ HC.out Try.underlying62 rfl HZ.out ?_
    go_wp2_with (go_at_call 54; refine stopc ?_)
    refine Stop.go ?_
    refine (print_any (fun _ => False) cs h _ HH.out (by omega) HFT.out (fun _ _ h => h)).mono ?_
    rw [← HP.out]
    rintro e w3 ⟨v7, rfl, ho7, hs⟩
    have hltw3 := hs.size
    have HH := Lib.hid (HH.out.stp0 hs)
    have HC := Lib.hid (hs.blk HC.out id)
    have HS := Lib.hid (HS.out.trans hs)
    clear hs
    have R7 := Lib.hid (ho7.rd (h1 := fun _ => rfl) (M := fun _ => False) (fun _ _ => id))
    clear ho7
    go_wp2_with (with_reducible refine stop (N := 27) rfl ?_)
    refine Stop.go ?_
    refine wpList_load_row rfl _ _ rfl g0 rfl _ cs (0, 0) _ HC.out Try.underlying62 rfl HZ.out ?_
    go_wp2_with (go_at_call 55; refine stopc ?_)
    refine Stop.go ?_
    refine (printR_any (fun _ => False) cs h _ HH.out (by omega)).mono ?_
    rw [HPS.out]
    rintro e w4 ⟨v9, rfl, ho9, hs⟩
    have hltw4 := hs.size
    have HH := Lib.hid (HH.out.stp0 hs)
    have HC := Lib.hid (hs.blk HC.out id)
    have R7 := Lib.hid (R7.out.stp0 hs)
    have HS := Lib.hid (HS.out.trans hs)
    clear hs
    have R9 := Lib.hid (ho9.rd (h1 := fun _ => rfl) (M := fun _ => False) (fun _ _ => id))
    clear ho9
    go_wp2_with (with_reducible refine stop (N := 32) rfl ?_)
    refine Stop.go ?_
    refine wpList_load_row rfl _ _ rfl g0 rfl _ cs (0, 0) _ HC.out Try.underlying62 rfl HZ.out ?_
    go_wp2_with (go_at_call 56; refine stopc ?_)
    refine Stop.go ?_
    refine (find_hl HH.out kind (by have := HXL.out.2.2.2.1; omega) (fun x hx => by have := HXL.out.2.2.2.2 x hx; omega)).mono ?_
    rw [← HF.out]
    rintro e w5 ⟨v11, rfl, hr11, hs⟩
    have hltw5 := hs.size
    have HH := Lib.hid (HH.out.stp0 hs)
    have HC := Lib.hid (hs.blk HC.out id)
    have R7 := Lib.hid (R7.out.stp0 hs)
    have R9 := Lib.hid (R9.out.stp0 hs)
    have HS := Lib.hid (HS.out.trans hs)
    clear hs
    have R11 := Lib.hid (hr11.weak (M' := fun _ => False) (by decide) (fun _ _ h => h.elim))
    clear hr11
    go_wp2_with (with_reducible refine stop (N := 38) rfl ?_)
    refine Stop.go ?_
    refine wpList_load_row rfl _ _ rfl g0 rfl _ cs (0, 0) _ HC.out Try.underlying62 rfl HZ.out ?_
    go_wp2_with (go_at_call 57; refine stopc ?_)
    refine Stop.go ?_
    refine (findR_hl HH.out kind (by have := HXL.out.2.2.2.1; omega) id).mono ?_
    rw [← HF.out]
    rintro e w6 ⟨v13, rfl, hr13, hs⟩
    have hltw6 := hs.size
    have HH := Lib.hid (HH.out.stp0 hs)
    have HC := Lib.hid (hs.blk HC.out id)
    have R7 := Lib.hid (R7.out.stp0 hs)
    have R9 := Lib.hid (R9.out.stp0 hs)
    have R11 := Lib.hid (R11.out.stp0 hs)
    have HS := Lib.hid (HS.out.trans hs)
    clear hs
    obtain ⟨A7, c7, rfl, _⟩ := R7.out.form
    obtain ⟨A9, c9, rfl, _⟩ := R9.out.form
    obtain ⟨A11, c11, rfl, _⟩ := R11.out.form
    obtain ⟨A13, c13, rfl, _⟩ := hr13.form
    have cv7 := conv_of R7.out
    have cv9 := conv_of R9.out
    have cv11 := conv_of R11.out
    have cv13 := conv_of hr13
    clear hr13
    go_wp2
    go_ret
    exact ⟨rfl, HS.out⟩
end Go.Proofs.Ytdmcmfjhlpnaeaa.L
