/- What is parsed; what is printed and found. -/
import Derived.Test.YtdmcmfjhlpnaeaaHy
set_option linter.unusedVariables false
set_option linter.unusedSimpArgs false
namespace Go.Proofs.Ytdmcmfjhlpnaeaa.L
open Go.RowKit Go.Proofs

set_option maxRecDepth 100000 in
set_option maxHeartbeats 8000000 in
theorem helloParses_any (v0 : Value) (b : List UInt8) (w : World) (hd : Rd u8 (newB w) w v0 b) :
    Calls Try.prog 12 #[v0] w fun e w' => e = .returned (.bool true) ∧ Stp (fun _ => False) w w' := by
  obtain ⟨A0, c0, rfl, hle0⟩ := hd.form
  have HS := Lib.hid (Stp.refl (fun _ => False) w)
  have HD := Lib.hid hd
  clear hd
  by_cases hlen : b.length ≤ 5000
  · have hlen' : ¬ (5000 : Int) < b.length := by omega
    go_enter Try.func12, Try.ntmps12
    go_wp2_with (go_at_call 50; refine stopc ?_)
    refine Stop.go ?_
    refine (small9_any _).mono ?_
    rintro e w1 ⟨rfl, hs⟩
    have HD := Lib.hid (HD.out.stp0 hs)
    have HS := Lib.hid (HS.out.trans hs)
    clear hs
    obtain ⟨X, hX⟩ : ∃ X, X = parseS b := ⟨_, rfl⟩
    have HX := Lib.hid hX
    clear hX
    go_wp2_with (go_at_call 51; refine stopc ?_)
    refine Stop.go ?_
    refine (parseH_any _ _ b _ HD.out (by omega)).mono ?_
    unfold ParseRet
    rw [← HX.out]
    rintro e w2 ⟨cs4, rfl, hi, hs⟩
    have hltw2 := hs.size
    have HD := Lib.hid (HD.out.stp0 hs)
    have HS := Lib.hid (HS.out.trans hs)
    clear hs
    obtain ⟨hbx, heq, w3, hw, hc, hs⟩ := box_hl w2 cs4 hi.size
    rw [hlV0] at hbx heq hw
    have HBX := Lib.hid hbx
    have HEQ := Lib.hid heq
    have HW := Lib.hid hw
    have HZ4 := Lib.hid hi.info
    have HON := Lib.hid hi.one
    have HC4 := Lib.hid hc
    have HI4 := Lib.hid (hi.stp0 hs)
    have hltw3 := hs.size
    clear hbx heq hw hc
    have HD := Lib.hid (HD.out.stp0 hs)
    have HS := Lib.hid (HS.out.trans hs)
    clear hs hi
    go_wp2_with (refine wpList_store_row rfl _ _ _ rfl w2.heap.size cs4 rfl rfl _ _ HBX.out HZ4.out HEQ.out HON.out ?_; rw [HW.out]; refine stopw ?_)
    refine Stop.go ?_
    clear HBX HEQ HW HON
    obtain ⟨g4, hg4⟩ : ∃ g, g = w2.heap.size := ⟨_, rfl⟩
    rw [← hg4] at HC4 ⊢
    have hge4 : w2.heap.size ≤ g4 := by omega
    clear hg4
    go_wp2_with (go_at_call 52; refine stopc ?_)
    refine Stop.go ?_
    refine (parseR_any _ _ b _ HD.out (by omega)).mono ?_
    unfold ParseRet
    rw [← HX.out]
    rintro e w4 ⟨cs6, rfl, hi, hs⟩
    have hltw4 := hs.size
    have HD := Lib.hid (HD.out.stp0 hs)
    have HC4 := Lib.hid (hs.blk HC4.out id)
    have HI4 := Lib.hid (HI4.out.stp0 hs)
    have HS := Lib.hid (HS.out.trans hs)
    clear hs
    obtain ⟨hbx, heq, w5, hw, hc, hs⟩ := box_hl w4 cs6 hi.size
    rw [hlV0] at hbx heq hw
    have HBX := Lib.hid hbx
    have HEQ := Lib.hid heq
    have HW := Lib.hid hw
    have HZ6 := Lib.hid hi.info
    have HON := Lib.hid hi.one
    have HC6 := Lib.hid hc
    have HI6 := Lib.hid (hi.stp0 hs)
    have hltw5 := hs.size
    clear hbx heq hw hc
    have HD := Lib.hid (HD.out.stp0 hs)
    have HC4 := Lib.hid (hs.blk HC4.out id)
    have HI4 := Lib.hid (HI4.out.stp0 hs)
    have HS := Lib.hid (HS.out.trans hs)
    clear hs hi
    go_wp2_with (refine wpList_store_row rfl _ _ _ rfl w4.heap.size cs6 rfl rfl _ _ HBX.out HZ6.out HEQ.out HON.out ?_; rw [HW.out]; refine stopw ?_)
    refine Stop.go ?_
    clear HBX HEQ HW HON
    obtain ⟨g6, hg6⟩ : ∃ g, g = w4.heap.size := ⟨_, rfl⟩
    rw [← hg6] at HC6 ⊢
    have hge6 : w4.heap.size ≤ g6 := by omega
    clear hg6
    obtain ⟨H, q⟩ := X
    dsimp only at HI4 HI6 ⊢
    have hqq : (q == q) = true := by simp
    go_wp2_with (with_reducible refine stop (N := 25) rfl ?_)
    refine Stop.go ?_
    refine wpList_wanted (by kernel_rfl) (wp_load_row _ _ rfl g4 rfl _ cs4 (0, 0) _ HC4.out Try.underlying62 rfl HZ4.out ?_)
    go_wp2_with (with_reducible refine stop (N := 26) rfl ?_)
    refine Stop.go ?_
    refine wpList_wanted (by kernel_rfl) (wp_load_row _ _ rfl g6 rfl _ cs6 (0, 0) _ HC6.out Try.underlying62 rfl HZ6.out ?_)
    have hsm := parse_sm b (by omega)
    rw [← HX.out] at hsm
    go_wp2_with (go_at_call 53; refine stopc ?_)
    refine Stop.go ?_
    refine (sameR_any (fun _ => False) _ _ H H _ (HI4.out.weak (fun _ _ h => h.elim)) (HI6.out.weak (fun _ _ h => h.elim)) hsm hsm true (Tells.t rfl)).mono ?_
    rintro e w6 ⟨rfl, hs⟩
    have hltw6 := hs.size
    have HD := Lib.hid (HD.out.stp0 hs)
    have HC4 := Lib.hid (hs.blk HC4.out id)
    have HI4 := Lib.hid (HI4.out.stp0 hs)
    have HC6 := Lib.hid (hs.blk HC6.out id)
    have HI6 := Lib.hid (HI6.out.stp0 hs)
    have HS := Lib.hid (HS.out.trans hs)
    clear hs
    go_wp2
    go_ret
    exact ⟨rfl, HS.out⟩
  · have hlen' : (5000 : Int) < b.length := by omega
    go_enter Try.func12, Try.ntmps12
    go_wp2_with (go_at_call 50; refine stopc ?_)
    refine Stop.go ?_
    refine (small9_any _).mono ?_
    rintro e w1 ⟨rfl, hs⟩
    have HD := Lib.hid (HD.out.stp0 hs)
    have HS := Lib.hid (HS.out.trans hs)
    clear hs
    go_wp2
    go_ret
    exact ⟨rfl, HS.out⟩
end Go.Proofs.Ytdmcmfjhlpnaeaa.L
