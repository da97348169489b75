/- A hello without a row of extensions, and one with an empty one. -/
import Derived.Test.YtdmcmfjhlpnaeaaLc
set_option linter.unusedVariables false
set_option linter.unusedSimpArgs false
namespace Go.Proofs.Ytdmcmfjhlpnaeaa.L
open Go.RowKit Go.Proofs

theorem bare_ok (h : Hl) (he : h.exs = []) : okP { h with has := true } = okP { h with has := false } := by
  have hw : wrongS { h with has := true } = wrongS { h with has := false } := rfl
  simp only [okP, ok1, hw, he]
  simp
  rfl
theorem bare_yes (h : Hl) (he : h.exs = []) (ho : okP { h with has := false } = true) : (printH { h with has := true }).1 = (printH { h with has := false }).1 ++ [0, 0] := by
  have h2 := bare_ok h he
  rw [ho] at h2
  unfold printH
  rw [if_pos ho, if_pos h2]
  show (vecB (layA h) 2 (flatX h.exs)).1 = layA h ++ [0, 0]
  rw [he, vecB_yes _ _ 2 (by decide)]
  rfl

set_option maxRecDepth 100000 in
set_option maxHeartbeats 8000000 in
theorem helloBare_any (cs : Array Value) (h : Hl) (w : World) (hh : IsHl (newB w) w cs h) (hft : HlFit h) :
    Calls Try.prog 17 #[.agg cs] w fun e w' => e = .returned (.bool true) ∧ Stp (fun _ => False) w w' := by
  have hcs := hh.size
  have hrn : h.rnd.length = 32 := by obtain ⟨_, _, _, _, _, h2, _⟩ := hh; exact h2
  have HZ := Lib.hid hh.info
  obtain ⟨w0, hw0⟩ : ∃ w0, w0 = w.alloc (.cells cs 62) := ⟨_, rfl⟩
  have hs0 : Stp (fun _ => False) w w0 := by rw [hw0]; exact (Stp.refl _ _).alloc _
  have hc0 : w0.heap[w.heap.size]? = some (.cells cs 62 (0, 0)) := by rw [hw0]; exact heap_alloc_new w _
  have HH := Lib.hid ((hh.weak (M' := fun _ => False) (fun _ _ h => h.elim)).stp0 hs0)
  obtain ⟨vs, vc, vm, vx, e, hr, h1, h2, h3, h4⟩ := id hh
  have ecs : cs = (hlV h vs vc vm vx).toArray := by have := congrArg List.toArray e; rwa [Array.toArray_toList] at this
  obtain ⟨A4, c4, rfl, hle4⟩ := h4.form
  have hb0 : HlB w0 w.heap.size h vs vc vm (.slice A4 h.exs.length c4) := ⟨by rw [← ecs]; exact hc0, hr⟩
  have H1 := Lib.hid (h1.stp0 hs0)
  have H2 := Lib.hid (h2.stp0 hs0)
  have H3 := Lib.hid (h3.stp0 hs0)
  have H4 := Lib.hid (h4.stp0 hs0)
  have HB := Lib.hid hb0
  have HS := Lib.hid hs0
  have HC := Lib.hid hc0
  have HW0 := Lib.hid hw0
  have HRN := Lib.hid hrn
  clear hh hs0 hc0 hw0 hrn h1 h2 h3 h4 hb0 e hr ecs
  have HFT := Lib.hid hft
  clear hft
  obtain ⟨fb, hfb⟩ : ∃ fb, fb = fewB h := ⟨_, rfl⟩
  have HFB := Lib.hid hfb
  clear hfb
  go_enter Try.func17, Try.ntmps17
  go_upto_region 1 with fail
  rw [← HW0.out]
  have HNB := Lib.hid (show newB w w.heap.size from Nat.le_refl _)
  generalize e0 : w.heap.size = g0 at *
  have E0 := Lib.hid e0
  clear e0 HW0
  go_wp2_with (go_at_call 50; refine stopc ?_)
  refine Stop.go ?_
  refine (small9_any _).mono ?_
  rintro e w1 ⟨rfl, hs⟩
  have HH := Lib.hid (HH.out.stp0 hs)
  have HC := Lib.hid (hs.blk HC.out id)
  have HB := Lib.hid (HB.out.stp0 hs)
  have H1 := Lib.hid (H1.out.stp0 hs)
  have H2 := Lib.hid (H2.out.stp0 hs)
  have H3 := Lib.hid (H3.out.stp0 hs)
  have H4 := Lib.hid (H4.out.stp0 hs)
  have HS := Lib.hid (HS.out.trans hs)
  clear hs
  go_wp2_with (with_reducible refine stop (N := 14) rfl ?_)
  refine Stop.go ?_
  refine wpList_load_row rfl _ _ rfl g0 rfl _ cs (0, 0) _ HC.out Try.underlying62 rfl HZ.out ?_
  go_wp2_with (go_at_call 46; refine stopc ?_)
  refine Stop.go ?_
  refine (few_any (fun _ => False) cs h _ HH.out HFT.out (fun _ _ h => h)).mono ?_
  rw [← HFB.out]
  rintro e w2 ⟨rfl, hs⟩
  have hltw2 := hs.size
  have HH := Lib.hid (HH.out.stp0 hs)
  have HC := Lib.hid (hs.blk HC.out id)
  have HB := Lib.hid (HB.out.stp0 hs)
  have H1 := Lib.hid (H1.out.stp0 hs)
  have H2 := Lib.hid (H2.out.stp0 hs)
  have H3 := Lib.hid (H3.out.stp0 hs)
  have H4 := Lib.hid (H4.out.stp0 hs)
  have HS := Lib.hid (HS.out.trans hs)
  clear hs
  cases fb with
  | false =>
    go_wp2
    go_ret
    exact ⟨rfl, HS.out⟩
  | true =>
    obtain ⟨-, -, -, -, c36, c37⟩ := HB.out.cells
    have f36 := HB.out.free 36
    by_cases hz0 : 0 < h.exs.length
    · go_wp2
      go_ret
      exact ⟨rfl, HS.out⟩
    · have hxe : h.exs = [] := List.eq_nil_of_length_eq_zero (by omega)
      have HXE := Lib.hid hxe
      have hfw := (fewB_iff h).1 HFB.out.symm
      have HXL := Lib.hid (few_sm h (by omega))
      have hs := (Stp.refl (fun k => k = g0) w2).setg 36 (.bool false)
      have hb := HB.out.set36 false
      go_wp2_with (with_reducible refine stop (N := 27) rfl ?_)
      refine Stop.go ?_
      generalize hw : w2.setCell ⟨g0, 36, none⟩ (.bool false) = w3 at *
      clear hw c36 c37 f36 hxe HC HH
      have H1 := Lib.hid (H1.out.step hs (fun k hk he => by rw [he]; exact HNB.out))
      have H2 := Lib.hid (H2.out.step hs (fun k hk he => by rw [he]; exact HNB.out))
      have H3 := Lib.hid (H3.out.step hs (fun k hk he => by rw [he]; exact HNB.out))
      have H4 := Lib.hid (H4.out.step hs (fun k hk he => by rw [he]; exact HNB.out))
      have HS := Lib.hid (HS.out.then_ hs (fun k hk he => by rw [E0.out] at hk; omega))
      have HB := Lib.hid hb
      have hgl : g0 < w3.heap.size := HB.out.lt
      clear hs hb
      obtain ⟨ok, hok⟩ : ∃ ok, ok = (printH { h with has := false }).2 := ⟨_, rfl⟩
      have hok2 : (printH { h with has := true }).2 = ok := by
        rw [hok]
        have := bare_ok h HXE.out
        unfold printH
        rw [this]
        split <;> rfl
      obtain ⟨pa, hpa⟩ : ∃ p, p = (printH { h with has := false }).1 := ⟨_, rfl⟩
      obtain ⟨pb, hpb⟩ : ∃ p, p = (printH { h with has := true }).1 := ⟨_, rfl⟩
      have HOK := Lib.hid hok
      have HOK2 := Lib.hid hok2.symm
      have HPA := Lib.hid hpa
      have HPB := Lib.hid hpb
      clear hok hok2 hpa hpb
      obtain ⟨cs27, hcs⟩ : ∃ cs, cs = (hlV { h with has := false } vs vc vm (.slice A4 h.exs.length c4)).toArray := ⟨_, rfl⟩
      have hcc : w3.heap[g0]? = some (.cells cs27 62 (0, 0)) := by rw [hcs]; exact HB.out.1
      have hii : IsHl (fun _ => False) w3 cs27 { h with has := false } := ⟨_, _, _, _, by rw [hcs], HRN.out, H1.out.weak (by decide) (fun _ _ h => h.elim), H2.out.weak (by decide) (fun _ _ h => h.elim), H3.out.weak (by decide) (fun _ _ h => h.elim), H4.out.weak (by decide) (fun _ _ h => h.elim)⟩
      have HCC := Lib.hid hcc
      have HII := Lib.hid hii
      have HZ27 := Lib.hid hii.info
      clear hcs hcc hii
      go_wp2_with (with_reducible refine stop (N := 27) rfl ?_)
      refine Stop.go ?_
      refine wpList_load_row rfl _ _ rfl g0 rfl _ cs27 (0, 0) _ HCC.out Try.underlying62 rfl HZ27.out ?_
      go_wp2_with (go_at_call 54; refine stopc ?_)
      refine Stop.go ?_
      refine (print_any (fun _ => False) cs27 { h with has := false } _ HII.out (by exact Nat.le_trans hfw.1 (by decide)) ⟨HFT.out.ses, HFT.out.cip, HFT.out.met, HFT.out.exs, HFT.out.dat, HFT.out.ver, HFT.out.knd⟩ (fun _ _ h => h)).mono ?_
      rw [← HOK.out]
      rintro e w4 ⟨v5, rfl, ho, hs⟩
      have hltw4 := hs.size
      have HB := Lib.hid (HB.out.stp0 hs)
      have H1 := Lib.hid (H1.out.stp0 hs)
      have H2 := Lib.hid (H2.out.stp0 hs)
      have H3 := Lib.hid (H3.out.stp0 hs)
      have H4 := Lib.hid (H4.out.stp0 hs)
      have HS := Lib.hid (HS.out.trans hs)
      clear hs
      clear HCC HII HZ27
      rw [← HPA.out] at ho
      have R5 := Lib.hid (ho.rd (h1 := fun _ => rfl) (M := fun k => k = g0) (fun k hk he => by have := (ho.lt k hk).1; omega))
      obtain ⟨A5, c5, rfl, hle5⟩ := R5.out.form
      clear ho
      obtain ⟨-, -, -, -, c36, c37⟩ := HB.out.cells
      have f36 := HB.out.free 36
      have hs := (Stp.refl (fun k => k = g0) w4).setg 36 (.bool true)
      have hb := HB.out.set36 true
      go_wp2_with (with_reducible refine stop (N := 33) rfl ?_)
      refine Stop.go ?_
      generalize hw : w4.setCell ⟨g0, 36, none⟩ (.bool true) = w5 at *
      clear hw c36 c37 f36
      have H1 := Lib.hid (H1.out.step hs (fun k hk he => by rw [he]; exact HNB.out))
      have H2 := Lib.hid (H2.out.step hs (fun k hk he => by rw [he]; exact HNB.out))
      have H3 := Lib.hid (H3.out.step hs (fun k hk he => by rw [he]; exact HNB.out))
      have H4 := Lib.hid (H4.out.step hs (fun k hk he => by rw [he]; exact HNB.out))
      have HS := Lib.hid (HS.out.then_ hs (fun k hk he => by rw [E0.out] at hk; omega))
      have R5 := Lib.hid (R5.out.step hs (fun k hk he => he))
      have HB := Lib.hid (show HlB w5 g0 { h with has := true } vs vc vm (.slice A4 h.exs.length c4) from hb)
      clear hs hb
      obtain ⟨cs33, hcs⟩ : ∃ cs, cs = (hlV { h with has := true } vs vc vm (.slice A4 h.exs.length c4)).toArray := ⟨_, rfl⟩
      have hcc : w5.heap[g0]? = some (.cells cs33 62 (0, 0)) := by rw [hcs]; exact HB.out.1
      have hii : IsHl (fun _ => False) w5 cs33 { h with has := true } := ⟨_, _, _, _, by rw [hcs], HRN.out, H1.out.weak (by decide) (fun _ _ h => h.elim), H2.out.weak (by decide) (fun _ _ h => h.elim), H3.out.weak (by decide) (fun _ _ h => h.elim), H4.out.weak (by decide) (fun _ _ h => h.elim)⟩
      have HCC := Lib.hid hcc
      have HII := Lib.hid hii
      have HZ33 := Lib.hid hii.info
      clear hcs hcc hii
      go_wp2_with (with_reducible refine stop (N := 33) rfl ?_)
      refine Stop.go ?_
      refine wpList_load_row rfl _ _ rfl g0 rfl _ cs33 (0, 0) _ HCC.out Try.underlying62 rfl HZ33.out ?_
      go_wp2_with (go_at_call 54; refine stopc ?_)
      refine Stop.go ?_
      refine (print_any (fun _ => False) cs33 { h with has := true } _ HII.out (by exact Nat.le_trans hfw.1 (by decide)) ⟨HFT.out.ses, HFT.out.cip, HFT.out.met, HFT.out.exs, HFT.out.dat, HFT.out.ver, HFT.out.knd⟩ (fun _ _ h => h)).mono ?_
      rw [← HOK2.out]
      rintro e w6 ⟨v7, rfl, ho, hs⟩
      have hltw6 := hs.size
      have HB := Lib.hid (HB.out.stp0 hs)
      have H1 := Lib.hid (H1.out.stp0 hs)
      have H2 := Lib.hid (H2.out.stp0 hs)
      have H3 := Lib.hid (H3.out.stp0 hs)
      have H4 := Lib.hid (H4.out.stp0 hs)
      have R5 := Lib.hid (R5.out.stp0 hs)
      have HS := Lib.hid (HS.out.trans hs)
      clear hs
      clear HCC HII HZ33
      rw [← HPB.out] at ho
      have R7 := Lib.hid (ho.rd (h1 := fun _ => rfl) (M := fun _ => False) (fun _ _ => id))
      obtain ⟨A7, c7, rfl, hle7⟩ := R7.out.form
      clear ho
      cases ok with
      | false =>
        go_wp2
        go_ret
        exact ⟨rfl, HS.out⟩
      | true =>
        have hpp1 := print_yes { h with has := false } HRN.out HOK.out.symm
        have hpp2 := print_yes { h with has := true } HRN.out HOK2.out.symm
        rw [← HPA.out] at hpp1
        rw [← HPB.out] at hpp2
        have hab : pb = pa ++ [0, 0] := by
          rw [HPA.out, HPB.out]
          refine bare_yes h HXE.out ?_
          have := HOK.out.symm
          unfold printH at this
          split at this
          · assumption
          · cases this
        have hpl : pa.length ≤ 100000 := by
          have := layS_len { h with has := false } HRN.out
          have hf2 : fewN { h with has := false } = fewN h := rfl
          rw [HPA.out]
          unfold printH
          split
          · simp only
            omega
          · simp
        have HP1 := Lib.hid hpp1
        have HP2 := Lib.hid hpp2
        have HAB := Lib.hid hab
        have HBL := Lib.hid (show pb.length = pa.length + 2 by rw [hab, List.length_append]; rfl)
        clear hpp1 hpp2 hab
        go_wp2_with (go_at_call 51; refine stopc ?_)
        refine Stop.go ?_
        refine (parseH_any _ _ pa _ R5.out (by omega)).mono ?_
        unfold ParseRet
        rw [HP1.out]
        rintro e w7 ⟨cs9, rfl, hi, hs⟩
        have hltw7 := hs.size
        have R5 := Lib.hid (R5.out.stp0 hs)
        have R7 := Lib.hid (R7.out.stp0 hs)
        have HS := Lib.hid (HS.out.trans hs)
        clear hs
        obtain ⟨hbx, heq, w8, hw, hc, hs⟩ := box_hl w7 cs9 hi.size
        rw [hlV0] at hbx heq hw
        have HBX := Lib.hid hbx
        have HEQ := Lib.hid heq
        have HW := Lib.hid hw
        have HZ9 := Lib.hid hi.info
        have HON := Lib.hid hi.one
        have HC9 := Lib.hid hc
        have HI9 := Lib.hid (hi.stp0 hs)
        have hltw8 := hs.size
        clear hbx heq hw hc
        have R5 := Lib.hid (R5.out.stp0 hs)
        have R7 := Lib.hid (R7.out.stp0 hs)
        have HS := Lib.hid (HS.out.trans hs)
        clear hs hi
        go_wp2_with (refine wpList_store_row rfl _ _ _ rfl w7.heap.size cs9 rfl rfl _ _ HBX.out HZ9.out HEQ.out HON.out ?_; rw [HW.out]; refine stopw ?_)
        refine Stop.go ?_
        clear HBX HEQ HW HON
        obtain ⟨g9, hg9⟩ : ∃ g, g = w7.heap.size := ⟨_, rfl⟩
        rw [← hg9] at HC9 ⊢
        have hge9 : w7.heap.size ≤ g9 := by omega
        clear hg9
        obtain ⟨us9, uc9, um9, ux9, hb9, -⟩ := hlb_of HI9.out HC9.out
        have HB9 := Lib.hid hb9
        clear hb9 HI9 HC9 HZ9
        go_wp2_with (go_at_call 51; refine stopc ?_)
        refine Stop.go ?_
        refine (parseH_any _ _ pb _ R7.out (by have := HBL.out; omega)).mono ?_
        unfold ParseRet
        rw [HP2.out]
        rintro e w9 ⟨cs11, rfl, hi, hs⟩
        have hltw9 := hs.size
        have R5 := Lib.hid (R5.out.stp0 hs)
        have R7 := Lib.hid (R7.out.stp0 hs)
        have HB9 := Lib.hid (HB9.out.stp0 hs)
        have HS := Lib.hid (HS.out.trans hs)
        clear hs
        obtain ⟨hbx, heq, w10, hw, hc, hs⟩ := box_hl w9 cs11 hi.size
        rw [hlV0] at hbx heq hw
        have HBX := Lib.hid hbx
        have HEQ := Lib.hid heq
        have HW := Lib.hid hw
        have HZ11 := Lib.hid hi.info
        have HON := Lib.hid hi.one
        have HC11 := Lib.hid hc
        have HI11 := Lib.hid (hi.stp0 hs)
        have hltw10 := hs.size
        clear hbx heq hw hc
        have R5 := Lib.hid (R5.out.stp0 hs)
        have R7 := Lib.hid (R7.out.stp0 hs)
        have HB9 := Lib.hid (HB9.out.stp0 hs)
        have HS := Lib.hid (HS.out.trans hs)
        clear hs hi
        go_wp2_with (refine wpList_store_row rfl _ _ _ rfl w9.heap.size cs11 rfl rfl _ _ HBX.out HZ11.out HEQ.out HON.out ?_; rw [HW.out]; refine stopw ?_)
        refine Stop.go ?_
        clear HBX HEQ HW HON
        obtain ⟨g11, hg11⟩ : ∃ g, g = w9.heap.size := ⟨_, rfl⟩
        rw [← hg11] at HC11 ⊢
        have hge11 : w9.heap.size ≤ g11 := by omega
        clear hg11
        obtain ⟨us11, uc11, um11, ux11, hb11, hx11⟩ := hlb_of HI11.out HC11.out
        obtain ⟨A11, c11, rfl, hle11⟩ := hx11.form
        have HB11 := Lib.hid hb11
        clear hb11 HI11 HC11 HZ11 hx11
        obtain ⟨-, -, -, -, d36, -⟩ := HB9.out.cells
        obtain ⟨-, -, -, -, k36, k37⟩ := HB11.out.cells
        replace d36 : w10.cell? ⟨g9, 36, none⟩ = some (.bool false) := d36
        replace k36 : w10.cell? ⟨g11, 36, none⟩ = some (.bool true) := k36
        have hx0 : h.exs.length = 0 := by rw [HXE.out]; rfl
        replace k37 : w10.cell? ⟨g11, 37, none⟩ = some (.slice A11 0 c11) := by rw [← hx0]; exact k37
        obtain ⟨hct1, hct2⟩ := cut_hi (P := Try.prog) u8 22 5 Try.underlying22 size_u8 A7 pb.length c7 pa.length (by have := HBL.out; omega) hle7
        have hcvb : ∀ n, convB (w10.drewN n) (.slice A7 pa.length c7) pa := fun n => by
          have h := conv_of ((hct2 _ _ pb R7.out).stp0 ((Stp.refl (fun _ => False) w10).drewN n))
          rw [HAB.out, List.take_left' rfl] at h
          exact h
        have hcva := fun n => conv_of (R5.out.stp0 ((Stp.refl (fun _ => False) w10).drewN n))
        have ew : IntKind.i64.wrap ((pa.length : Int) + 2) = (pa.length : Int) + 2 := IntWalk.i64_in _ (by omega)
        have el : ((pb.length : Int) == (pa.length : Int) + 2) = true := by rw [HBL.out]; simp
        clear hct2 hx0
        go_wp2_with fail
        go_quiet (fail)
        go_wp2
        go_ret
        exact ⟨rfl, HS.out.drewN _⟩
end Go.Proofs.Ytdmcmfjhlpnaeaa.L
