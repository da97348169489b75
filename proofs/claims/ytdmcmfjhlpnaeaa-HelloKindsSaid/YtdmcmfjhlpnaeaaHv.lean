/- Print. -/
import Derived.Test.YtdmcmfjhlpnaeaaHu
set_option linter.unusedVariables false
set_option linter.unusedSimpArgs false
namespace Go.Proofs.Ytdmcmfjhlpnaeaa.L
open Go.RowKit Go.Proofs

def twoB (n : Int) : Bool := decide (0 ≤ n) && decide (n ≤ 65535)
set_option maxHeartbeats 1000000 in
theorem two_any (n : Int) (w : World) : Calls Try.prog 78 #[.int .i64 n] w fun e w' => e = .returned (.bool (twoB n)) ∧ w' = w := by
  unfold twoB
  by_cases h0 : 0 ≤ n
  · go_enter Try.func78, Try.ntmps78
    go_wp2
    go_ret
    exact ⟨by simp [h0], rfl⟩
  · have h1 : n < 0 := by omega
    go_enter Try.func78, Try.ntmps78
    go_wp2
    go_ret
    exact ⟨by simp; omega, rfl⟩
def extB (x : Int × List UInt8) : Bool := twoB x.1 && decide (x.2.length ≤ 65535)
def ok1 (h : Hl) : Bool := twoB h.ver && decide (0 < h.cip.length) && decide (0 < h.met.length) && decide (h.met.length ≤ 255) && decide (wrongS h = 0) && (h.has || decide (h.exs.length = 0))
def okP (h : Hl) : Bool := ok1 h && h.cip.all twoB && h.exs.all extB && decide ((flatN h.cip).length ≤ 65535) && decide ((flatX h.exs).length ≤ 65535)
/-- What Print hands back. -/
def printH (h : Hl) : List UInt8 × Bool := if okP h = true then (layS h, true) else ([], false)

set_option maxRecDepth 100000 in
set_option maxHeartbeats 8000000 in
theorem print_any (M : Nat → Prop) (cs : Array Value) (h : Hl) (w : World) (hh : IsHl M w cs h) (hf : fewN h ≤ 400000) (hft : HlFit h) (hM : ∀ k, w.heap.size ≤ k → ¬ M k) :
    Calls Try.prog 54 #[.agg cs] w (NewB2 w (printH h).1 (printH h).2) := by
  have hcs := hh.size
  have HSM := Lib.hid (few_sm h hf)
  have HSZ := Lib.hid hh.info
  have HONE := Lib.hid hh.one
  obtain ⟨vs, vc, vm, vx, e, hr, h1, h2, h3, h4⟩ := id hh
  have ecs : cs = (hlV h vs vc vm vx).toArray := by have := congrArg List.toArray e; rwa [Array.toArray_toList] at this
  obtain ⟨A1, c1, rfl, hle1⟩ := h1.form
  obtain ⟨A2, c2, rfl, hle2⟩ := h2.form
  obtain ⟨A3, c3, rfl, hle3⟩ := h3.form
  obtain ⟨A4, c4, rfl, hle4⟩ := h4.form
  obtain ⟨R, hR⟩ : ∃ R, R = NewB2 w (printH h).1 (printH h).2 := ⟨_, rfl⟩
  rw [← hR]
  have HR := Lib.hid hR
  have HFT := Lib.hid hft
  have HM := Lib.hid hM
  have HF := Lib.hid hf
  clear hR hft hM hf
  obtain ⟨w0, hw0⟩ : ∃ w0, w0 = w.alloc (.cells cs 62) := ⟨_, rfl⟩
  have hs0 : Stp (fun _ => False) w w0 := by rw [hw0]; exact (Stp.refl _ _).alloc _
  have hc0 : w0.heap[w.heap.size]? = some (.cells cs 62 (0, 0)) := by rw [hw0]; exact heap_alloc_new w _
  have hb0 : HlB w0 w.heap.size h _ _ _ _ := ⟨by rw [hw0, ← ecs]; exact heap_alloc_new w _, hr⟩
  have HH := Lib.hid (hh.stp0 hs0)
  have H1 := Lib.hid (h1.stp0 hs0)
  have H2 := Lib.hid (h2.stp0 hs0)
  have H3 := Lib.hid (h3.stp0 hs0)
  have H4 := Lib.hid (h4.stp0 hs0)
  have HW0 := Lib.hid hw0
  obtain ⟨b0, b33, b34, b35, b36, b37⟩ := hb0.cells
  have HS0 := Lib.hid hs0
  have HC0 := Lib.hid hc0
  have HB0 := Lib.hid hb0
  clear hs0 hc0 hb0
  clear hh hw0 h1 h2 h3 h4 e hr ecs
  go_enter Try.func54, Try.ntmps54
  go_upto_region 1 with fail
  rw [← HW0.out]
  go_cut [4] (fun c wx => c = .bool (ok1 h) ∧ Stp (fun _ => False) w0 wx)
  case first =>
    go_wp2_with (go_at_call 78; refine stopc ?_)
    refine Stop.go ?_
    refine (two_any _ _).mono ?_
    rintro e wx ⟨rfl, rfl⟩
    obtain ⟨t1, ht1⟩ : ∃ t1, t1 = twoB h.ver := ⟨_, rfl⟩
    rw [← ht1]
    have HT1 := Lib.hid ht1
    clear ht1
    cases t1 with
    | false =>
      go_wp2
      go_meet
      exact ⟨by simp [ok1, ← HT1.out], Stp.refl _ _⟩
    | true =>
      by_cases z2 : 0 < h.cip.length
      · by_cases z3 : 0 < h.met.length
        · by_cases z4 : h.met.length ≤ 255
          · have z4' : decide ((h.met.length : Int) ≤ 255) = true := by rw [decide_eq_true_iff]; omega
            have Z4 := Lib.hid z4
            clear z4
            go_wp2_with (with_reducible refine stop (N := 34) rfl ?_)
            refine Stop.go ?_
            refine wpList_wanted (by kernel_rfl) (wp_load_row _ _ rfl w.heap.size rfl _ cs (0, 0) _ HC0.out Try.underlying62 rfl HSZ.out ?_)
            go_wp2_with (go_at_call 75; refine stopc ?_)
            refine Stop.go ?_
            refine (wrong_any M cs h _ HH.out HFT.out (by have := HSM.out.2.2.2.1; omega)).mono ?_
            rintro e wy ⟨rfl, hsy⟩
            obtain ⟨q, hq⟩ : ∃ q, q = wrongS h := ⟨_, rfl⟩
            rw [← hq]
            obtain ⟨b0, b33, b34, b35, b36, b37⟩ := (HB0.out.stp0 hsy).cells
            have HSY := Lib.hid hsy
            have HQ := Lib.hid hq
            clear hsy hq
            by_cases z5 : q = 0
            · subst z5
              obtain ⟨hx, hhx⟩ : ∃ b, b = h.has := ⟨_, rfl⟩
              rw [← hhx] at b36
              have HHX := Lib.hid hhx
              clear hhx
              cases hx with
              | true =>
                go_wp2
                go_meet
                exact ⟨by simp [ok1, ← HT1.out, ← HQ.out, ← HHX.out, z2, z3, Z4.out], HSY.out⟩
              | false =>
                by_cases z6 : h.exs.length = 0
                · have z6' : ((h.exs.length : Int) == 0) = true := by simp [z6]
                  have Z6 := Lib.hid z6
                  clear z6
                  go_wp2
                  go_meet
                  exact ⟨by simp [ok1, ← HT1.out, ← HQ.out, ← HHX.out, z2, z3, Z4.out, Z6.out], HSY.out⟩
                · have z6' : ((h.exs.length : Int) == 0) = false := by rw [beq_eq_false_iff_ne]; omega
                  have Z6 := Lib.hid z6
                  clear z6
                  go_wp2
                  go_meet
                  exact ⟨by simp [ok1, ← HT1.out, ← HQ.out, ← HHX.out, z2, z3, Z4.out, Z6.out], HSY.out⟩
            · have z5' : (q == 0) = false := by simpa using z5
              have HN := Lib.hid (show ¬ wrongS h = 0 by rw [← HQ.out]; exact z5)
              clear z5
              go_wp2
              go_meet
              exact ⟨by simp [ok1, HN.out], HSY.out⟩
          · have z4' : decide ((h.met.length : Int) ≤ 255) = false := by rw [decide_eq_false_iff_not]; omega
            have Z4 := Lib.hid z4
            clear z4
            go_wp2
            go_meet
            exact ⟨by simp [ok1, Z4.out], Stp.refl _ _⟩
        · go_wp2
          go_meet
          exact ⟨by simp [ok1, z3], Stp.refl _ _⟩
      · go_wp2
        go_meet
        exact ⟨by simp [ok1, z2], Stp.refl _ _⟩
  case rest =>
    obtain ⟨rfl, hsx⟩ := hcut
    obtain ⟨o1, ho1⟩ : ∃ o1, o1 = ok1 h := ⟨_, rfl⟩
    rw [← ho1]
    obtain ⟨b0, b33, b34, b35, b36, b37⟩ := (HB0.out.stp0 hsx).cells
    have HX := Lib.hid hsx
    have HO1 := Lib.hid ho1
    clear hsx ho1
    have hcl := HSM.out.2.1
    have hxl := HSM.out.2.2.2.1
    go_wp2_with fail
    go_loopw [4, 5, 51] (fun o c i wr => ∃ k : Nat, k ≤ h.cip.length ∧ o = .bool (o1 && (h.cip.take k).all twoB) ∧ i = .int .i64 k ∧ Own enc8 5 w0.heap.size wr c (flatN (h.cip.take k)) ∧ Stp (fun _ => False) w0 wr) (fun _ _ i _ => h.cip.length - (intOf i).toNat)
    case atStart => exact ⟨0, Nat.zero_le _, by simp, rfl, by simpa [flatN] using Own.nil _ _ _ _, HX.out⟩
    case round =>
      obtain ⟨k, hk, rfl, rfl, ho, hst⟩ := hrel
      obtain ⟨oo, hoo⟩ : ∃ oo, oo = (o1 && (h.cip.take k).all twoB) := ⟨_, rfl⟩
      rw [← hoo]
      have HOO := Lib.hid hoo
      have HO := Lib.hid ho
      have HTR := Lib.hid hst
      clear b0 b33 b34 b35 b36 b37 hoo ho hst
      obtain ⟨b0, b33, b34, b35, b36, b37⟩ := (HB0.out.stp0 HTR.out).cells
      by_cases hlt : k < h.cip.length
      · obtain ⟨ad, rfl, _, hcell⟩ := plain_cell (H2.out.stp0 HTR.out) k hlt
        have HTK := Lib.hid (take_snoc h.cip k hlt)
        obtain ⟨x, hxe⟩ : ∃ x, x = h.cip[k] := ⟨_, rfl⟩
        rw [← hxe] at hcell HTK
        clear hxe
        go_upto_region 6 with fail
        go_cut [4] (fun c wx => c = .bool (oo && twoB x) ∧ Stp (fun _ => False) wr wx)
        case first =>
          cases oo with
          | false =>
            go_wp2
            go_meet
            exact ⟨rfl, Stp.refl _ _⟩
          | true =>
            go_wp2_with (go_at_call 78; refine stopc ?_)
            refine Stop.go ?_
            refine (two_any _ _).mono ?_
            rintro e wx ⟨rfl, rfl⟩
            obtain ⟨t, ht⟩ : ∃ t, t = twoB x := ⟨_, rfl⟩
            rw [← ht]
            have HTT := Lib.hid ht.symm
            clear ht
            go_wp2
            go_meet
            exact ⟨by rw [HTT.out]; rfl, Stp.refl _ _⟩
        case rest =>
          obtain ⟨rfl, hsx⟩ := hcut
          have HV := Lib.hid (HO.out.stp0 hsx)
          have HTX := Lib.hid (HTR.out.trans hsx)
          clear hsx hcell HO
          go_wp2_with (go_at_call 22; refine stopc ?_)
          refine Stop.go ?_
          refine (put_any (fun _ => False) _ _ _ _ _ (HV.out.rd (h1 := fun _ => rfl) (fun _ _ => id)) (by rw [flatN_len, List.length_take]; have := HSM.out.2.1; omega)).mono ?_
          rintro e w4 ⟨v4, rfl, ho4, hs4⟩
          have HO4 := Lib.hid (show Own enc8 5 w0.heap.size w4 v4 (flatN (h.cip.take (k + 1))) by rw [HTK.out, flatN_snoc]; exact ho4.lower HTX.out.size)
          have HS4 := Lib.hid (HTX.out.trans hs4)
          clear ho4 hs4
          go_wp2
          go_roundw
          case rel => exact ⟨k + 1, by omega, by rw [HOO.out, HTK.out, List.all_append]; simp [Bool.and_assoc], by go_num, HO4.out, HS4.out⟩
          case measure => simp [intOf]; omega
      · obtain rfl : k = h.cip.length := by omega
        rw [List.take_length] at HOO HO
        obtain ⟨y4, hy4⟩ : ∃ y4, y4 = flatN h.cip := ⟨_, rfl⟩
        have hl4 : y4.length ≤ 2000000 := by rw [hy4, flatN_len]; have := HSM.out.2.1; omega
        rw [← hy4] at HO
        obtain ⟨A5, c5, rfl, hle5⟩ := HO.out.form
        have HTA := Lib.hid HTR.out
        have HOA := Lib.hid HO.out
        obtain ⟨o2, ho2⟩ : ∃ o2, o2 = oo := ⟨_, rfl⟩
        rw [← ho2] at HOO ⊢
        have HO2 := Lib.hid HOO.out
        have HY4 := Lib.hid hy4
        clear hy4
        clear ho2 HOO HO HTR hlt hk
        go_wp2_with fail
        go_loopw [4, 6, 67] (fun o c i wz => ∃ (k : Nat) (y : List UInt8), k ≤ h.exs.length ∧ o = .bool (o2 && (h.exs.take k).all extB) ∧ i = .int .i64 k ∧ y = flatX (h.exs.take k) ∧ y.length ≤ 1000006 * k ∧ Own enc8 5 w0.heap.size wz c y ∧ Stp (fun _ => False) wr wz) (fun _ _ i _ => h.exs.length - (intOf i).toNat)
        case atStart => exact ⟨0, [], Nat.zero_le _, by simp, rfl, by simp [flatX], by simp, Own.nil _ _ _ _, Stp.refl _ _⟩
        case round =>
          obtain ⟨k, y, hk, rfl, rfl, hy, hyl, ho, hst⟩ := hrel
          obtain ⟨oo, hoo⟩ : ∃ oo, oo = (o2 && (h.exs.take k).all extB) := ⟨_, rfl⟩
          rw [← hoo]
          have HOO := Lib.hid hoo
          have HO := Lib.hid ho
          have HST := Lib.hid hst
          have HTR := Lib.hid (HTA.out.trans hst)
          clear b0 b33 b34 b35 b36 b37 hoo ho hst
          obtain ⟨b0, b33, b34, b35, b36, b37⟩ := (HB0.out.stp0 HTR.out).cells
          have HY := Lib.hid hy
          clear hy
          by_cases hlt : k < h.exs.length
          · obtain ⟨ad, v, rfl, hnM, hcell1, hcell2, hv⟩ := ext_cell (H4.out.stp0 HTR.out) k hlt
            have HTK := Lib.hid (take_snoc h.exs k hlt)
            have hdl := HSM.out.2.2.2.2 _ (List.getElem_mem hlt)
            obtain ⟨x, hxe⟩ : ∃ x, x = h.exs[k] := ⟨_, rfl⟩
            rw [← hxe] at hcell1 HTK hv hdl
            obtain ⟨Av, cv, rfl, hlev⟩ := hv.form
            have HV := Lib.hid (hv.weak (M' := fun _ => False) (by decide) (fun _ _ h => h.elim))
            clear hxe hv hnM
            go_upto_region 12 with fail
            obtain ⟨wa, hwa⟩ : ∃ wa, wa = wr.alloc (.cells #[.int .i64 x.1, .slice Av x.2.length cv] 70) := ⟨_, rfl⟩
            have hca : wa.heap[wr.heap.size]? = some (.cells #[.int .i64 x.1, .slice Av x.2.length cv] 70 (0, 0)) := by rw [hwa]; exact heap_alloc_new wr _
            have hsa : Stp (fun _ => False) wr wa := by rw [hwa]; exact (Stp.refl _ _).alloc _
            rw [← hwa]
            have d0 := blk_cell (j := 0) hca
            have d1 := blk_cell (j := 1) hca
            have HCA := Lib.hid hca
            have HSA := Lib.hid hsa
            clear hwa hca hsa b0 b33 b34 b35 b36 b37 hcell1 hcell2
            go_cut [4] (fun c wx => c = .bool (oo && extB x) ∧ Stp (fun _ => False) wa wx)
            case first =>
              cases oo with
              | false =>
                go_wp2
                go_meet
                exact ⟨rfl, Stp.refl _ _⟩
              | true =>
                go_wp2_with (go_at_call 78; refine stopc ?_)
                refine Stop.go ?_
                refine (two_any _ _).mono ?_
                rintro e wx ⟨rfl, rfl⟩
                obtain ⟨t, ht⟩ : ∃ t, t = twoB x.1 := ⟨_, rfl⟩
                rw [← ht]
                have HTT := Lib.hid ht.symm
                clear ht
                cases t with
                | false =>
                  go_wp2
                  go_meet
                  exact ⟨by simp [extB, HTT.out], Stp.refl _ _⟩
                | true =>
                  obtain ⟨t2, ht2⟩ : ∃ t2, t2 = decide ((x.2.length : Int) ≤ 65535) := ⟨_, rfl⟩
                  have HT2 := Lib.hid (show extB x = t2 by rw [ht2]; unfold extB; rw [HTT.out, Bool.true_and, decide_eq_decide]; omega)
                  cases t2 with
                  | true =>
                    have z := ht2.symm
                    clear ht2
                    go_wp2
                    go_meet
                    exact ⟨by rw [HT2.out]; rfl, Stp.refl _ _⟩
                  | false =>
                    have z := ht2.symm
                    clear ht2
                    go_wp2
                    go_meet
                    exact ⟨by rw [HT2.out]; rfl, Stp.refl _ _⟩
            case rest =>
              obtain ⟨rfl, hsx⟩ := hcut
              have HTX := Lib.hid (HTR.out.trans (HSA.out.trans hsx))
              have HSX := Lib.hid (HST.out.trans (HSA.out.trans hsx))
              have HOX := Lib.hid (HO.out.stp0 (HSA.out.trans hsx))
              have HVX := Lib.hid (HV.out.stp0 (HSA.out.trans hsx))
              have hcx := hsx.blk HCA.out id
              have d0 := blk_cell (j := 0) hcx
              have HCX := Lib.hid hcx
              clear hsx hcx d0 d1 HO HV HST HTR HCA HSA
              have d0 := blk_cell (j := 0) HCX.out
              go_wp2_with (go_at_call 22; refine stopc ?_)
              refine Stop.go ?_
              refine (put_any (fun _ => False) _ y _ _ _ (HOX.out.rd (h1 := fun _ => rfl) (fun _ _ => id)) (by omega)).mono ?_
              rintro e w7 ⟨v7, rfl, ho7, hs7⟩
              obtain ⟨y7, hy7⟩ : ∃ y7, y7 = y ++ be x.1 2 := ⟨_, rfl⟩
              have ho7' : Own enc8 5 w0.heap.size w7 v7 y7 := by rw [hy7]; exact ho7.lower HTX.out.size
              have hl7 : y7.length = y.length + 2 := by rw [hy7, List.length_append, be_len]
              have HO7 := Lib.hid ho7'
              have HT7 := Lib.hid (HTX.out.trans hs7)
              have HS7 := Lib.hid (HSX.out.trans hs7)
              have HV7 := Lib.hid (HVX.out.stp0 hs7)
              have d1 := blk_cell (j := 1) (hs7.blk HCX.out id)
              have HY7 := Lib.hid hy7
              clear hy7
              clear ho7 ho7' hs7 HOX HVX HSX HTX d0
              go_wp2_with (go_at_call 23; refine stopc ?_)
              refine Stop.go ?_
              refine (vec_any (fun _ => False) _ _ y7 _ _ _ (HO7.out.rd (h1 := fun _ => rfl) (fun _ _ => id)) HV7.out (by omega)).mono ?_
              rintro e w8 ⟨v8, rfl, ho8, hs8⟩
              obtain ⟨y8, hy8⟩ : ∃ y8, y8 = (vecB y7 2 x.2).1 := ⟨_, rfl⟩
              obtain ⟨o8, ho8'⟩ : ∃ o8, o8 = (vecB y7 2 x.2).2 := ⟨_, rfl⟩
              rw [← hy8] at ho8
              rw [← ho8']
              have hye : y8 = y ++ xOne x := by rw [hy8, HY7.out, vecB_app]; rfl
              have hl8 : y8.length ≤ 1000006 * (k + 1) := by
                have := xOne_len x
                rw [hye, List.length_append]
                omega
              have HO8 := Lib.hid (ho8.lower HT7.out.size)
              have HS8 := Lib.hid (HS7.out.trans hs8)
              have HYE := Lib.hid (show y8 = flatX (h.exs.take (k + 1)) by rw [hye, HTK.out, flatX_snoc, HY.out])
              clear ho8 ho8' hs8 hy8 hye
              go_wp2
              go_roundw
              case rel => exact ⟨k + 1, y8, by omega, by rw [HOO.out, HTK.out, List.all_append]; simp [Bool.and_assoc], by go_num, HYE.out, hl8, HO8.out, HS8.out⟩
              case measure => simp [intOf]; omega
          · obtain rfl : k = h.exs.length := by omega
            rw [List.take_length] at HOO HY
            have HOK := Lib.hid (show okP h = (oo && decide (y4.length ≤ 65535) && decide (y.length ≤ 65535)) by unfold okP; rw [HOO.out, HO2.out, HO1.out, HY4.out, HY.out])
            have HOB := Lib.hid (HOA.out.stp0 HST.out)
            obtain ⟨A6, c6, rfl, hle6⟩ := HO.out.form
            have HYX := Lib.hid HY.out
            clear HOO HO2 HO1 HOA HST HTA HY
            have HTW := Lib.hid (HS0.out.trans HTR.out)
            cases oo with
            | false =>
              have hp : printH h = ([], false) := by unfold printH; rw [HOK.out]; rfl
              have HP := Lib.hid hp
              clear hp
              go_wp2
              rw [HR.out]
              exact ⟨_, by rw [HP.out]; rfl, by rw [HP.out]; exact Own.nil _ _ _ _, HTW.out⟩
            | true =>
              obtain ⟨t2, ht2⟩ : ∃ t2, t2 = decide (65535 < (y4.length : Int)) := ⟨_, rfl⟩
              have HT2 := Lib.hid (show decide (y4.length ≤ 65535) = !t2 by rw [ht2, ← decide_not, decide_eq_decide]; omega)
              have z2 := ht2.symm
              clear ht2
              cases t2 with
              | true =>
                have hp : printH h = ([], false) := by unfold printH; rw [HOK.out, HT2.out]; rfl
                have HP := Lib.hid hp
                clear hp
                go_wp2
                rw [HR.out]
                exact ⟨_, by rw [HP.out]; rfl, by rw [HP.out]; exact Own.nil _ _ _ _, HTW.out⟩
              | false =>
                obtain ⟨t3, ht3⟩ : ∃ t3, t3 = decide (65535 < (y.length : Int)) := ⟨_, rfl⟩
                have HT3 := Lib.hid (show decide (y.length ≤ 65535) = !t3 by rw [ht3, ← decide_not, decide_eq_decide]; omega)
                have z3 := ht3.symm
                clear ht3
                cases t3 with
                | true =>
                  have hp : printH h = ([], false) := by unfold printH; rw [HOK.out, HT2.out, HT3.out]; rfl
                  have HP := Lib.hid hp
                  clear hp
                  go_wp2
                  rw [HR.out]
                  exact ⟨_, by rw [HP.out]; rfl, by rw [HP.out]; exact Own.nil _ _ _ _, HTW.out⟩
                | false =>
                  have hp : printH h = (layS h, true) := by unfold printH; rw [HOK.out, HT2.out, HT3.out]; rfl
                  have HP := Lib.hid hp
                  clear hp
                  go_wp2_with fail
                  refine wp_region_held_drew (S := (fun w' => w'.cell? ⟨w.heap.size, 0, none⟩ = some (.int .i64 h.ver))) (by kernel_rfl) (b0) (fun hHeld => ?_)
                  try (change wpAnyH _ _ _ _ _ _ _ _ (World.drew _))
                  refine rg_take (i := 0) (o := { dst := some 107, op := Op.fieldAddr 62 (Operand.tmp 1) 0, type := 0, pos := "hello.go:105", after := #[], guard := none }) (v := ?rgv1) rfl (by kernel_rfl) (by kernel_rfl) (by kernel_rfl) (fun _ _ _ h => h) (by rfl) (fun w hSw => ?rgy1) hHeld ?_
                  case rgy1 => (try dsimp only at hSw); first | (go_simp; done) | (go_simp; with_reducible rfl)
                  try simp only [Act.put, List.setIfInBounds_toArray, List.set_cons_zero, List.set_cons_succ]
                  refine rg_take (i := 1) (o := { dst := some 108, op := Op.load 3 (Operand.tmp 107), type := 3, pos := "hello.go:105", after := #[{ on := 0, ground := Ground.data }], guard := none }) (v := ?rgv2) rfl (by kernel_rfl) (by kernel_rfl) (by kernel_rfl) (fun _ _ _ h => h) (by rfl) (fun w hSw => ?rgy2) hHeld ?_
                  case rgy2 => (try dsimp only at hSw); first | (go_simp; done) | (go_simp; with_reducible rfl)
                  try simp only [Act.put, List.setIfInBounds_toArray, List.set_cons_zero, List.set_cons_succ]
                  refine rg_take (i := 3) (o := { dst := some 110, op := Op.fieldAddr 62 (Operand.tmp 1) 1, type := 0, pos := "hello.go:105", after := #[], guard := none }) (v := ?rgv3) rfl (by kernel_rfl) (by kernel_rfl) (by kernel_rfl) (fun _ _ _ h => h) (by rfl) (fun w hSw => ?rgy3) hHeld ?_
                  case rgy3 => (try dsimp only at hSw); first | (go_simp; done) | (go_simp; with_reducible rfl)
                  try simp only [Act.put, List.setIfInBounds_toArray, List.set_cons_zero, List.set_cons_succ]
                  refine rg_take (i := 4) (o := { dst := some 111, op := Op.slice 59 (Operand.tmp 110) none none none, type := 22, pos := "hello.go:105", after := #[{ on := 3, ground := Ground.data }], guard := none }) (v := ?rgv4) rfl (by kernel_rfl) (by kernel_rfl) (by kernel_rfl) (fun _ _ _ h => h) (by rfl) (fun w hSw => ?rgy4) hHeld ?_
                  case rgy4 => (try dsimp only at hSw); first | (go_simp; done) | (go_simp; with_reducible rfl)
                  try simp only [Act.put, List.setIfInBounds_toArray, List.set_cons_zero, List.set_cons_succ]
                  refine wpAnyH_ready (rs := [2]) (by kernel_rfl) (by simp) ?_
                  refine (AllReadyH.cons (o := { dst := some 109, op := Op.call { callee := Callee.value (Operand.func 22), args := #[Operand.const (Value.slice none 0 0), Operand.tmp 108, Operand.const (Value.int IntKind.i64 2)], argTypes := #[22, 3, 3] }, type := 22, pos := "hello.go:105", after := #[{ on := 1, ground := Ground.data }], guard := none }) rfl (fun K hK => ?_) AllReadyH.nil)
                  go_simp
                  refine (put_any (fun _ => False) _ [] _ _ _ (Rd.nil _ _ _) (by simp)).mono ?_
                  rintro e wu ⟨v1, rfl, ho1, hs1⟩
                  replace hs1 := ((Stp.refl (fun _ => False) wr).drew).trans hs1
                  have HU1 := Lib.hid (show Own enc8 5 w0.heap.size wu v1 (be h.ver 2) from ho1.lower HTR.out.size)
                  have HU0 := Lib.hid (show Own enc8 5 wr.heap.size wu v1 (be h.ver 2) from ho1)
                  have HTU := Lib.hid (HTR.out.trans hs1)
                  have HVB := Lib.hid (HOB.out.stp0 hs1)
                  have HVC := Lib.hid (HO.out.stp0 hs1)
                  have hcc := hs1.cell b0 id
                  clear ho1 hs1
                  show K _ _
                  clear hHeld
                  refine hK.out _ _ (hcc) (fun hHeld => ?_)
                  clear hK K
                  try simp only [Act.put, List.setIfInBounds_toArray, List.set_cons_zero, List.set_cons_succ]
                  refine wpAnyH_ready (rs := [5]) (by kernel_rfl) (by simp) ?_
                  refine (AllReadyH.cons (o := { dst := some 112, op := Op.call { callee := Callee.builtin Builtin.append, args := #[Operand.tmp 109, Operand.tmp 111], argTypes := #[22, 22] }, type := 22, pos := "hello.go:105", after := #[{ on := 2, ground := Ground.data }, { on := 4, ground := Ground.data }, { on := 2, ground := Ground.chain }], guard := none }) rfl (fun K hK => ?_) AllReadyH.nil)
                  refine op_appendRd enc8 (h1e := fun _ => rfl) _ _ _ (by rfl) Try.underlying22 info_u8 (by rfl) (M := fun _ => False) HU1.out (cells_rnd (HB0.out.stp0 HTU.out) id) (by rfl) (by rfl) (by rw [be_len, HB0.out.2]; decide) (by rw [be_len, HB0.out.2]; decide) HTU.out.size ?_
                  intro v2 wv ho2 hg2
                  have hcv := (HTU.out.own HU1.out hg2).cell HB0.out.cells.1 id
                  show K _ _
                  clear hHeld
                  refine hK.out _ _ (hcv) (fun hHeld => ?_)
                  clear hK K
                  try simp only [Act.put, List.setIfInBounds_toArray, List.set_cons_zero, List.set_cons_succ]
                  refine rg_take (i := 6) (o := { dst := some 11, op := Op.assign (Operand.tmp 112), type := 22, pos := "hello.go:105", after := #[{ on := 5, ground := Ground.data }, { on := 5, ground := Ground.chain }, { on := 0, ground := Ground.phase }, { on := 1, ground := Ground.phase }, { on := 2, ground := Ground.phase }, { on := 3, ground := Ground.phase }, { on := 4, ground := Ground.phase }, { on := 5, ground := Ground.phase }], guard := none }) (v := ?rgv5) rfl (by kernel_rfl) (by kernel_rfl) (by kernel_rfl) (fun _ _ _ h => h) (by rfl) (fun w hSw => ?rgy5) hHeld ?_
                  case rgy5 => (try dsimp only at hSw); first | (go_simp; done) | (go_simp; with_reducible rfl)
                  try simp only [Act.put, List.setIfInBounds_toArray, List.set_cons_zero, List.set_cons_succ]
                  clear hHeld
                  refine wpAnyH_done (by kernel_rfl) ?_ _
                  skip
                  have hs2 := (Stp.refl (fun k => wr.heap.size ≤ k) wu).grown hg2 (fun k hk he => (HU0.out.lt k hk).1)
                  have HO2 := Lib.hid ho2
                  have HT2 := Lib.hid (HTU.out.own HU1.out hg2)
                  have HBV := Lib.hid (HVB.out.step hs2 (fun k hk hS => by have := (HOB.out.lt k hk).2; omega))
                  have HBW := Lib.hid (HVC.out.step hs2 (fun k hk hS => by have := (HO.out.lt k hk).2; omega))
                  clear hs2 ho2 hg2 hcc hcv HVB HVC HU0 HU1 HTU b0 b33 b34 b35 b36 b37 HOB HO
                  obtain ⟨b0, b33, b34, b35, b36, b37⟩ := (HB0.out.stp0 HT2.out).cells
                  go_wp2_with (go_at_call 23; refine stopc ?_)
                  refine Stop.go ?_
                  refine (vec_any (fun _ => False) _ _ _ _ _ _ (HO2.out.rd (h1 := fun _ => rfl) (fun _ _ => id)) ((H1.out.stp0 HT2.out).weak (by decide) (fun _ _ h => h.elim)) (by rw [List.length_append, be_len, HB0.out.2]; have := HSM.out.1; omega)).mono ?_
                  rintro e w3 ⟨v3, rfl, ho3, hs3⟩
                  obtain ⟨y3, hy3⟩ : ∃ y3, y3 = (vecB (be h.ver 2 ++ h.rnd) 1 h.ses).1 := ⟨_, rfl⟩
                  obtain ⟨o3, ho3'⟩ : ∃ o3, o3 = (vecB (be h.ver 2 ++ h.rnd) 1 h.ses).2 := ⟨_, rfl⟩
                  rw [← hy3] at ho3
                  rw [← ho3']
                  have hl3 : y3.length ≤ 1000100 := by
                    have := vecB_len (be h.ver 2 ++ h.rnd) 1 h.ses
                    rw [← hy3, List.length_append, be_len, HB0.out.2] at this
                    have := HSM.out.1
                    omega
                  have HO3 := Lib.hid (ho3.lower HT2.out.size)
                  have HT3 := Lib.hid (HT2.out.trans hs3)
                  have HBV := Lib.hid (HBV.out.stp0 hs3)
                  have HBW := Lib.hid (HBW.out.stp0 hs3)
                  have HY3 := Lib.hid hy3
                  clear hy3
                  clear ho3 ho3' hs3 b0 b33 b34 b35 b36 b37 HO2 HT2
                  obtain ⟨b0, b33, b34, b35, b36, b37⟩ := (HB0.out.stp0 HT3.out).cells
                  go_wp2_with (go_at_call 23; refine stopc ?_)
                  refine Stop.go ?_
                  refine (vec_any (fun _ => False) _ _ y3 y4 _ _ (HO3.out.rd (h1 := fun _ => rfl) (fun _ _ => id)) (HBV.out.rd (h1 := fun _ => rfl) (fun _ _ => id)) (by omega)).mono ?_
                  rintro e w5 ⟨v5, rfl, ho5, hs5⟩
                  obtain ⟨y5, hy5⟩ : ∃ y5, y5 = (vecB y3 2 y4).1 := ⟨_, rfl⟩
                  obtain ⟨o5, ho5'⟩ : ∃ o5, o5 = (vecB y3 2 y4).2 := ⟨_, rfl⟩
                  rw [← hy5] at ho5
                  rw [← ho5']
                  have hl5 : y5.length ≤ 4000000 := by
                    have := vecB_len y3 2 y4
                    rw [← hy5] at this
                    omega
                  have HO5 := Lib.hid (ho5.lower HT3.out.size)
                  have HT5 := Lib.hid (HT3.out.trans hs5)
                  have HBW := Lib.hid (HBW.out.stp0 hs5)
                  have HY5 := Lib.hid hy5
                  clear hy5
                  clear ho5 ho5' hs5 b0 b33 b34 b35 b36 b37 HO3 HT3
                  obtain ⟨b0, b33, b34, b35, b36, b37⟩ := (HB0.out.stp0 HT5.out).cells
                  go_wp2_with (go_at_call 23; refine stopc ?_)
                  refine Stop.go ?_
                  refine (vec_any (fun _ => False) _ _ y5 _ _ _ (HO5.out.rd (h1 := fun _ => rfl) (fun _ _ => id)) ((H3.out.stp0 HT5.out).weak (by decide) (fun _ _ h => h.elim)) (by have := HSM.out.2.2.1; omega)).mono ?_
                  rintro e w6 ⟨v6, rfl, ho6, hs6⟩
                  obtain ⟨y6, hy6⟩ : ∃ y6, y6 = (vecB y5 1 h.met).1 := ⟨_, rfl⟩
                  obtain ⟨o6, ho6'⟩ : ∃ o6, o6 = (vecB y5 1 h.met).2 := ⟨_, rfl⟩
                  rw [← hy6] at ho6
                  rw [← ho6']
                  have hl6 : y6.length ≤ 6000000 := by
                    have := vecB_len y5 1 h.met
                    rw [← hy6] at this
                    have := HSM.out.2.2.1
                    omega
                  have HO6 := Lib.hid (ho6.lower HT5.out.size)
                  have HT6 := Lib.hid (HT5.out.trans hs6)
                  have HBW := Lib.hid (HBW.out.stp0 hs6)
                  have HY6 := Lib.hid (show y6 = layA h by rw [hy6, HY5.out, HY4.out, HY3.out]; rfl)
                  clear ho6 ho6' hs6 hy6 HO5 HT5 HY5 HY4 HY3 b0 b33 b34 b35 b36 b37
                  obtain ⟨b0, b33, b34, b35, b36, b37⟩ := (HB0.out.stp0 HT6.out).cells
                  obtain ⟨hx, hhx⟩ : ∃ b, b = h.has := ⟨_, rfl⟩
                  rw [← hhx] at b36
                  cases hx with
                  | false =>
                    have HL := Lib.hid (show layS h = y6 by unfold layS; rw [← hhx, HY6.out]; rfl)
                    clear hhx
                    go_wp2
                    rw [HR.out]
                    exact ⟨_, by rw [HP.out]; rfl, by rw [HP.out, HL.out]; exact HO6.out.lower HS0.out.size, HS0.out.trans HT6.out⟩
                  | true =>
                    have HL := Lib.hid (show layS h = (vecB y6 2 (flatX h.exs)).1 by unfold layS; rw [← hhx, HY6.out]; rfl)
                    clear hhx
                    go_wp2_with (go_at_call 23; refine stopc ?_)
                    refine Stop.go ?_
                    refine (vec_any (fun _ => False) _ _ y6 y _ _ (HO6.out.rd (h1 := fun _ => rfl) (fun _ _ => id)) (HBW.out.rd (h1 := fun _ => rfl) (fun _ _ => id)) (by omega)).mono ?_
                    rintro e w9 ⟨v9, rfl, ho9, hs9⟩
                    obtain ⟨o9, ho9'⟩ : ∃ o9, o9 = (vecB y6 2 y).2 := ⟨_, rfl⟩
                    rw [← ho9']
                    have HO9 := Lib.hid (show Own enc8 5 w.heap.size w9 v9 (layS h) by rw [HL.out, ← HYX.out]; exact ho9.lower (Nat.le_trans HS0.out.size HT6.out.size))
                    have HT9 := Lib.hid (HS0.out.trans (HT6.out.trans hs9))
                    clear ho9 ho9' hs9
                    go_wp2
                    rw [HR.out]
                    exact ⟨_, by rw [HP.out]; rfl, by rw [HP.out]; exact HO9.out, HT9.out⟩
end Go.Proofs.Ytdmcmfjhlpnaeaa.L
