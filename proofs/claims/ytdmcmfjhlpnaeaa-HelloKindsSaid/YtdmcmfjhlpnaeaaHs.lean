/- The document's own lay. -/
import Derived.Test.YtdmcmfjhlpnaeaaHr
set_option linter.unusedVariables false
set_option linter.unusedSimpArgs false
namespace Go.Proofs.Ytdmcmfjhlpnaeaa.L
open Go.RowKit Go.Proofs

def xOne (x : Int × List UInt8) : List UInt8 := (vecB (be x.1 2) 2 x.2).1
def flatX (l : List (Int × List UInt8)) : List UInt8 := (l.map xOne).flatten
def layA (h : Hl) : List UInt8 := (vecB (vecB (vecB (be h.ver 2 ++ h.rnd) 1 h.ses).1 2 (flatN h.cip)).1 1 h.met).1
def layS (h : Hl) : List UInt8 := if h.has = true then (vecB (layA h) 2 (flatX h.exs)).1 else layA h
theorem vecB_app (a b : List UInt8) (s : Int) (x : List UInt8) : (vecB (a ++ b) s x).1 = a ++ (vecB b s x).1 := by
  unfold vecB
  split <;> simp
theorem vecB_len (a : List UInt8) (s : Int) (x : List UInt8) : (vecB a s x).1.length ≤ a.length + 4 + x.length := by
  obtain ⟨h1, h4⟩ := clampN_le s
  unfold vecB
  split <;> simp [be_len] <;> omega
theorem flatX_snoc (l : List (Int × List UInt8)) (x : Int × List UInt8) : flatX (l ++ [x]) = flatX l ++ xOne x := by simp [flatX]
theorem xOne_len (x : Int × List UInt8) : (xOne x).length ≤ 6 + x.2.length := by
  have := vecB_len (be x.1 2) 2 x.2
  simp only [be_len] at this
  unfold xOne
  omega
/-- None of a hello's parts is great. -/
def HlSm (h : Hl) : Prop := h.ses.length ≤ 1000000 ∧ h.cip.length ≤ 1000000 ∧ h.met.length ≤ 1000000 ∧ h.exs.length ≤ 1000000 ∧ ∀ x ∈ h.exs, x.2.length ≤ 1000000
theorem cells_rnd {M : Nat → Prop} {W : World} {g : Nat} {h : Hl} {vs vc vm vx : Value} (hb : HlB W g h vs vc vm vx) (hM : ¬ M g) : Rd u8 M W (.slice (some ⟨g, 1, none⟩) 32 32) h.rnd := by
  refine ⟨some ⟨g, 1, none⟩, 32, by rw [hb.2], by rw [hb.2]; exact Nat.le_refl _, by decide, fun _ => ⟨_, rfl, hM, fun j p hj => ⟨[enc8 p], rfl, ?_⟩⟩⟩
  intro i u hu
  have hjl : j < 32 := by
    have := (List.getElem?_eq_some_iff.1 hj).1
    rw [hb.2] at this
    exact this
  cases i with
  | succ i => simp at hu
  | zero =>
    simp at hu
    subst hu
    have e : (⟨g, 1, none⟩ : Addr).add (j * 1 + 0) = ⟨g, 1 + j, none⟩ := by unfold Addr.add; simp
    show W.cell? ((⟨g, 1, none⟩ : Addr).add (j * 1 + 0)) = _
    rw [e, blk_cell hb.1, List.getElem?_toArray, Nat.add_comm 1 j]
    have hj' : j < h.rnd.length := by rw [hb.2]; exact hjl
    have hje : h.rnd[j] = p := (List.getElem?_eq_some_iff.1 hj).2
    simp [hlV, List.getElem?_append, hj', hje]

set_option maxRecDepth 100000 in
set_option maxHeartbeats 8000000 in
theorem layR_any (M : Nat → Prop) (cs : Array Value) (h : Hl) (w : World) (hh : IsHl M w cs h) (hf : HlSm h) :
    Calls Try.prog 79 #[.agg cs] w (NewB w (layS h)) := by
  obtain ⟨f1, f2, f3, f4, f5⟩ := hf
  have hcs := hh.size
  obtain ⟨vs, vc, vm, vx, e, hr, h1, h2, h3, h4⟩ := hh
  have ecs : cs = (hlV h vs vc vm vx).toArray := by have := congrArg List.toArray e; rwa [Array.toArray_toList] at this
  obtain ⟨A1, c1, rfl, hle1⟩ := h1.form
  obtain ⟨A2, c2, rfl, hle2⟩ := h2.form
  obtain ⟨A3, c3, rfl, hle3⟩ := h3.form
  obtain ⟨A4, c4, rfl, hle4⟩ := h4.form
  obtain ⟨R, hR⟩ : ∃ R, R = NewB w (layS h) := ⟨_, rfl⟩
  rw [← hR]
  have HR := Lib.hid hR
  have F5 := Lib.hid f5
  have hs0 : Stp (fun _ => False) w (w.alloc (.cells cs 62)) := (Stp.refl _ _).alloc _
  have hb0 : HlB (w.alloc (.cells cs 62)) w.heap.size h _ _ _ _ := ⟨by rw [← ecs]; exact heap_alloc_new w _, hr⟩
  have H1 := Lib.hid (h1.stp0 hs0)
  have H2 := Lib.hid (h2.stp0 hs0)
  have H3 := Lib.hid (h3.stp0 hs0)
  have H4 := Lib.hid (h4.stp0 hs0)
  obtain ⟨b0, b33, b34, b35, b36, b37⟩ := hb0.cells
  have HB0 := Lib.hid hb0
  have HS0 := Lib.hid hs0
  clear e hr h1 h2 h3 h4 f5 ecs hR hb0 hs0
  go_enter Try.func79, Try.ntmps79
  go_wp2_with (go_at_call 25; refine stopc ?_)
  refine Stop.go ?_
  generalize hw0 : w.alloc (.cells cs 62) = w0 at *
  clear hw0 hcs
  refine (putR_any (fun _ => False) _ [] _ _ _ (Rd.nil _ _ _) (by simp)).mono ?_
  rintro e w1 ⟨v1, rfl, ho1, hs1⟩
  have hg0 := HB0.out.lt
  have HO1 := Lib.hid (show Own enc8 5 w0.heap.size w1 v1 (be h.ver 2) from ho1)
  have HT1 := Lib.hid hs1
  clear ho1 hs1 b0 b33 b34 b35 b36 b37
  go_wp2_with (with_reducible refine stop (N := 14) rfl ?_)
  refine Stop.go ?_
  refine wp_appendRd enc8 (h1e := fun _ => rfl) rfl _ _ _ rfl Try.underlying22 info_u8 rfl (M := fun _ => False) HO1.out (cells_rnd (HB0.out.stp0 HT1.out) id) rfl rfl (by rw [be_len, HB0.out.2]; decide) (by rw [be_len, HB0.out.2]; decide) HT1.out.size ?_
  intro v2 w2 ho2 hg2
  have HO2 := Lib.hid ho2
  have HT2 := Lib.hid (HT1.out.own HO1.out hg2)
  have hb2 := HB0.out.stp0 HT2.out
  obtain ⟨b0, b33, b34, b35, b36, b37⟩ := hb2.cells
  clear ho2 hg2 hb2 HO1 HT1
  go_wp2_with (go_at_call 24; refine stopc ?_)
  refine Stop.go ?_
  refine (vecR_any (fun _ => False) _ _ _ _ _ _ (HO2.out.rd (h1 := fun _ => rfl) (fun _ _ => id)) ((H1.out.stp0 HT2.out).weak (by decide) (fun _ _ h => h.elim)) (by rw [List.length_append, be_len, HB0.out.2]; omega)).mono ?_
  rintro e w3 ⟨v3, rfl, ho3, hs3⟩
  obtain ⟨y3, hy3⟩ : ∃ y3, y3 = (vecB (be h.ver 2 ++ h.rnd) 1 h.ses).1 := ⟨_, rfl⟩
  rw [← hy3] at ho3
  have hl3 : y3.length ≤ 1000100 := by
    have := vecB_len (be h.ver 2 ++ h.rnd) 1 h.ses
    rw [← hy3, List.length_append, be_len, HB0.out.2] at this
    omega
  have HO3 := Lib.hid (ho3.lower HT2.out.size)
  have HT3 := Lib.hid (HT2.out.trans hs3)
  obtain ⟨A5, c5, rfl, hle5⟩ := HO3.out.form
  have HY3 := Lib.hid hy3
  clear hy3
  clear ho3 hs3 b0 b33 b34 b35 b36 b37 HO2 HT2
  go_wp2_with fail
  go_loopw [4, 5] (fun o i wr => ∃ k : Nat, k ≤ h.cip.length ∧ i = .int .i64 k ∧ Own enc8 5 w0.heap.size wr o (flatN (h.cip.take k)) ∧ Stp (fun _ => False) w3 wr) (fun _ i _ => h.cip.length - (intOf i).toNat)
  case atStart => exact ⟨0, Nat.zero_le _, rfl, by simpa [flatN] using Own.nil _ _ _ _, Stp.refl _ _⟩
  case round =>
    obtain ⟨k, hk, rfl, ho, hst⟩ := hrel
    have HO := Lib.hid ho
    have HST := Lib.hid hst
    have HTR := Lib.hid (HT3.out.trans hst)
    obtain ⟨b0, b33, b34, b35, b36, b37⟩ := (HB0.out.stp0 HTR.out).cells
    clear ho hst
    by_cases hlt : k < h.cip.length
    · obtain ⟨ad, rfl, _, hcell⟩ := plain_cell (H2.out.stp0 HTR.out) k hlt
      have HTK := Lib.hid (take_snoc h.cip k hlt)
      obtain ⟨x, hxe⟩ : ∃ x, x = h.cip[k] := ⟨_, rfl⟩
      rw [← hxe] at hcell HTK
      clear hxe
      go_wp2_with (go_at_call 25; refine stopc ?_)
      refine Stop.go ?_
      refine (putR_any (fun _ => False) _ _ _ _ _ (HO.out.rd (h1 := fun _ => rfl) (fun _ _ => id)) (by rw [flatN_len, List.length_take]; omega)).mono ?_
      rintro e w4 ⟨v4, rfl, ho4, hs4⟩
      have HO4 := Lib.hid (show Own enc8 5 w0.heap.size w4 v4 (flatN (h.cip.take (k + 1))) by rw [HTK.out, flatN_snoc]; exact ho4.lower HTR.out.size)
      have HS4 := Lib.hid (HST.out.trans hs4)
      clear ho4 hs4
      go_wp2
      go_roundw
      case rel => exact ⟨k + 1, by omega, by go_num, HO4.out, HS4.out⟩
      case measure => simp [intOf]; omega
    · obtain rfl : k = h.cip.length := by omega
      rw [List.take_length] at HO
      obtain ⟨y4, hy4⟩ : ∃ y4, y4 = flatN h.cip := ⟨_, rfl⟩
      have hl4 : y4.length ≤ 2000000 := by rw [hy4, flatN_len]; omega
      rw [← hy4] at HO
      have HY4 := Lib.hid hy4
      clear hy4
      go_wp2_with (go_at_call 24; refine stopc ?_)
      refine Stop.go ?_
      refine (vecR_any (fun _ => False) _ _ y3 y4 _ _ ((HO3.out.stp0 HST.out).rd (h1 := fun _ => rfl) (fun _ _ => id)) (HO.out.rd (h1 := fun _ => rfl) (fun _ _ => id)) (by omega)).mono ?_
      rintro e w5 ⟨v5, rfl, ho5, hs5⟩
      obtain ⟨y5, hy5⟩ : ∃ y5, y5 = (vecB y3 2 y4).1 := ⟨_, rfl⟩
      rw [← hy5] at ho5
      have hl5 : y5.length ≤ 4000000 := by
        have := vecB_len y3 2 y4
        rw [← hy5] at this
        omega
      have HO5 := Lib.hid (ho5.lower HTR.out.size)
      have HT5 := Lib.hid (HTR.out.trans hs5)
      obtain ⟨A6, c6, rfl, hle6⟩ := HO5.out.form
      obtain ⟨b0, b33, b34, b35, b36, b37⟩ := (HB0.out.stp0 HT5.out).cells
      have HY5 := Lib.hid hy5
      clear hy5
      clear ho5 hs5 HO HST HTR
      go_wp2_with (go_at_call 24; refine stopc ?_)
      refine Stop.go ?_
      refine (vecR_any (fun _ => False) _ _ y5 _ _ _ (HO5.out.rd (h1 := fun _ => rfl) (fun _ _ => id)) ((H3.out.stp0 HT5.out).weak (by decide) (fun _ _ h => h.elim)) (by omega)).mono ?_
      rintro e w6 ⟨v6, rfl, ho6, hs6⟩
      obtain ⟨y6, hy6⟩ : ∃ y6, y6 = (vecB y5 1 h.met).1 := ⟨_, rfl⟩
      rw [← hy6] at ho6
      have hl6 : y6.length ≤ 6000000 := by
        have := vecB_len y5 1 h.met
        rw [← hy6] at this
        omega
      have HO6 := Lib.hid (ho6.lower HT5.out.size)
      have HT6 := Lib.hid (HT5.out.trans hs6)
      have HY6 := Lib.hid (show y6 = layA h by rw [hy6, HY5.out, HY4.out, HY3.out]; rfl)
      obtain ⟨A7, c7, rfl, hle7⟩ := HO6.out.form
      obtain ⟨b0, b33, b34, b35, b36, b37⟩ := (HB0.out.stp0 HT6.out).cells
      clear ho6 hs6 hy6 HO5 HT5 HY5 HY4 HY3
      obtain ⟨hx, hhx⟩ : ∃ b, b = h.has := ⟨_, rfl⟩
      rw [← hhx] at b36
      cases hx with
      | false =>
        have HL := Lib.hid (show layS h = y6 by unfold layS; rw [← hhx, HY6.out]; rfl)
        clear hhx
        go_wp2
        rw [HR.out]
        exact ⟨_, rfl, by rw [HL.out]; exact HO6.out.lower HS0.out.size, HS0.out.trans HT6.out⟩
      | true =>
        have HL := Lib.hid (show layS h = (vecB y6 2 (flatX h.exs)).1 by unfold layS; rw [← hhx, HY6.out]; rfl)
        clear hhx
        go_wp2_with fail
        go_loopw [6, 7, 68] (fun o i _ wr => ∃ (k : Nat) (y : List UInt8), k ≤ h.exs.length ∧ i = .int .i64 k ∧ y = flatX (h.exs.take k) ∧ y.length ≤ 1000006 * k ∧ Own enc8 5 w0.heap.size wr o y ∧ Stp (fun _ => False) w6 wr) (fun _ i _ _ => h.exs.length - (intOf i).toNat)
        case atStart => exact ⟨0, [], Nat.zero_le _, rfl, by simp [flatX], by simp, Own.nil _ _ _ _, Stp.refl _ _⟩
        case round =>
          obtain ⟨k, y, hk, rfl, hy, hyl, ho, hst⟩ := hrel
          have HO := Lib.hid ho
          have HST := Lib.hid hst
          have HTR := Lib.hid (HT6.out.trans hst)
          obtain ⟨b0, b33, b34, b35, b36, b37⟩ := (HB0.out.stp0 HTR.out).cells
          have HY := Lib.hid hy
          clear hy
          clear ho hst
          by_cases hlt : k < h.exs.length
          · obtain ⟨ad, v, rfl, hnM, hcell1, hcell2, hv⟩ := ext_cell (H4.out.stp0 HTR.out) k hlt
            have HTK := Lib.hid (take_snoc h.exs k hlt)
            have hdl := F5.out _ (List.getElem_mem hlt)
            obtain ⟨x, hxe⟩ : ∃ x, x = h.exs[k] := ⟨_, rfl⟩
            rw [← hxe] at hcell1 HTK hv hdl
            obtain ⟨Av, cv, rfl, hlev⟩ := hv.form
            have HV := Lib.hid (hv.weak (M' := fun _ => False) (by decide) (fun _ _ h => h.elim))
            have HC1 := Lib.hid hcell1
            have HC2 := Lib.hid hcell2
            clear hxe hv hnM
            go_wp2_with (go_at_call 25; refine stopc ?_)
            refine Stop.go ?_
            refine (putR_any (fun _ => False) _ y _ _ _ (HO.out.rd (h1 := fun _ => rfl) (fun _ _ => id)) (by omega)).mono ?_
            rintro e w7 ⟨v7, rfl, ho7, hs7⟩
            obtain ⟨y7, hy7⟩ : ∃ y7, y7 = y ++ be x.1 2 := ⟨_, rfl⟩
            have ho7' : Own enc8 5 w0.heap.size w7 v7 y7 := by rw [hy7]; exact ho7.lower HTR.out.size
            have hl7 : y7.length = y.length + 2 := by rw [hy7, List.length_append, be_len]
            have HO7 := Lib.hid ho7'
            have HT7 := Lib.hid (HTR.out.trans hs7)
            have HS7 := Lib.hid (HST.out.trans hs7)
            have HV7 := Lib.hid (HV.out.stp0 hs7)
            have hcell2 := hs7.cell HC2.out id
            obtain ⟨b0, b33, b34, b35, b36, b37⟩ := (HB0.out.stp0 HT7.out).cells
            have HY7 := Lib.hid hy7
            clear hy7
            clear ho7 ho7' hs7 hcell1 HO HV HST HTR
            go_wp2_with (go_at_call 24; refine stopc ?_)
            refine Stop.go ?_
            refine (vecR_any (fun _ => False) _ _ y7 _ _ _ (HO7.out.rd (h1 := fun _ => rfl) (fun _ _ => id)) HV7.out (by omega)).mono ?_
            rintro e w8 ⟨v8, rfl, ho8, hs8⟩
            obtain ⟨y8, hy8⟩ : ∃ y8, y8 = (vecB y7 2 x.2).1 := ⟨_, rfl⟩
            rw [← hy8] at ho8
            have hye : y8 = y ++ xOne x := by rw [hy8, HY7.out, vecB_app]; rfl
            have hl8 : y8.length ≤ 1000006 * (k + 1) := by
              have := xOne_len x
              rw [hye, List.length_append]
              omega
            have HO8 := Lib.hid (ho8.lower HT7.out.size)
            have HS8 := Lib.hid (HS7.out.trans hs8)
            have HYE := Lib.hid (show y8 = flatX (h.exs.take (k + 1)) by rw [hye, HTK.out, flatX_snoc, HY.out])
            clear ho8 hs8 hy8 hye
            go_wp2
            go_roundw
            case rel => exact ⟨k + 1, y8, by omega, by go_num, HYE.out, hl8, HO8.out, HS8.out⟩
            case measure => simp [intOf]; omega
          · obtain rfl : k = h.exs.length := by omega
            rw [List.take_length] at HY
            go_wp2_with (go_at_call 24; refine stopc ?_)
            refine Stop.go ?_
            refine (vecR_any (fun _ => False) _ _ y6 y _ _ ((HO6.out.stp0 HST.out).rd (h1 := fun _ => rfl) (fun _ _ => id)) (HO.out.rd (h1 := fun _ => rfl) (fun _ _ => id)) (by omega)).mono ?_
            rintro e w9 ⟨v9, rfl, ho9, hs9⟩
            have HO9 := Lib.hid (show Own enc8 5 w.heap.size w9 v9 (layS h) by rw [HL.out, ← HY.out]; exact ho9.lower (Nat.le_trans HS0.out.size HTR.out.size))
            have HT9 := Lib.hid (HS0.out.trans (HTR.out.trans hs9))
            clear ho9 hs9
            go_wp2
            rw [HR.out]
            exact ⟨_, rfl, HO9.out, HT9.out⟩
end Go.Proofs.Ytdmcmfjhlpnaeaa.L
