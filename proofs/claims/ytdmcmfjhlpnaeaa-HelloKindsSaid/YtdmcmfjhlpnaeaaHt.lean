/- The document's own Same. -/
import Derived.Test.YtdmcmfjhlpnaeaaAr
import Derived.Laws.StructEq
set_option linter.unusedVariables false
set_option linter.unusedSimpArgs false
namespace Go.Proofs.Ytdmcmfjhlpnaeaa.L
open Go.RowKit Go.Proofs

theorem strB_inj {x y : List UInt8} (h : strB x = strB y) : x = y := by injection h with h; simpa using congrArg Array.toList h
theorem HlB.rng {W : World} {g : Nat} {h : Hl} {vs vc vm vx : Value} (hb : HlB W g h vs vc vm vx) : W.rangeAt g 1 (h.rnd.map enc8) := fun j v hv => by
  have hj : j < (h.rnd.map enc8).length := (List.getElem?_eq_some_iff.1 hv).1
  rw [blk_cell hb.1, List.getElem?_toArray]
  unfold hlV
  rw [Nat.add_comm 1 j, List.getElem?_cons_succ, List.getElem?_append_left hj]
  exact hv
theorem wp_neq_arr8 {P : Program} {op : Oper} {a : Act} {w : World} {K : Act → World → Prop} {Q : Exit → Act → World → Prop} (ty t2 : TypeId) (x y : Operand) (ho : op.op = .binOp .neq ty x y t2) (len e : Nat) (xs ys : List UInt8) (hp : P.eqGuardType P.depth ty = false)
    (hx : a.eval x = .agg (xs.map enc8).toArray) (hy : a.eval y = .agg (ys.map enc8).toArray) (hlx : xs.length = len) (hly : ys.length = len)
    (ht : P.underlying ty = some (.array len e)) (he : P.underlying e = some (.int .u8)) (hs : (P.info? e).map (·.size) = some 1)
    (h : K (a.put op.dst (.bool (!decide (xs = ys)))) w) : op.wp P a w K Q := by
  unfold Oper.wp execOp
  simp only [ho, hx, hy, Sem.run_bind, run_eqGuard_agg (hm := hp), Result.andThen_ok, run_neq_struct, run_equalIn_arr8 P w 9998 ty e len xs ys hlx hly ht he hs]
  exact h

set_option maxRecDepth 100000 in
set_option maxHeartbeats 8000000 in
theorem sameR_any (M : Nat → Prop) (cs ds : Array Value) (h k : Hl) (w : World) (hh : IsHl M w cs h) (hk : IsHl M w ds k) (hf : HlSm h) (hg : HlSm k) (b : Bool) (hb : Tells b (h = k)) :
    Calls Try.prog 53 #[.agg cs, .agg ds] w fun e w' => e = .returned (.bool b) ∧ Stp (fun _ => False) w w' := by
  obtain ⟨vs, vc, vm, vx, e, hr, h1, h2, h3, h4⟩ := hh
  obtain ⟨us, uc, um, ux, e', hr', k1, k2, k3, k4⟩ := hk
  have ecs : cs = (hlV h vs vc vm vx).toArray := by have := congrArg List.toArray e; rwa [Array.toArray_toList] at this
  have eds : ds = (hlV k us uc um ux).toArray := by have := congrArg List.toArray e'; rwa [Array.toArray_toList] at this
  obtain ⟨A1, c1, rfl, hle1⟩ := h1.form
  obtain ⟨A2, c2, rfl, hle2⟩ := h2.form
  obtain ⟨A3, c3, rfl, hle3⟩ := h3.form
  obtain ⟨A4, c4, rfl, hle4⟩ := h4.form
  obtain ⟨B1, d1, rfl, hme1⟩ := k1.form
  obtain ⟨B2, d2, rfl, hme2⟩ := k2.form
  obtain ⟨B3, d3, rfl, hme3⟩ := k3.form
  obtain ⟨B4, d4, rfl, hme4⟩ := k4.form
  obtain ⟨w1, hw1⟩ : ∃ w1, w1 = w.alloc (.cells cs 62) := ⟨_, rfl⟩
  obtain ⟨w2, hw2⟩ : ∃ w2, w2 = w1.alloc (.cells ds 62) := ⟨_, rfl⟩
  have hs1 : Stp (fun _ => False) w w1 := by rw [hw1]; exact (Stp.refl _ _).alloc _
  have hs2 : Stp (fun _ => False) w1 w2 := by rw [hw2]; exact (Stp.refl _ _).alloc _
  have hz1 : w.heap.size + 1 = w1.heap.size := by rw [hw1]; simp
  have hb1 : HlB w1 w.heap.size h _ _ _ _ := ⟨by rw [hw1, ← ecs]; exact heap_alloc_new w _, hr⟩
  have hb2 : HlB w2 w1.heap.size k _ _ _ _ := ⟨by rw [hw2, ← eds]; exact heap_alloc_new w1 _, hr'⟩
  have hb1 := hb1.stp0 hs2
  have HS := Lib.hid (hs1.trans hs2)
  have H1 := Lib.hid (h1.stp0 HS.out)
  have H2 := Lib.hid (h2.stp0 HS.out)
  have H3 := Lib.hid (h3.stp0 HS.out)
  have H4 := Lib.hid (h4.stp0 HS.out)
  have K1 := Lib.hid (k1.stp0 HS.out)
  have K2 := Lib.hid (k2.stp0 HS.out)
  have K3 := Lib.hid (k3.stp0 HS.out)
  have K4 := Lib.hid (k4.stp0 HS.out)
  obtain ⟨a0, a33, a34, a35, a36, a37⟩ := hb1.cells
  obtain ⟨b0, b33, b34, b35, b36, b37⟩ := hb2.cells
  have HA := Lib.hid hb1
  have HB := Lib.hid hb2
  have HT := Lib.hid hb
  have HF := Lib.hid (And.intro hf hg)
  have HW1 := Lib.hid hw1
  have HW2 := Lib.hid hw2
  clear e e' hr hr' h1 h2 h3 h4 k1 k2 k3 k4 ecs eds hs1 hs2 hb1 hb2 hb hf hg hw1 hw2
  go_enter Try.func53, Try.ntmps53
  go_upto_region 1 with fail
  rw [← HW1.out, ← HW2.out]
  have hse : ∀ (p : Prop), (h = k → p) → ¬ p → b = false := fun p hp hn => by
    rw [Bool.eq_false_iff]
    intro he
    exact hn (hp (HT.out.1 he))
  have HSE := Lib.hid hse
  clear hse
  by_cases z1 : h.ver = k.ver
  · have z1' : (h.ver != k.ver) = false := by rw [z1]; simp
    have Z1 := Lib.hid z1
    clear z1
    go_wp2_with (with_reducible refine stop (N := 13) rfl ?_)
    refine Stop.go ?_
    refine wpList_wanted (by kernel_rfl) (wp_load_mid _ _ rfl w.heap.size 1 rfl (h.rnd.map enc8) _ HA.out.rng Try.underlying59 rfl (by rw [List.length_map, HA.out.2]; rfl) ?_)
    go_wp2_with (with_reducible refine stop (N := 15) rfl ?_)
    refine Stop.go ?_
    refine wpList_wanted (by kernel_rfl) (wp_load_mid _ _ rfl w1.heap.size 1 rfl (k.rnd.map enc8) _ HB.out.rng Try.underlying59 rfl (by rw [List.length_map, HB.out.2]; rfl) ?_)
    go_wp2_with (with_reducible refine stop (N := 16) rfl ?_)
    refine Stop.go ?_
    refine wpList_wanted (by kernel_rfl) (wp_neq_arr8 _ _ _ _ rfl 32 _ _ _ (by kernel_rfl) rfl rfl HA.out.2 HB.out.2 Try.underlying59 Try.underlying5 rfl ?_)
    by_cases z2 : h.rnd = k.rnd
    · rw [show (!decide (h.rnd = k.rnd)) = false by rw [decide_eq_true z2]; rfl]
      have Z2 := Lib.hid z2
      clear z2
      have hcv1 := conv_of H1.out
      have hcv2 := conv_of K1.out
      by_cases z3 : h.ses = k.ses
      · have z3' : ((strB h.ses).toList == (strB k.ses).toList) = true := by rw [z3]; simp
        have Z3 := Lib.hid z3
        clear z3
        go_wp2_with (go_at_call 45; refine stopc ?_)
        refine Stop.go ?_
        obtain ⟨hlh, hlk⟩ := HF.out
        obtain ⟨bi, hbi⟩ : ∃ bi, Tells bi (h.cip = k.cip) := ⟨decide (h.cip = k.cip), by simp [Tells]⟩
        refine (ints_any M _ _ _ _ _ H2.out K2.out (by have := hlh.2.1; omega) (by have := hlk.2.1; omega) bi hbi).mono ?_
        rintro e w3 ⟨rfl, hs3⟩
        clear a0 a33 a34 a35 a36 a37 b0 b33 b34 b35 b36 b37 hcv1 hcv2 z1' z3'
        have HT3 := Lib.hid (HS.out.trans hs3)
        obtain ⟨a0, a33, a34, a35, a36, a37⟩ := (HA.out.stp0 hs3).cells
        obtain ⟨b0, b33, b34, b35, b36, b37⟩ := (HB.out.stp0 hs3).cells
        have HA3 := Lib.hid (HA.out.stp0 hs3)
        have HB3 := Lib.hid (HB.out.stp0 hs3)
        have hcv3 := conv_of (H3.out.stp0 hs3)
        have hcv4 := conv_of (K3.out.stp0 hs3)
        have HX := Lib.hid (H4.out.stp0 hs3)
        have KX := Lib.hid (K4.out.stp0 hs3)
        clear hs3 H1 H2 H3 H4 K1 K2 K3 K4 HA HB
        cases bi with
        | true =>
          have Z4 := Lib.hid hbi.yes
          clear hbi
          by_cases z5 : h.met = k.met
          · have z5' : ((strB h.met).toList == (strB k.met).toList) = true := by rw [z5]; simp
            have Z5 := Lib.hid z5
            clear z5
            by_cases z6 : h.has = k.has
            · have z6' : (h.has == k.has) = true := by rw [z6]; simp
              have Z6 := Lib.hid z6
              clear z6
              by_cases z7 : h.exs.length = k.exs.length
              · have z7' : ((h.exs.length : Int) != (k.exs.length : Int)) = false := by rw [z7]; simp
                have Z7 := Lib.hid z7
                clear z7
                go_wp2
                clear hcv3 hcv4 z5' z6' z7'
                have HLH := Lib.hid hlh
                have HLK := Lib.hid hlk
                clear hlh hlk
                have hx1 := HLH.out.2.2.2.1
                have hx2 := HLK.out.2.2.2.1
                have hHX := HX.out
                have hKX := KX.out
                go_loopw [5] (fun i wr => ∃ j : Nat, j ≤ h.exs.length ∧ i = .int .i64 j ∧ (∀ i (hj : i < h.exs.length) (hj2 : i < k.exs.length), i < j → h.exs[i] = k.exs[i]) ∧ Stp (fun _ => False) w3 wr) (fun i _ => h.exs.length - (intOf i).toNat)
                case atStart => exact ⟨0, Nat.zero_le _, rfl, fun j _ _ h => absurd h (by omega), Stp.refl _ _⟩
                case round =>
                  obtain ⟨j, hj, rfl, hall, hs⟩ := hrel
                  clear a0 a33 a34 a35 a36 a37 b0 b33 b34 b35 b36 b37
                  obtain ⟨a0, a33, a34, a35, a36, a37⟩ := (HA3.out.stp0 hs).cells
                  obtain ⟨b0, b33, b34, b35, b36, b37⟩ := (HB3.out.stp0 hs).cells
                  have HALL := Lib.hid hall
                  have HSR := Lib.hid hs
                  clear hall hs hHX hKX
                  by_cases hlt : j < h.exs.length
                  · have hlt2 : j < k.exs.length := by have := Z7.out; omega
                    obtain ⟨ad, v, rfl, _, hcell, hcelld, hv⟩ := ext_cell (HX.out.stp0 HSR.out) j hlt
                    obtain ⟨ad2, v2, rfl, _, hcell2, hcelld2, hv2⟩ := ext_cell (KX.out.stp0 HSR.out) j hlt2
                    obtain ⟨Av, cv, rfl, hlev⟩ := hv.form
                    obtain ⟨Av2, cv2, rfl, hlev2⟩ := hv2.form
                    have hcv1 := fun n => conv_of (hv.stp0 ((Stp.refl _ wr).drewN n))
                    have hcv2 := fun n => conv_of (hv2.stp0 ((Stp.refl _ wr).drewN n))
                    clear hv hv2
                    by_cases z8 : h.exs[j].1 = k.exs[j].1
                    · have z8' : (h.exs[j].1 != k.exs[j].1) = false := by rw [z8]; simp
                      by_cases z9 : h.exs[j].2 = k.exs[j].2
                      · have z9' : ((strB h.exs[j].2).toList == (strB k.exs[j].2).toList) = true := by rw [z9]; simp
                        have ZE := Lib.hid (show h.exs[j] = k.exs[j] from Prod.ext z8 z9)
                        clear z8 z9
                        go_wp2_with fail
                        go_quiet (fail)
                        go_wp2
                        go_roundw
                        case rel =>
                          refine ⟨j + 1, by omega, by go_num, fun i hi hi2 hij => ?_, HSR.out.drewN _⟩
                          by_cases hjk : i = j
                          · subst hjk
                            exact ZE.out
                          · exact HALL.out i hi hi2 (by omega)
                        case measure => simp [intOf]; omega
                      · have z9' : ((strB h.exs[j].2).toList == (strB k.exs[j].2).toList) = false := ba_ne (fun e => z9 (strB_inj e))
                        have hbb := HSE.out (h.exs[j] = k.exs[j]) (fun e => by simp only [e]) (fun e => z9 (by rw [e]))
                        have HBB := Lib.hid hbb
                        clear hbb z8 z9
                        go_wp2_with fail
                        go_quiet (fail)
                        go_wp2
                        go_ret
                        exact ⟨by rw [HBB.out]; rfl, HT3.out.trans (HSR.out.drewN _)⟩
                    · have z8' : (h.exs[j].1 != k.exs[j].1) = true := by simpa using z8
                      have hbb := HSE.out (h.exs[j] = k.exs[j]) (fun e => by simp only [e]) (fun e => z8 (by rw [e]))
                      have HBB := Lib.hid hbb
                      clear hbb z8
                      go_wp2_with fail
                      go_quiet (fail)
                      go_wp2
                      go_ret
                      exact ⟨by rw [HBB.out]; rfl, HT3.out.trans (HSR.out.drewN _)⟩
                  · obtain rfl : j = h.exs.length := by omega
                    have hbt : b = true := by
                      refine HT.out.2 ?_
                      have he : h.exs = k.exs := List.ext_getElem Z7.out (fun i h1 h2 => HALL.out i h1 h2 h1)
                      cases h
                      cases k
                      simp only [Hl.mk.injEq]
                      exact ⟨Z1.out, Z2.out, Z3.out, Z4.out, Z5.out, Z6.out, he⟩
                    go_wp2
                    go_ret
                    exact ⟨by rw [hbt]; rfl, HT3.out.trans HSR.out⟩
              · have z7' : ((h.exs.length : Int) != (k.exs.length : Int)) = true := by simp; omega
                have hbb := HSE.out _ (fun e => by rw [e]) z7
                have HBB := Lib.hid hbb
                clear hbb z7
                go_wp2
                go_ret
                exact ⟨by rw [HBB.out]; rfl, HT3.out⟩
            · have z6' : (h.has == k.has) = false := by simpa using z6
              have hbb := HSE.out _ (fun e => by rw [e]) z6
              have HBB := Lib.hid hbb
              clear hbb z6
              go_wp2
              go_ret
              exact ⟨by rw [HBB.out]; rfl, HT3.out⟩
          · have z5' : ((strB h.met).toList == (strB k.met).toList) = false := ba_ne (fun e => z5 (strB_inj e))
            have hbb := HSE.out _ (fun e => by rw [e]) z5
            have HBB := Lib.hid hbb
            clear hbb z5
            go_wp2
            go_ret
            exact ⟨by rw [HBB.out]; rfl, HT3.out⟩
        | false =>
          have hbb := HSE.out (h.cip = k.cip) (fun e => by rw [e]) (fun e => by cases hbi.2 e)
          have HBB := Lib.hid hbb
          clear hbb hbi
          go_wp2
          go_ret
          exact ⟨by rw [HBB.out]; rfl, HT3.out⟩
      · have z3' : ((strB h.ses).toList == (strB k.ses).toList) = false := ba_ne (fun e => z3 (strB_inj e))
        have hbb := HSE.out _ (fun e => by rw [e]) z3
        have HBB := Lib.hid hbb
        clear hbb z3
        go_wp2
        go_ret
        exact ⟨by rw [HBB.out]; rfl, HS.out⟩
    · rw [show (!decide (h.rnd = k.rnd)) = true by rw [decide_eq_false z2]; rfl]
      have hbb := HSE.out _ (fun e => by rw [e]) z2
      have HBB := Lib.hid hbb
      clear hbb z2
      go_wp2
      go_ret
      exact ⟨by rw [HBB.out]; rfl, HS.out⟩
  · have z1' : (h.ver != k.ver) = true := by simpa using z1
    have hbb := HSE.out _ (fun e => by rw [e]) z1
    have HBB := Lib.hid hbb
    clear hbb z1
    go_wp2
    go_ret
    exact ⟨by rw [HBB.out]; rfl, HS.out⟩
end Go.Proofs.Ytdmcmfjhlpnaeaa.L
