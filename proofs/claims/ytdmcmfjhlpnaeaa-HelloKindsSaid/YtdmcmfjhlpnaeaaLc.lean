/- Bytes of which some are missing, and bytes behind which more stands. -/
import Derived.Test.YtdmcmfjhlpnaeaaLb
set_option linter.unusedVariables false
set_option linter.unusedSimpArgs false
namespace Go.Proofs.Ytdmcmfjhlpnaeaa.L
open Go.RowKit Go.Proofs

set_option maxRecDepth 100000 in
set_option maxHeartbeats 8000000 in
theorem helloCut_any (v0 v2 : Value) (b more : List UInt8) (cut : Int) (w : World) (hd : Rd u8 (newB w) w v0 b) (he : Rd u8 (newB w) w v2 more) (hb : b.length ≤ 140737488355328) :
    Calls Try.prog 15 #[v0, .int .i64 cut, v2] w fun e w' => e = .returned (.bool true) ∧ Stp (fun _ => False) w w' := by
  obtain ⟨A0, c0, rfl, hle0⟩ := hd.form
  obtain ⟨A2, c2, rfl, hle2⟩ := he.form
  have HS := Lib.hid (Stp.refl (fun _ => False) w)
  have HD := Lib.hid (hd.weak (M' := fun _ => False) (by decide) (fun _ _ h => h.elim))
  have HE := Lib.hid (he.weak (M' := fun _ => False) (by decide) (fun _ _ h => h.elim))
  clear hd he
  obtain ⟨lb, hlb⟩ : ∃ lb, lb = decide (3000 < (b.length : Int)) := ⟨_, rfl⟩
  obtain ⟨lm, hlm⟩ : ∃ lm, lm = decide (100 < (more.length : Int)) := ⟨_, rfl⟩
  obtain ⟨n0, hn0⟩ : ∃ n0, n0 = decide (cut < 0) := ⟨_, rfl⟩
  obtain ⟨n1, hn1⟩ : ∃ n1, n1 = decide ((b.length : Int) ≤ cut) := ⟨_, rfl⟩
  have HLB := Lib.hid hlb
  have HLM := Lib.hid hlm
  have HN0 := Lib.hid hn0
  have HN1 := Lib.hid hn1
  replace hlb := hlb.symm
  replace hlm := hlm.symm
  replace hn0 := hn0.symm
  replace hn1 := hn1.symm
  go_enter Try.func15, Try.ntmps15
  go_wp2_with (go_at_call 50; refine stopc ?_)
  refine Stop.go ?_
  refine (small9_any _).mono ?_
  rintro e w1 ⟨rfl, hs⟩
  have HD := Lib.hid (HD.out.stp0 hs)
  have HE := Lib.hid (HE.out.stp0 hs)
  have HS := Lib.hid (HS.out.trans hs)
  clear hs
  obtain ⟨Y, hY⟩ : ∃ Y, Y = parseS b := ⟨_, rfl⟩
  have HY := Lib.hid hY
  clear hY
  go_wp2_with (go_at_call 51; refine stopc ?_)
  refine Stop.go ?_
  refine (parseH_any _ _ b _ HD.out hb).mono ?_
  unfold ParseRet
  rw [← HY.out]
  rintro e w2 ⟨cs8, rfl, hi, hs⟩
  have hltw2 := hs.size
  have HD := Lib.hid (HD.out.stp0 hs)
  have HE := Lib.hid (HE.out.stp0 hs)
  have HS := Lib.hid (HS.out.trans hs)
  clear hs
  obtain ⟨hbx, heq, w3, hw, hc, hs⟩ := box_hl w2 cs8 hi.size
  rw [hlV0] at hbx heq hw
  have HBX := Lib.hid hbx
  have HEQ := Lib.hid heq
  have HW := Lib.hid hw
  have HZ8 := Lib.hid hi.info
  have HON := Lib.hid hi.one
  have HC8 := Lib.hid hc
  have HI8 := Lib.hid (hi.stp0 hs)
  have hltw3 := hs.size
  clear hbx heq hw hc
  have HD := Lib.hid (HD.out.stp0 hs)
  have HE := Lib.hid (HE.out.stp0 hs)
  have HS := Lib.hid (HS.out.trans hs)
  clear hs hi
  go_wp2_with (refine wpList_store_row rfl _ _ _ rfl w2.heap.size cs8 rfl rfl _ _ HBX.out HZ8.out HEQ.out HON.out ?_; rw [HW.out]; refine stopw ?_)
  refine Stop.go ?_
  clear HBX HEQ HW HON
  obtain ⟨g8, hg8⟩ : ∃ g, g = w2.heap.size := ⟨_, rfl⟩
  rw [← hg8] at HC8 ⊢
  have hge8 : w2.heap.size ≤ g8 := by omega
  clear hg8
  obtain ⟨us8, uc8, um8, ux8, hb8, -⟩ := hlb_of HI8.out HC8.out
  have HB8 := Lib.hid hb8
  clear hb8
  obtain ⟨H, q⟩ := Y
  dsimp only at HB8 ⊢
  clear HC8 HI8 HZ8
  by_cases hq0 : q = 0
  · subst hq0
    cases lb with
    | true =>
      go_wp2
      go_ret
      exact ⟨rfl, HS.out⟩
    | false =>
      cases lm with
      | true =>
        go_wp2
        go_ret
        exact ⟨rfl, HS.out⟩
      | false =>
        have hb3 : b.length ≤ 3000 := by
          have := HLB.out.symm
          rw [decide_eq_false_iff_not] at this
          omega
        have hm3 : more.length ≤ 100 := by
          have := HLM.out.symm
          rw [decide_eq_false_iff_not] at this
          omega
        by_cases hz0 : 0 < more.length
        · obtain ⟨hx, hhx⟩ : ∃ hx, hx = H.has := ⟨_, rfl⟩
          have HHX := Lib.hid hhx
          obtain ⟨-, -, -, -, d36, -⟩ := HB8.out.cells
          rw [← hhx] at d36
          clear hhx
          cases hx with
          | false =>
            go_upto_region 9 with fail
            clear d36
            cases n0 with
            | true =>
              go_wp2
              go_ret
              exact ⟨rfl, HS.out⟩
            | false =>
              cases n1 with
              | true =>
                go_wp2
                go_ret
                exact ⟨rfl, HS.out⟩
              | false =>
                have hc1 : 0 ≤ cut := by
                  have := HN0.out.symm
                  rw [decide_eq_false_iff_not] at this
                  omega
                have hc2 : cut < (b.length : Int) := by
                  have := HN1.out.symm
                  rw [decide_eq_false_iff_not] at this
                  omega
                obtain ⟨n, rfl⟩ : ∃ n : Nat, cut = (n : Int) := ⟨cut.toNat, by omega⟩
                have hnb : n < b.length := by omega
                obtain ⟨hct1, hct2⟩ := cut_hi (P := Try.prog) u8 22 5 Try.underlying22 size_u8 A0 b.length c0 n (by omega) hle0
                have HCT := Lib.hid hct2
                have HCU := Lib.hid (parse_cut b n (by rw [← HY.out]) hnb)
                rw [← HY.out] at HCU
                clear hct2 hc1 hc2
                obtain ⟨Z, hZ⟩ : ∃ Z, Z = parseS (b.take n) := ⟨_, rfl⟩
                have HZZ := Lib.hid hZ
                clear hZ
                rw [← HZZ.out] at HCU
                have htl : (b.take n).length = n := by rw [List.length_take]; omega
                go_wp2_with (go_at_call 51; refine stopc ?_)
                refine Stop.go ?_
                refine (parseH_any _ _ (b.take n) _ (HCT.out _ _ b HD.out) (by omega)).mono ?_
                unfold ParseRet
                rw [← HZZ.out]
                rintro e w4 ⟨cs12, rfl, hi, hs⟩
                have hltw4 := hs.size
                have HD := Lib.hid (HD.out.stp0 hs)
                have HE := Lib.hid (HE.out.stp0 hs)
                have HB8 := Lib.hid (HB8.out.stp0 hs)
                have HS := Lib.hid (HS.out.trans hs)
                clear hs
                obtain ⟨hbx, heq, w5, hw, hc, hs⟩ := box_hl w4 cs12 hi.size
                rw [hlV0] at hbx heq hw
                have HBX := Lib.hid hbx
                have HEQ := Lib.hid heq
                have HW := Lib.hid hw
                have HZ12 := Lib.hid hi.info
                have HON := Lib.hid hi.one
                have HC12 := Lib.hid hc
                have HI12 := Lib.hid (hi.stp0 hs)
                have hltw5 := hs.size
                clear hbx heq hw hc
                have HD := Lib.hid (HD.out.stp0 hs)
                have HE := Lib.hid (HE.out.stp0 hs)
                have HB8 := Lib.hid (HB8.out.stp0 hs)
                have HS := Lib.hid (HS.out.trans hs)
                clear hs hi
                go_wp2_with (refine wpList_store_row rfl _ _ _ rfl w4.heap.size cs12 rfl rfl _ _ HBX.out HZ12.out HEQ.out HON.out ?_; rw [HW.out]; refine stopw ?_)
                refine Stop.go ?_
                clear HBX HEQ HW HON
                obtain ⟨g12, hg12⟩ : ∃ g, g = w4.heap.size := ⟨_, rfl⟩
                rw [← hg12] at HC12 ⊢
                have hge12 : w4.heap.size ≤ g12 := by omega
                clear hg12
                obtain ⟨us12, uc12, um12, ux12, hb12, -⟩ := hlb_of HI12.out HC12.out
                obtain ⟨G, z⟩ := Z
                dsimp only at HCU hb12 ⊢
                obtain ⟨-, -, -, -, d36, -⟩ := HB8.out.cells
                obtain ⟨-, -, -, -, e36, -⟩ := hb12.cells
                clear hb12 HC12 HI12 HZ12
                rcases HCU.out with ⟨hz, h1, h2⟩ | hz
                · subst hz
                  rw [h1] at d36
                  rw [h2] at e36
                  clear h1 h2 HCU
                  go_wp2
                  go_ret
                  exact ⟨rfl, HS.out⟩
                · subst hz
                  clear d36 e36 HCU
                  go_wp2
                  go_ret
                  exact ⟨rfl, HS.out⟩
          | true =>
            have HMO := Lib.hid (parse_more b more (by rw [← HY.out]) (by rw [← HY.out]; exact HHX.out.symm) (fun e => by
              rw [e] at hz0
              simp at hz0))
            go_wp2_with (with_reducible refine stop (N := 43) rfl ?_)
            refine Stop.go ?_
            have hob : Own enc8 5 w3.heap.size (w3.alloc (.cells #[] 5)) (.slice (some ⟨w3.heap.size, 0, none⟩) 0 0) [] := Own.lit [] #[] rfl (Nat.le_refl _) (by simp)
            refine wp_appendRd enc8 (h1e := fun _ => rfl) rfl _ _ _ rfl Try.underlying22 info_u8 rfl (M := fun _ => False) hob (HD.out.stp0 ((Stp.refl _ _).alloc _)) rfl rfl (by simp; omega) (by simp; omega) (by simp) ?_
            intro v43 wa ho hg
            have hs1 := (((Stp.refl (fun _ => False) w3).alloc (.cells #[] 5))).own hob hg
            have HOA := Lib.hid ho
            have HEA := Lib.hid (HE.out.stp0 hs1)
            have HSA := Lib.hid hs1
            clear hob ho hg hs1
            go_wp2_with (with_reducible refine stop (N := 45) rfl ?_)
            refine Stop.go ?_
            refine wp_appendRd enc8 (h1e := fun _ => rfl) rfl _ _ _ rfl Try.underlying22 info_u8 rfl (M := fun _ => False) HOA.out HEA.out rfl rfl (by simp; omega) (by simp; omega) HSA.out.size ?_
            intro v45 wb ho hg
            have hs := HSA.out.own HOA.out hg
            rw [List.nil_append] at ho
            have R45 := Lib.hid (ho.rd (h1 := fun _ => rfl) (M := fun _ => False) (fun _ _ => id))
            clear ho hg HOA HEA HSA d36
            have HD := Lib.hid (HD.out.stp0 hs)
            have HE := Lib.hid (HE.out.stp0 hs)
            have HB8 := Lib.hid (HB8.out.stp0 hs)
            have HS := Lib.hid (HS.out.trans hs)
            clear hs
            obtain ⟨Z1, hZ1⟩ : ∃ Z, Z = parseS (b ++ more) := ⟨_, rfl⟩
            have HZ1 := Lib.hid hZ1
            clear hZ1
            rw [← HZ1.out] at HMO
            go_wp2_with (go_at_call 51; refine stopc ?_)
            refine Stop.go ?_
            refine (parseH_any _ _ (b ++ more) _ R45.out (by rw [List.length_append]; omega)).mono ?_
            unfold ParseRet
            rw [← HZ1.out]
            rintro e w4 ⟨cs10, rfl, hi, hs⟩
            have hltw4 := hs.size
            have HD := Lib.hid (HD.out.stp0 hs)
            have HE := Lib.hid (HE.out.stp0 hs)
            have HB8 := Lib.hid (HB8.out.stp0 hs)
            have HS := Lib.hid (HS.out.trans hs)
            clear hs
            obtain ⟨hbx, heq, w5, hw, hc, hs⟩ := box_hl w4 cs10 hi.size
            rw [hlV0] at hbx heq hw
            have HBX := Lib.hid hbx
            have HEQ := Lib.hid heq
            have HW := Lib.hid hw
            have HZ10 := Lib.hid hi.info
            have HON := Lib.hid hi.one
            have HC10 := Lib.hid hc
            have HI10 := Lib.hid (hi.stp0 hs)
            have hltw5 := hs.size
            clear hbx heq hw hc
            have HD := Lib.hid (HD.out.stp0 hs)
            have HE := Lib.hid (HE.out.stp0 hs)
            have HB8 := Lib.hid (HB8.out.stp0 hs)
            have HS := Lib.hid (HS.out.trans hs)
            clear hs hi
            go_wp2_with (refine wpList_store_row rfl _ _ _ rfl w4.heap.size cs10 rfl rfl _ _ HBX.out HZ10.out HEQ.out HON.out ?_; rw [HW.out]; refine stopw ?_)
            refine Stop.go ?_
            clear HBX HEQ HW HON
            obtain ⟨g10, hg10⟩ : ∃ g, g = w4.heap.size := ⟨_, rfl⟩
            rw [← hg10] at HC10 ⊢
            have hge10 : w4.heap.size ≤ g10 := by omega
            clear hg10
            obtain ⟨G1, z1⟩ := Z1
            dsimp only at HMO ⊢
            obtain rfl : z1 = 3 := HMO.out
            clear HC10 HI10 HZ10
            go_upto_region 9 with fail
            cases n0 with
            | true =>
              go_wp2
              go_ret
              exact ⟨rfl, HS.out⟩
            | false =>
              cases n1 with
              | true =>
                go_wp2
                go_ret
                exact ⟨rfl, HS.out⟩
              | false =>
                have hc1 : 0 ≤ cut := by
                  have := HN0.out.symm
                  rw [decide_eq_false_iff_not] at this
                  omega
                have hc2 : cut < (b.length : Int) := by
                  have := HN1.out.symm
                  rw [decide_eq_false_iff_not] at this
                  omega
                obtain ⟨n, rfl⟩ : ∃ n : Nat, cut = (n : Int) := ⟨cut.toNat, by omega⟩
                have hnb : n < b.length := by omega
                obtain ⟨hct1, hct2⟩ := cut_hi (P := Try.prog) u8 22 5 Try.underlying22 size_u8 A0 b.length c0 n (by omega) hle0
                have HCT := Lib.hid hct2
                have HCU := Lib.hid (parse_cut b n (by rw [← HY.out]) hnb)
                rw [← HY.out] at HCU
                clear hct2 hc1 hc2
                obtain ⟨Z, hZ⟩ : ∃ Z, Z = parseS (b.take n) := ⟨_, rfl⟩
                have HZZ := Lib.hid hZ
                clear hZ
                rw [← HZZ.out] at HCU
                have htl : (b.take n).length = n := by rw [List.length_take]; omega
                go_wp2_with (go_at_call 51; refine stopc ?_)
                refine Stop.go ?_
                refine (parseH_any _ _ (b.take n) _ (HCT.out _ _ b HD.out) (by omega)).mono ?_
                unfold ParseRet
                rw [← HZZ.out]
                rintro e w6 ⟨cs12, rfl, hi, hs⟩
                have hltw6 := hs.size
                have HD := Lib.hid (HD.out.stp0 hs)
                have HE := Lib.hid (HE.out.stp0 hs)
                have HB8 := Lib.hid (HB8.out.stp0 hs)
                have HS := Lib.hid (HS.out.trans hs)
                clear hs
                obtain ⟨hbx, heq, w7, hw, hc, hs⟩ := box_hl w6 cs12 hi.size
                rw [hlV0] at hbx heq hw
                have HBX := Lib.hid hbx
                have HEQ := Lib.hid heq
                have HW := Lib.hid hw
                have HZ12 := Lib.hid hi.info
                have HON := Lib.hid hi.one
                have HC12 := Lib.hid hc
                have HI12 := Lib.hid (hi.stp0 hs)
                have hltw7 := hs.size
                clear hbx heq hw hc
                have HD := Lib.hid (HD.out.stp0 hs)
                have HE := Lib.hid (HE.out.stp0 hs)
                have HB8 := Lib.hid (HB8.out.stp0 hs)
                have HS := Lib.hid (HS.out.trans hs)
                clear hs hi
                go_wp2_with (refine wpList_store_row rfl _ _ _ rfl w6.heap.size cs12 rfl rfl _ _ HBX.out HZ12.out HEQ.out HON.out ?_; rw [HW.out]; refine stopw ?_)
                refine Stop.go ?_
                clear HBX HEQ HW HON
                obtain ⟨g12, hg12⟩ : ∃ g, g = w6.heap.size := ⟨_, rfl⟩
                rw [← hg12] at HC12 ⊢
                have hge12 : w6.heap.size ≤ g12 := by omega
                clear hg12
                obtain ⟨us12, uc12, um12, ux12, hb12, -⟩ := hlb_of HI12.out HC12.out
                obtain ⟨G, z⟩ := Z
                dsimp only at HCU hb12 ⊢
                obtain ⟨-, -, -, -, d36, -⟩ := HB8.out.cells
                obtain ⟨-, -, -, -, e36, -⟩ := hb12.cells
                clear hb12 HC12 HI12 HZ12
                rcases HCU.out with ⟨hz, h1, h2⟩ | hz
                · subst hz
                  rw [h1] at d36
                  rw [h2] at e36
                  clear h1 h2 HCU
                  go_wp2
                  go_ret
                  exact ⟨rfl, HS.out⟩
                · subst hz
                  clear d36 e36 HCU
                  go_wp2
                  go_ret
                  exact ⟨rfl, HS.out⟩
        · cases n0 with
          | true =>
            go_wp2
            go_ret
            exact ⟨rfl, HS.out⟩
          | false =>
            cases n1 with
            | true =>
              go_wp2
              go_ret
              exact ⟨rfl, HS.out⟩
            | false =>
              have hc1 : 0 ≤ cut := by
                have := HN0.out.symm
                rw [decide_eq_false_iff_not] at this
                omega
              have hc2 : cut < (b.length : Int) := by
                have := HN1.out.symm
                rw [decide_eq_false_iff_not] at this
                omega
              obtain ⟨n, rfl⟩ : ∃ n : Nat, cut = (n : Int) := ⟨cut.toNat, by omega⟩
              have hnb : n < b.length := by omega
              obtain ⟨hct1, hct2⟩ := cut_hi (P := Try.prog) u8 22 5 Try.underlying22 size_u8 A0 b.length c0 n (by omega) hle0
              have HCT := Lib.hid hct2
              have HCU := Lib.hid (parse_cut b n (by rw [← HY.out]) hnb)
              rw [← HY.out] at HCU
              clear hct2 hc1 hc2
              obtain ⟨Z, hZ⟩ : ∃ Z, Z = parseS (b.take n) := ⟨_, rfl⟩
              have HZZ := Lib.hid hZ
              clear hZ
              rw [← HZZ.out] at HCU
              have htl : (b.take n).length = n := by rw [List.length_take]; omega
              go_wp2_with (go_at_call 51; refine stopc ?_)
              refine Stop.go ?_
              refine (parseH_any _ _ (b.take n) _ (HCT.out _ _ b HD.out) (by omega)).mono ?_
              unfold ParseRet
              rw [← HZZ.out]
              rintro e w4 ⟨cs12, rfl, hi, hs⟩
              have hltw4 := hs.size
              have HD := Lib.hid (HD.out.stp0 hs)
              have HE := Lib.hid (HE.out.stp0 hs)
              have HB8 := Lib.hid (HB8.out.stp0 hs)
              have HS := Lib.hid (HS.out.trans hs)
              clear hs
              obtain ⟨hbx, heq, w5, hw, hc, hs⟩ := box_hl w4 cs12 hi.size
              rw [hlV0] at hbx heq hw
              have HBX := Lib.hid hbx
              have HEQ := Lib.hid heq
              have HW := Lib.hid hw
              have HZ12 := Lib.hid hi.info
              have HON := Lib.hid hi.one
              have HC12 := Lib.hid hc
              have HI12 := Lib.hid (hi.stp0 hs)
              have hltw5 := hs.size
              clear hbx heq hw hc
              have HD := Lib.hid (HD.out.stp0 hs)
              have HE := Lib.hid (HE.out.stp0 hs)
              have HB8 := Lib.hid (HB8.out.stp0 hs)
              have HS := Lib.hid (HS.out.trans hs)
              clear hs hi
              go_wp2_with (refine wpList_store_row rfl _ _ _ rfl w4.heap.size cs12 rfl rfl _ _ HBX.out HZ12.out HEQ.out HON.out ?_; rw [HW.out]; refine stopw ?_)
              refine Stop.go ?_
              clear HBX HEQ HW HON
              obtain ⟨g12, hg12⟩ : ∃ g, g = w4.heap.size := ⟨_, rfl⟩
              rw [← hg12] at HC12 ⊢
              have hge12 : w4.heap.size ≤ g12 := by omega
              clear hg12
              obtain ⟨us12, uc12, um12, ux12, hb12, -⟩ := hlb_of HI12.out HC12.out
              obtain ⟨G, z⟩ := Z
              dsimp only at HCU hb12 ⊢
              obtain ⟨-, -, -, -, d36, -⟩ := HB8.out.cells
              obtain ⟨-, -, -, -, e36, -⟩ := hb12.cells
              clear hb12 HC12 HI12 HZ12
              rcases HCU.out with ⟨hz, h1, h2⟩ | hz
              · subst hz
                rw [h1] at d36
                rw [h2] at e36
                clear h1 h2 HCU
                go_wp2
                go_ret
                exact ⟨rfl, HS.out⟩
              · subst hz
                clear d36 e36 HCU
                go_wp2
                go_ret
                exact ⟨rfl, HS.out⟩
  · have hq1 : (q != 0) = true := by simpa using hq0
    go_wp2
    go_ret
    exact ⟨rfl, HS.out⟩
end Go.Proofs.Ytdmcmfjhlpnaeaa.L
