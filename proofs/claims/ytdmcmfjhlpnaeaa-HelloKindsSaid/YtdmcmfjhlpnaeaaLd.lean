/- Extensions are found by their kinds, and no kind is there twice. -/
import Derived.Test.YtdmcmfjhlpnaeaaLe
set_option linter.unusedVariables false
set_option linter.unusedSimpArgs false
namespace Go.Proofs.Ytdmcmfjhlpnaeaa.L
open Go.RowKit Go.Proofs

set_option maxRecDepth 100000 in
set_option maxHeartbeats 8000000 in
theorem helloKinds_any (v0 : Value) (b : List UInt8) (kind : Int) (w : World) (hd : Rd u8 (newB w) w v0 b) (hb : b.length ≤ 140737488355328) :
    Calls Try.prog 16 #[v0, .int .i64 kind] w fun e w' => e = .returned (.bool true) ∧ Stp (fun _ => False) w w' := by
  obtain ⟨A0, c0, rfl, hle0⟩ := hd.form
  have HS := Lib.hid (Stp.refl (fun _ => False) w)
  have HD := Lib.hid (hd.weak (M' := fun _ => False) (by decide) (fun _ _ h => h.elim))
  clear hd
  obtain ⟨lb, hlb⟩ : ∃ lb, lb = decide (3000 < (b.length : Int)) := ⟨_, rfl⟩
  have HLB := Lib.hid hlb
  replace hlb := hlb.symm
  go_enter Try.func16, Try.ntmps16
  go_wp2_with (go_at_call 50; refine stopc ?_)
  refine Stop.go ?_
  refine (small9_any _).mono ?_
  rintro e w1 ⟨rfl, hs⟩
  have HD := Lib.hid (HD.out.stp0 hs)
  have HS := Lib.hid (HS.out.trans hs)
  clear hs
  obtain ⟨Y, hY⟩ : ∃ Y, Y = parseS b := ⟨_, rfl⟩
  have HY := Lib.hid hY
  clear hY
  go_wp2_with (go_at_call 51; refine stopc ?_)
  refine Stop.go ?_
  refine (parseH_any _ _ b _ HD.out hb).mono ?_
  unfold ParseRet
  rw [← HY.out]
  rintro e w2 ⟨cs6, rfl, hi, hs⟩
  have hltw2 := hs.size
  have HD := Lib.hid (HD.out.stp0 hs)
  have HS := Lib.hid (HS.out.trans hs)
  clear hs
  obtain ⟨hbx, heq, w3, hw, hc, hs⟩ := box_hl w2 cs6 hi.size
  rw [hlV0] at hbx heq hw
  have HBX := Lib.hid hbx
  have HEQ := Lib.hid heq
  have HW := Lib.hid hw
  have HZ6 := Lib.hid hi.info
  have HON := Lib.hid hi.one
  have HC6 := Lib.hid hc
  have HI6 := Lib.hid (hi.stp0 hs)
  have hltw3 := hs.size
  clear hbx heq hw hc
  have HD := Lib.hid (HD.out.stp0 hs)
  have HS := Lib.hid (HS.out.trans hs)
  clear hs hi
  go_wp2_with (refine wpList_store_row rfl _ _ _ rfl w2.heap.size cs6 rfl rfl _ _ HBX.out HZ6.out HEQ.out HON.out ?_; rw [HW.out]; refine stopw ?_)
  refine Stop.go ?_
  clear HBX HEQ HW HON
  obtain ⟨g6, hg6⟩ : ∃ g, g = w2.heap.size := ⟨_, rfl⟩
  rw [← hg6] at HC6 ⊢
  have hge6 : w2.heap.size ≤ g6 := by omega
  clear hg6
  obtain ⟨H, q⟩ := Y
  dsimp only at HI6 ⊢
  by_cases hq0 : q = 0
  · subst hq0
    cases lb with
    | true =>
      go_wp2
      go_ret
      exact ⟨rfl, HS.out⟩
    | false =>
      have hb3 : b.length ≤ 3000 := by
        have := HLB.out.symm
        rw [decide_eq_false_iff_not] at this
        omega
      have hfw := parse_few b (by rw [← HY.out])
      rw [← HY.out] at hfw
      dsimp only at hfw
      have HXL := Lib.hid (few_sm H (by omega))
      have hdp : dup H.exs = false := by
        obtain ⟨x, e, ho, -, -⟩ := parse_ok b (by rw [← HY.out])
        rw [← HY.out] at e
        injection e with e
        rw [e]
        exact (wrong_zero x (ok_parts x ho).2.2.2.2.2.2.2.2.2.1).2.2.2.2
      have HDP := Lib.hid hdp
      have hxl := HXL.out.2.2.2.1
      obtain ⟨us6, uc6, um6, ux6, hb6, hx6⟩ := hlb_of HI6.out HC6.out
      obtain ⟨A6, c6, rfl, hle6⟩ := hx6.form
      have HX := Lib.hid hx6
      have HB := Lib.hid hb6
      obtain ⟨-, -, -, -, -, c37⟩ := hb6.cells
      clear hdp hb6 hx6
      go_wp2_with fail
      go_loopw [8, 9] (fun n i wr => ∃ (k m : Nat), k ≤ H.exs.length ∧ i = .int .i64 k ∧ n = .int .i64 m ∧ ((m = 1 ∧ ∃ j, ∃ hj : j < H.exs.length, j < k ∧ H.exs[j].1 = kind) ∨ (m = 0 ∧ ∀ j, ∀ hj : j < H.exs.length, j < k → H.exs[j].1 ≠ kind)) ∧ Stp (fun _ => False) w3 wr) (fun _ i _ => H.exs.length - (intOf i).toNat)
      case atStart => exact ⟨0, 0, Nat.zero_le _, rfl, rfl, .inr ⟨rfl, fun j _ h => absurd h (by omega)⟩, Stp.refl _ _⟩
      case round =>
        obtain ⟨k, m, hk, rfl, rfl, hm, hst⟩ := hrel
        have HM := Lib.hid hm
        have HST := Lib.hid hst
        have HTR := Lib.hid (HS.out.trans hst)
        have hm1 : m ≤ 1 := by rcases hm with ⟨h, _⟩ | ⟨h, _⟩ <;> omega
        have hc6 := hst.blk HC6.out id
        have hxr := HX.out.stp0 hst
        have hir := HI6.out.stp0 hst
        clear c37 hm hst
        obtain ⟨-, -, -, -, -, c37⟩ := (HB.out.stp0 HST.out).cells
        have HCr := Lib.hid hc6
        have HIr := Lib.hid hir
        have HXr := Lib.hid hxr
        clear hc6 hir hxr
        by_cases hlt : k < H.exs.length
        · obtain ⟨ad, v, rfl, hnM, hcell1, hcell2, hv⟩ := ext_cell HXr.out k hlt
          obtain ⟨x, hxe⟩ : ∃ x, x = H.exs[k] := ⟨_, rfl⟩
          have HFO := Lib.hid (find_own H.exs HDP.out k hlt)
          have hdl := HXL.out.2.2.2.2 _ (List.getElem_mem hlt)
          rw [← hxe] at hcell1 hv HFO hdl
          have HXE := Lib.hid hxe
          obtain ⟨Av, cv, rfl, hlev⟩ := hv.form
          have HV := Lib.hid (hv.weak (M' := fun _ => False) (by decide) (fun _ _ h => h.elim))
          have HC1 := Lib.hid hcell1
          have HC2 := Lib.hid hcell2
          have HC37 := Lib.hid c37
          clear hxe hv hnM
          go_wp2_with fail
          refine wp_region_held_drew (S := (fun w' => w'.cell? ⟨g6, 37, none⟩ = some (.slice (some ad) H.exs.length c6) ∧ w'.cell? (ad.add (k * 2)) = some (.int .i64 x.1))) (by kernel_rfl) (⟨c37, hcell1⟩) (fun hHeld => ?_)
          try (change wpAnyH _ _ _ _ _ _ _ _ (World.drew _))
          refine rg_take (i := 1) (o := { dst := some 37, op := Op.fieldAddr 62 (Operand.tmp 6) 6, type := 0, pos := "law.go:120", after := #[], guard := none }) (v := ?rgv1) rfl (by kernel_rfl) (by kernel_rfl) (by kernel_rfl) (fun _ _ _ h => h) (by rfl) (fun w hSw => ?rgy1) hHeld ?_
          case rgy1 => (try dsimp only at hSw); first | (go_simp; done) | (go_simp; with_reducible rfl)
          try simp only [Act.put, List.setIfInBounds_toArray, List.set_cons_zero, List.set_cons_succ]
          refine rg_take (i := 2) (o := { dst := some 38, op := Op.load 60 (Operand.tmp 37), type := 60, pos := "law.go:120", after := #[{ on := 1, ground := Ground.data }], guard := none }) (v := ?rgv2) rfl (by kernel_rfl) (by kernel_rfl) (by kernel_rfl) (fun _ _ _ h => h) (by rfl) (fun w hSw => ?rgy2) hHeld ?_
          case rgy2 => (try dsimp only at hSw); first | (go_simp; done) | (go_simp; with_reducible rfl)
          try simp only [Act.put, List.setIfInBounds_toArray, List.set_cons_zero, List.set_cons_succ]
          refine rg_take (i := 3) (o := { dst := some 39, op := Op.move (Operand.tmp 9), type := 3, pos := "law.go:120", after := #[], guard := none }) (v := ?rgv3) rfl (by kernel_rfl) (by kernel_rfl) (by kernel_rfl) (fun _ _ _ h => h) (by rfl) (fun w hSw => ?rgy3) hHeld ?_
          case rgy3 => (try dsimp only at hSw); first | (go_simp; done) | (go_simp; with_reducible rfl)
          try simp only [Act.put, List.setIfInBounds_toArray, List.set_cons_zero, List.set_cons_succ]
          refine rg_take (i := 4) (o := { dst := some 40, op := Op.indexAddr 60 (Operand.tmp 38) (Operand.tmp 39), type := 0, pos := "law.go:120", after := #[{ on := 2, ground := Ground.data }, { on := 3, ground := Ground.data }], guard := none }) (v := ?rgv4) rfl (by kernel_rfl) (by kernel_rfl) (by kernel_rfl) (fun _ _ _ h => h) (by rfl) (fun w hSw => ?rgy4) hHeld ?_
          case rgy4 => (try dsimp only at hSw); first | (go_simp; done) | (go_simp; with_reducible rfl)
          try simp only [Act.put, List.setIfInBounds_toArray, List.set_cons_zero, List.set_cons_succ]
          refine rg_take (i := 5) (o := { dst := some 41, op := Op.fieldAddr 70 (Operand.tmp 40) 0, type := 0, pos := "law.go:120", after := #[{ on := 4, ground := Ground.data }], guard := none }) (v := ?rgv5) rfl (by kernel_rfl) (by kernel_rfl) (by kernel_rfl) (fun _ _ _ h => h) (by rfl) (fun w hSw => ?rgy5) hHeld ?_
          case rgy5 => (try dsimp only at hSw); first | (go_simp; done) | (go_simp; with_reducible rfl)
          try simp only [Act.put, List.setIfInBounds_toArray, List.set_cons_zero, List.set_cons_succ]
          refine rg_take (i := 6) (o := { dst := some 42, op := Op.load 3 (Operand.tmp 41), type := 3, pos := "law.go:120", after := #[{ on := 5, ground := Ground.data }], guard := none }) (v := ?rgv6) rfl (by kernel_rfl) (by kernel_rfl) (by kernel_rfl) (fun _ _ _ h => h) (by rfl) (fun w hSw => ?rgy6) hHeld ?_
          case rgy6 => (try dsimp only at hSw); first | (go_simp; done) | (go_simp; with_reducible rfl)
          try simp only [Act.put, List.setIfInBounds_toArray, List.set_cons_zero, List.set_cons_succ]
          refine wpAnyH_ready (rs := [0]) (by kernel_rfl) (by simp) ?_
          refine (AllReadyH.cons (o := { dst := some 36, op := Op.load 62 (Operand.tmp 6), type := 62, pos := "law.go:120", after := #[], guard := none }) rfl (fun K hK => ?_) AllReadyH.nil)
          refine wp_load_row _ _ rfl g6 rfl _ cs6 (0, 0) _ (((Stp.refl (fun _ => False) wr).drew).blk HCr.out id) Try.underlying62 rfl HZ6.out ?_
          show K _ _
          clear hHeld
          refine hK.out _ _ (⟨c37, hcell1⟩) (fun hHeld => ?_)
          clear hK K
          try simp only [Act.put, List.setIfInBounds_toArray, List.set_cons_zero, List.set_cons_succ]
          refine wpAnyH_ready (rs := [7]) (by kernel_rfl) (by simp) ?_
          refine (AllReadyH.cons (o := { dst := some 43, op := Op.call { callee := Callee.value (Operand.func 56), args := #[Operand.tmp 36, Operand.tmp 42], argTypes := #[62, 3] }, type := 25, pos := "law.go:120", after := #[{ on := 0, ground := Ground.data }, { on := 6, ground := Ground.data }], guard := none }) rfl (fun K hK => ?_) AllReadyH.nil)
          go_simp
          refine (find_hl (HIr.out.stp0 ((Stp.refl _ wr).drew)) x.1 (by omega) (fun y hy => by have := HXL.out.2.2.2.2 y hy; omega)).mono ?_
          rw [HFO.out]
          rintro e wf ⟨v10, rfl, hr10, hs10⟩
          replace hs10 := ((Stp.refl (fun _ => False) wr).drew).trans hs10
          have hk1 : wf.cell? ⟨g6, 37, none⟩ = some (.slice (some ad) H.exs.length c6) ∧ wf.cell? (ad.add (k * 2)) = some (.int .i64 x.1) := ⟨hs10.cell HC37.out id, hs10.cell HC1.out id⟩
          show K _ _
          clear hHeld
          refine hK.out _ _ (hk1) (fun hHeld => ?_)
          clear hK K
          try simp only [Act.put, List.setIfInBounds_toArray, List.set_cons_zero, List.set_cons_succ]
          refine rg_take (i := 8) (o := { dst := some 35, op := Op.move (Operand.tmp 43), type := 25, pos := "law.go:120", after := #[{ on := 7, ground := Ground.data }], guard := none }) (v := ?rgv7) rfl (by kernel_rfl) (by kernel_rfl) (by kernel_rfl) (fun _ _ _ h => h) (by rfl) (fun w hSw => ?rgy7) hHeld ?_
          case rgy7 => (try dsimp only at hSw); first | (go_simp; done) | (go_simp; with_reducible rfl)
          try simp only [Act.put, List.setIfInBounds_toArray, List.set_cons_zero, List.set_cons_succ]
          refine rg_take (i := 9) (o := { dst := some 44, op := Op.extract (Operand.tmp 35) 0, type := 22, pos := "law.go:120", after := #[{ on := 8, ground := Ground.data }], guard := none }) (v := ?rgv8) rfl (by kernel_rfl) (by kernel_rfl) (by kernel_rfl) (fun _ _ _ h => h) (by rfl) (fun w hSw => ?rgy8) hHeld ?_
          case rgy8 => (try dsimp only at hSw); first | (go_simp; done) | (go_simp; with_reducible rfl)
          try simp only [Act.put, List.setIfInBounds_toArray, List.set_cons_zero, List.set_cons_succ]
          refine rg_take (i := 10) (o := { dst := some 45, op := Op.extract (Operand.tmp 35) 1, type := 4, pos := "law.go:120", after := #[{ on := 8, ground := Ground.data }, { on := 11, ground := Ground.gcOnly Departure.lateStores }], guard := none }) (v := ?rgv9) rfl (by kernel_rfl) (by kernel_rfl) (by kernel_rfl) (fun _ _ _ h => h) (by rfl) (fun w hSw => ?rgy9) hHeld ?_
          case rgy9 => (try dsimp only at hSw); first | (go_simp; done) | (go_simp; with_reducible rfl)
          try simp only [Act.put, List.setIfInBounds_toArray, List.set_cons_zero, List.set_cons_succ]
          refine rg_take (i := 11) (o := { dst := some 10, op := Op.assign (Operand.tmp 44), type := 22, pos := "law.go:120", after := #[{ on := 9, ground := Ground.data }, { on := 7, ground := Ground.chain }, { on := 0, ground := Ground.phase }, { on := 1, ground := Ground.phase }, { on := 2, ground := Ground.phase }, { on := 3, ground := Ground.phase }, { on := 4, ground := Ground.phase }, { on := 5, ground := Ground.phase }, { on := 6, ground := Ground.phase }, { on := 7, ground := Ground.phase }, { on := 8, ground := Ground.phase }, { on := 9, ground := Ground.phase }, { on := 10, ground := Ground.textOnly Departure.lateStores }], guard := none }) (v := ?rgv10) rfl (by kernel_rfl) (by kernel_rfl) (by kernel_rfl) (fun _ _ _ h => h) (by rfl) (fun w hSw => ?rgy10) hHeld ?_
          case rgy10 => (try dsimp only at hSw); first | (go_simp; done) | (go_simp; with_reducible rfl)
          try simp only [Act.put, List.setIfInBounds_toArray, List.set_cons_zero, List.set_cons_succ]
          refine rg_take (i := 12) (o := { dst := some 11, op := Op.assign (Operand.tmp 45), type := 4, pos := "law.go:120", after := #[{ on := 10, ground := Ground.data }, { on := 11, ground := Ground.chain }, { on := 0, ground := Ground.phase }, { on := 1, ground := Ground.phase }, { on := 2, ground := Ground.phase }, { on := 3, ground := Ground.phase }, { on := 4, ground := Ground.phase }, { on := 5, ground := Ground.phase }, { on := 6, ground := Ground.phase }, { on := 7, ground := Ground.phase }, { on := 8, ground := Ground.phase }, { on := 9, ground := Ground.phase }, { on := 10, ground := Ground.phase }, { on := 11, ground := Ground.phase }], guard := none }) (v := ?rgv11) rfl (by kernel_rfl) (by kernel_rfl) (by kernel_rfl) (fun _ _ _ h => h) (by rfl) (fun w hSw => ?rgy11) hHeld ?_
          case rgy11 => (try dsimp only at hSw); first | (go_simp; done) | (go_simp; with_reducible rfl)
          try simp only [Act.put, List.setIfInBounds_toArray, List.set_cons_zero, List.set_cons_succ]
          clear hHeld
          refine wpAnyH_done (by kernel_rfl) ?_ _
          skip
          have R10 := Lib.hid (show Rd u8 (fun _ => False) wf v10 x.2 from hr10.weak (by decide) (fun _ _ h => h.elim))
          obtain ⟨A10, c10, rfl, hle10⟩ := R10.out.form
          have hst2 := HST.out.trans hs10
          have HST2 := Lib.hid hst2
          have HTR2 := Lib.hid (HS.out.trans hst2)
          have hcell2 := hs10.cell HC2.out id
          have hcell1 := hs10.cell HC1.out id
          have hcva := fun n => conv_of (R10.out.stp0 ((Stp.refl (fun _ => False) wf).drewN n))
          have hcvb := fun n => conv_of (HV.out.stp0 (hs10.trans ((Stp.refl (fun _ => False) wf).drewN n)))
          obtain ⟨-, -, -, -, -, c37⟩ := (HB.out.stp0 hst2).cells
          have heq : ((strB x.2).toList == (strB x.2).toList) = true := by simp
          clear hr10 hs10 hst2 hk1 HC1 HC2 HC37
          go_wp2_with fail
          go_quiet (fail)
          by_cases hkd : x.1 = kind
          · have hkd' : (x.1 == kind) = true := by simpa using hkd
            have hm0 : m = 0 := by
              rcases HM.out with ⟨-, j, hj, hjk, e⟩ | ⟨h, -⟩
              · exact absurd (e.trans (hkd.symm.trans (by rw [HXE.out]))) (kinds_apart H.exs HDP.out j k hj hlt hjk)
              · exact h
            subst hm0
            have HKD := Lib.hid hkd
            clear hkd
            go_wp2
            go_roundw
            case rel => exact ⟨k + 1, 1, by omega, by go_num, by go_num, .inl ⟨rfl, k, hlt, by omega, by rw [← HXE.out]; exact HKD.out⟩, HST2.out.drewN _⟩
            case measure => simp [intOf]; omega
          · have hkd' : (x.1 == kind) = false := by simpa using hkd
            have HKD := Lib.hid hkd
            clear hkd
            go_wp2
            go_roundw
            case rel =>
              refine ⟨k + 1, m, by omega, by go_num, rfl, ?_, HST2.out.drewN _⟩
              rcases HM.out with ⟨h, j, hj, hjk, e⟩ | ⟨h, h2⟩
              · exact .inl ⟨h, j, hj, by omega, e⟩
              · refine .inr ⟨h, fun j hj hjk => ?_⟩
                by_cases hjk2 : j = k
                · subst hjk2
                  rw [← HXE.out]
                  exact HKD.out
                · exact h2 j hj (by omega)
            case measure => simp [intOf]; omega
        · obtain rfl : k = H.exs.length := by omega
          obtain ⟨fi, hfi⟩ : ∃ fi, fi = (findS H.exs kind).2 := ⟨_, rfl⟩
          have hfm : fi = ((m : Int) == 1) := by
            rw [hfi, Bool.eq_iff_iff, find_iff]
            rcases HM.out with ⟨h, j, hj, hjk, e⟩ | ⟨h, h2⟩
            · rw [h]
              exact ⟨fun _ => rfl, fun _ => ⟨j, hj, e⟩⟩
            · rw [h]
              refine ⟨fun ⟨j, hj, e⟩ => absurd e (h2 j hj hj), fun e => by cases e⟩
          have HFI := Lib.hid hfi
          have HFM := Lib.hid hfm
          clear hfi hfm
          go_wp2_with (with_reducible refine stop (N := 71) rfl ?_)
          refine Stop.go ?_
          refine wpList_load_row rfl _ _ rfl g6 rfl _ cs6 (0, 0) _ HCr.out Try.underlying62 rfl HZ6.out ?_
          go_wp2_with (go_at_call 56; refine stopc ?_)
          refine Stop.go ?_
          refine (find_hl HIr.out kind (by omega) (fun y hy => by have := HXL.out.2.2.2.2 y hy; omega)).mono ?_
          rw [← HFI.out]
          rintro e wf ⟨v12, rfl, hr12, hs12⟩
          have HSF := Lib.hid (HTR.out.trans hs12)
          clear hr12 hs12
          have hmm : m = 0 ∨ m = 1 := by omega
          rcases hmm with hmm | hmm
          · subst hmm
            obtain rfl : fi = false := HFM.out
            go_wp2
            go_ret
            exact ⟨rfl, HSF.out⟩
          · subst hmm
            obtain rfl : fi = true := HFM.out
            go_wp2
            go_ret
            exact ⟨rfl, HSF.out⟩
  · have hq1 : (q != 0) = true := by simpa using hq0
    go_wp2
    go_ret
    exact ⟨rfl, HS.out⟩
end Go.Proofs.Ytdmcmfjhlpnaeaa.L
