/- ExtsPuts, ExtsBack: the walks. -/
import Derived.Test.YtdmcmfjhlpnaeaaPl
set_option linter.unusedVariables false
set_option linter.unusedSimpArgs false
namespace Go.Proofs.Ytdmcmfjhlpnaeaa.L
open Go.RowKit Go.Proofs

theorem putNm_no (s : ByteArray) (h : (putNmS s).2 = false) : (putNmS s).1 = [] := by
  unfold putNmS at h ⊢
  split at h
  · cases h
  · rename_i hc
    rw [if_neg hc]
theorem putNm_yes (s : ByteArray) (h : (putNmS s).2 = true) : mayB s.data.toList = true := by
  unfold putNmS at h
  split at h
  · assumption
  · cases h
theorem putNm_len (s : ByteArray) : (putNmS s).1.length ≤ 1000 := by
  unfold putNmS
  split
  · rename_i h
    have := may_size h
    simp [be_len]
    omega
  · simp
theorem putPr_len (l : List ByteArray) : (putPrS l).1.length ≤ 70000 := by
  unfold putPrS
  split
  · rename_i h
    simp [be_len]
    omega
  · simp
theorem putVs_len (l : List Int) : (putVsS l).1.length ≤ 1000 := by
  unfold putVsS
  split
  · rename_i h
    simp [flatN_len]
    omega
  · simp

set_option maxRecDepth 100000 in
set_option maxHeartbeats 8000000 in
theorem extsPuts_any (s : ByteArray) (v1 v2 : Value) (l : List ByteArray) (v : List Int) (w : World) (hd1 : Rd str (newB w) w v1 l) (hd2 : Rd (int .i64) (newB w) w v2 v) (hz : s.size ≤ 9223372036854775807) :
    Calls Try.prog 19 #[.string s, v1, v2] w fun e w' => e = .returned (.bool true) ∧ Stp (fun _ => False) w w' := by
  obtain ⟨A1, c1, rfl, hle1⟩ := hd1.form
  obtain ⟨A2, c2, rfl, hle2⟩ := hd2.form
  have HD1 := Lib.hid hd1
  have HD2 := Lib.hid hd2
  clear hd1 hd2
  go_enter Try.func19, Try.ntmps19
  go_wp2_with (go_at_call 37; refine stopc ?_)
  refine Stop.go ?_
  refine (small10_any _).mono ?_
  rintro e w1 ⟨rfl, hs1⟩
  have HS1 := Lib.hid hs1
  clear hs1
  by_cases t1 : (1000 : Int) < s.size
  · go_wp2
    go_ret
    exact ⟨rfl, HS1.out⟩
  by_cases t2 : (50 : Int) < l.length
  · go_wp2
    go_ret
    exact ⟨rfl, HS1.out⟩
  by_cases t3 : (300 : Int) < v.length
  · go_wp2
    go_ret
    exact ⟨rfl, HS1.out⟩
  go_wp2
  go_loop [8] (fun i => ∃ k : Nat, k ≤ l.length ∧ i = .int .i64 k ∧ ∀ j (hj : j < l.length), j < k → l[j].size ≤ 500) (fun i => l.length - (intOf i).toNat)
  case atStart => exact ⟨0, Nat.zero_le _, rfl, fun j _ h => absurd h (by omega)⟩
  case round =>
    obtain ⟨k, hk, rfl, hall⟩ := hrel
    have HALL := Lib.hid hall
    clear hall
    by_cases hlt : k < l.length
    · obtain ⟨ad, rfl, _, hcell⟩ := plain_cell (HD1.out.stp0 HS1.out) k hlt
      by_cases h5 : (500 : Int) < l[k].size
      · go_wp2
        go_ret
        exact ⟨rfl, HS1.out⟩
      · have h5' : l[k].size ≤ 500 := by omega
        have H5 := Lib.hid h5'
        clear h5'
        go_wp2
        go_round
        case rel =>
          refine ⟨k + 1, by omega, by go_num, fun j hj h => ?_⟩
          by_cases hjk : j = k
          · subst hjk
            exact H5.out
          · exact HALL.out j hj (by omega)
        case measure => simp [intOf]; omega
    · obtain rfl : k = l.length := by omega
      have hsz : ∀ x ∈ l, x.size ≤ 1000000000 := fun x hx => by
        obtain ⟨j, hj, rfl⟩ := List.mem_iff_getElem.1 hx
        have := HALL.out j hj hj
        omega
      have HSZ := Lib.hid hsz
      clear hsz
      clear HALL hlt
      obtain ⟨pa, hpa⟩ : ∃ p, p = putNmS s := ⟨_, rfl⟩
      obtain ⟨pb, hpb⟩ : ∃ p, p = putPrS l := ⟨_, rfl⟩
      obtain ⟨pc, hpc⟩ : ∃ p, p = putVsS v := ⟨_, rfl⟩
      have HPA := Lib.hid hpa
      have HPB := Lib.hid hpb
      have HPC := Lib.hid hpc
      clear hpa hpb hpc
      go_wp2_with (go_at_call 60; refine stopc ?_)
      refine Stop.go ?_
      refine (putNm_any s _).mono ?_
      rw [← HPA.out]
      rintro e w2 ⟨oav, rfl, oa, hst⟩
      have OA := Lib.hid (oa.rd (h1 := fun _ => rfl) (M := fun _ => False) (fun _ _ => id))
      obtain ⟨AOA, cOA, rfl, hleOA⟩ := oa.form
      have HS1 := Lib.hid (HS1.out.trans hst)
      clear oa hst
      go_wp2_with (go_at_call 61; refine stopc ?_)
      refine Stop.go ?_
      refine (putNmR_any s _ hz).mono ?_
      rw [← HPA.out]
      rintro e w3 ⟨obv, rfl, ob, hst⟩
      have OB := Lib.hid (ob.rd (h1 := fun _ => rfl) (M := fun _ => False) (fun _ _ => id))
      obtain ⟨AOB, cOB, rfl, hleOB⟩ := ob.form
      have OA := Lib.hid (OA.out.stp0 hst)
      have HS1 := Lib.hid (HS1.out.trans hst)
      clear ob hst
      go_wp2_with (go_at_call 58; refine stopc ?_)
      refine Stop.go ?_
      refine (putPr_any _ _ l _ (HD1.out.stp0 HS1.out) (by omega) (fun x hx => Nat.le_trans (HSZ.out x hx) (by decide))).mono ?_
      rw [← HPB.out]
      rintro e w4 ⟨ocv, rfl, oc, hst⟩
      have OC := Lib.hid (oc.rd (h1 := fun _ => rfl) (M := fun _ => False) (fun _ _ => id))
      obtain ⟨AOC, cOC, rfl, hleOC⟩ := oc.form
      have OA := Lib.hid (OA.out.stp0 hst)
      have OB := Lib.hid (OB.out.stp0 hst)
      have HS1 := Lib.hid (HS1.out.trans hst)
      clear oc hst
      go_wp2_with (go_at_call 62; refine stopc ?_)
      refine Stop.go ?_
      refine (putPrR_any _ _ l _ (HD1.out.stp0 HS1.out) (by omega) HSZ.out).mono ?_
      rw [← HPB.out]
      rintro e w5 ⟨odv, rfl, od, hst⟩
      have OD := Lib.hid (od.rd (h1 := fun _ => rfl) (M := fun _ => False) (fun _ _ => id))
      obtain ⟨AOD, cOD, rfl, hleOD⟩ := od.form
      have OA := Lib.hid (OA.out.stp0 hst)
      have OB := Lib.hid (OB.out.stp0 hst)
      have OC := Lib.hid (OC.out.stp0 hst)
      have HS1 := Lib.hid (HS1.out.trans hst)
      clear od hst
      go_wp2_with (go_at_call 59; refine stopc ?_)
      refine Stop.go ?_
      refine (putVs_any _ _ v _ (HD2.out.stp0 HS1.out) (by omega)).mono ?_
      rw [← HPC.out]
      rintro e w6 ⟨oev, rfl, oe, hst⟩
      have OE := Lib.hid (oe.rd (h1 := fun _ => rfl) (M := fun _ => False) (fun _ _ => id))
      obtain ⟨AOE, cOE, rfl, hleOE⟩ := oe.form
      have OA := Lib.hid (OA.out.stp0 hst)
      have OB := Lib.hid (OB.out.stp0 hst)
      have OC := Lib.hid (OC.out.stp0 hst)
      have OD := Lib.hid (OD.out.stp0 hst)
      have HS1 := Lib.hid (HS1.out.trans hst)
      clear oe hst
      go_wp2_with (go_at_call 63; refine stopc ?_)
      refine Stop.go ?_
      refine (putVsR_any _ _ v _ (HD2.out.stp0 HS1.out) (by omega)).mono ?_
      rw [← HPC.out]
      rintro e w7 ⟨ofv, rfl, of, hst⟩
      have OF := Lib.hid (of.rd (h1 := fun _ => rfl) (M := fun _ => False) (fun _ _ => id))
      obtain ⟨AOF, cOF, rfl, hleOF⟩ := of.form
      have OA := Lib.hid (OA.out.stp0 hst)
      have OB := Lib.hid (OB.out.stp0 hst)
      have OC := Lib.hid (OC.out.stp0 hst)
      have OD := Lib.hid (OD.out.stp0 hst)
      have OE := Lib.hid (OE.out.stp0 hst)
      have HS1 := Lib.hid (HS1.out.trans hst)
      clear of hst
      have k1 := conv_of OA.out
      have k2 := conv_of OB.out
      have k3 := conv_of OC.out
      have k4 := conv_of OD.out
      have k5 := conv_of OE.out
      have k6 := conv_of OF.out
      go_wp2
      go_ret
      exact ⟨rfl, HS1.out⟩

set_option maxRecDepth 100000 in
set_option maxHeartbeats 8000000 in
theorem extsBack_any (s : ByteArray) (v1 v2 : Value) (l : List ByteArray) (v : List Int) (w : World) (hd1 : Rd str (newB w) w v1 l) (hd2 : Rd (int .i64) (newB w) w v2 v) (hz : s.size ≤ 9223372036854775807) :
    Calls Try.prog 20 #[.string s, v1, v2] w fun e w' => e = .returned (.bool true) ∧ Stp (fun _ => False) w w' := by
  obtain ⟨A1, c1, rfl, hle1⟩ := hd1.form
  obtain ⟨A2, c2, rfl, hle2⟩ := hd2.form
  have HD1 := Lib.hid hd1
  have HD2 := Lib.hid hd2
  clear hd1 hd2
  go_enter Try.func20, Try.ntmps20
  go_wp2_with (go_at_call 37; refine stopc ?_)
  refine Stop.go ?_
  refine (small10_any _).mono ?_
  rintro e w1 ⟨rfl, hs1⟩
  have HS1 := Lib.hid hs1
  clear hs1
  by_cases t1 : (1000 : Int) < s.size
  · go_wp2
    go_ret
    exact ⟨rfl, HS1.out⟩
  by_cases t2 : (50 : Int) < l.length
  · go_wp2
    go_ret
    exact ⟨rfl, HS1.out⟩
  by_cases t3 : (300 : Int) < v.length
  · go_wp2
    go_ret
    exact ⟨rfl, HS1.out⟩
  go_wp2
  go_loop [8] (fun i => ∃ k : Nat, k ≤ l.length ∧ i = .int .i64 k ∧ ∀ j (hj : j < l.length), j < k → l[j].size ≤ 500) (fun i => l.length - (intOf i).toNat)
  case atStart => exact ⟨0, Nat.zero_le _, rfl, fun j _ h => absurd h (by omega)⟩
  case round =>
    obtain ⟨k, hk, rfl, hall⟩ := hrel
    have HALL := Lib.hid hall
    clear hall
    by_cases hlt : k < l.length
    · obtain ⟨ad, rfl, _, hcell⟩ := plain_cell (HD1.out.stp0 HS1.out) k hlt
      by_cases h5 : (500 : Int) < l[k].size
      · go_wp2
        go_ret
        exact ⟨rfl, HS1.out⟩
      · have h5' : l[k].size ≤ 500 := by omega
        have H5 := Lib.hid h5'
        clear h5'
        go_wp2
        go_round
        case rel =>
          refine ⟨k + 1, by omega, by go_num, fun j hj h => ?_⟩
          by_cases hjk : j = k
          · subst hjk
            exact H5.out
          · exact HALL.out j hj (by omega)
        case measure => simp [intOf]; omega
    · obtain rfl : k = l.length := by omega
      have hsz : ∀ x ∈ l, x.size ≤ 1000000000 := fun x hx => by
        obtain ⟨j, hj, rfl⟩ := List.mem_iff_getElem.1 hx
        have := HALL.out j hj hj
        omega
      have HSZ := Lib.hid hsz
      clear hsz
      clear HALL hlt
      obtain ⟨pa, hpa⟩ : ∃ p, p = putNmS s := ⟨_, rfl⟩
      obtain ⟨pb, hpb⟩ : ∃ p, p = putPrS l := ⟨_, rfl⟩
      obtain ⟨pc, hpc⟩ : ∃ p, p = putVsS v := ⟨_, rfl⟩
      obtain ⟨a, ea⟩ := pa
      obtain ⟨b, eb⟩ := pb
      obtain ⟨c, ec⟩ := pc
      have HPA := Lib.hid hpa
      have HPB := Lib.hid hpb
      have HPC := Lib.hid hpc
      clear hpa hpb hpc
      go_wp2_with (go_at_call 60; refine stopc ?_)
      refine Stop.go ?_
      refine (putNm_any s _).mono ?_
      rw [← HPA.out]
      dsimp only
      rintro e w8 ⟨oav, rfl, oa, hst⟩
      have OA := Lib.hid (oa.rd (h1 := fun _ => rfl) (M := fun _ => False) (fun _ _ => id))
      obtain ⟨AOA, cOA, rfl, hleOA⟩ := oa.form
      have HS1 := Lib.hid (HS1.out.trans hst)
      clear oa hst
      go_wp2_with (go_at_call 58; refine stopc ?_)
      refine Stop.go ?_
      refine (putPr_any _ _ l _ (HD1.out.stp0 HS1.out) (by omega) (fun x hx => Nat.le_trans (HSZ.out x hx) (by decide))).mono ?_
      rw [← HPB.out]
      dsimp only
      rintro e w9 ⟨obv, rfl, ob, hst⟩
      have OB := Lib.hid (ob.rd (h1 := fun _ => rfl) (M := fun _ => False) (fun _ _ => id))
      obtain ⟨AOB, cOB, rfl, hleOB⟩ := ob.form
      have OA := Lib.hid (OA.out.stp0 hst)
      have HS1 := Lib.hid (HS1.out.trans hst)
      clear ob hst
      go_wp2_with (go_at_call 59; refine stopc ?_)
      refine Stop.go ?_
      refine (putVs_any _ _ v _ (HD2.out.stp0 HS1.out) (by omega)).mono ?_
      rw [← HPC.out]
      dsimp only
      rintro e w10 ⟨ocv, rfl, oc, hst⟩
      have OC := Lib.hid (oc.rd (h1 := fun _ => rfl) (M := fun _ => False) (fun _ _ => id))
      obtain ⟨AOC, cOC, rfl, hleOC⟩ := oc.form
      have OA := Lib.hid (OA.out.stp0 hst)
      have OB := Lib.hid (OB.out.stp0 hst)
      have HS1 := Lib.hid (HS1.out.trans hst)
      clear oc hst

      have L1 := Lib.hid (show a.length ≤ 1000 by have := putNm_len s; rw [← HPA.out] at this; exact this)
      have L2 := Lib.hid (show b.length ≤ 70000 by have := putPr_len l; rw [← HPB.out] at this; exact this)
      have L3 := Lib.hid (show c.length ≤ 1000 by have := putVs_len v; rw [← HPC.out] at this; exact this)
      cases ea with
      | true =>
        cases eb with
        | true =>
          cases ec with
          | true =>
            have N := Lib.hid (show nameS a = (s, 0) by have := nameS_put s (putNm_yes s (by rw [← HPA.out])); rw [← HPA.out] at this; exact this)
            have Pn := Lib.hid (show protS b = (l, 0) by have := protS_put l (by rw [← HPB.out]); rw [← HPB.out] at this; exact this)
            have yb : 0 < b.length := by have := (putPr_yes l (by rw [← HPB.out])).2.2.2; rw [← HPB.out] at this; simp only at this; rw [this]; simp [be_len]; omega
            have Vn := Lib.hid (show versS c = (v, 0) by have := versS_put v (by rw [← HPC.out]); rw [← HPC.out] at this; exact this)
            go_wp2_with (go_at_call 38; refine stopc ?_)
            refine Stop.go ?_
            refine (name_any _ _ a _ OA.out (by have := L1.out; omega)).mono ?_
            rw [N.out]
            rintro e w11 ⟨rfl, hst⟩
            have OB := Lib.hid (OB.out.stp0 hst)
            have OC := Lib.hid (OC.out.stp0 hst)
            have HS2 := Lib.hid (HS1.out.trans hst)
            clear hst
            go_wp2_with (go_at_call 40; refine stopc ?_)
            refine Stop.go ?_
            refine (prot_any _ _ b _ OB.out (by have := L2.out; omega)).mono ?_
            rw [Pn.out]
            rintro e w12 ⟨v12, rfl, hr, hst⟩
            obtain ⟨A12, c12, rfl, hle12⟩ := hr.form
            have R12 := Lib.hid (hr.weak (M' := fun _ => False) (by decide) (fun _ _ h => h.elim))
            have OC := Lib.hid (OC.out.stp0 hst)
            have HS2 := Lib.hid (HS2.out.trans hst)
            clear hst hr
            go_wp2_with (go_at_call 42; refine stopc ?_)
            refine Stop.go ?_
            refine (vers_any _ _ c _ OC.out (by have := L3.out; omega)).mono ?_
            rw [Vn.out]
            rintro e w13 ⟨v13, rfl, hr, hst⟩
            obtain ⟨A13, c13, rfl, hle13⟩ := hr.form
            have R13 := Lib.hid (hr.weak (M' := fun _ => False) (by decide) (fun _ _ h => h.elim))
            have R12 := Lib.hid (R12.out.stp0 hst)
            have HS2 := Lib.hid (HS2.out.trans hst)
            clear hst hr
            go_wp2_with (go_at_call 44; refine stopc ?_)
            refine Stop.go ?_
            refine (rows_any _ _ _ _ _ _ R12.out ((HD1.out.stp0 HS2.out).weak (by decide) (fun _ _ h => h.elim)) (by omega) (by omega) true (iff_t rfl)).mono ?_
            rintro e w14 ⟨rfl, hst⟩
            have R13 := Lib.hid (R13.out.stp0 hst)
            have HS2 := Lib.hid (HS2.out.trans hst)
            clear hst
            go_wp2_with (go_at_call 45; refine stopc ?_)
            refine Stop.go ?_
            refine (ints_any _ _ _ _ _ _ R13.out ((HD2.out.stp0 HS2.out).weak (by decide) (fun _ _ h => h.elim)) (by omega) (by omega) true (iff_t rfl)).mono ?_
            rintro e w15 ⟨rfl, hst⟩
            have HS2 := Lib.hid (HS2.out.trans hst)
            clear hst
            go_wp2
            go_ret
            exact ⟨rfl, HS2.out⟩
          | false =>
            have N := Lib.hid (show nameS a = (s, 0) by have := nameS_put s (putNm_yes s (by rw [← HPA.out])); rw [← HPA.out] at this; exact this)
            have Pn := Lib.hid (show protS b = (l, 0) by have := protS_put l (by rw [← HPB.out]); rw [← HPB.out] at this; exact this)
            have yb : 0 < b.length := by have := (putPr_yes l (by rw [← HPB.out])).2.2.2; rw [← HPB.out] at this; simp only at this; rw [this]; simp [be_len]; omega
            have zc : c = [] := by have := putVs_no v (by rw [← HPC.out]); rw [← HPC.out] at this; exact this
            obtain ⟨qs, hqs⟩ : ∃ qs, qs = versS c := ⟨_, rfl⟩
            have Vn := Lib.hid hqs.symm
            have yc := congrArg List.length zc
            clear hqs zc
            have yc0 : ((c.length : Int) == 0) = true := by rw [yc]; rfl
            clear yc
            go_wp2_with (go_at_call 38; refine stopc ?_)
            refine Stop.go ?_
            refine (name_any _ _ a _ OA.out (by have := L1.out; omega)).mono ?_
            rw [N.out]
            rintro e w11 ⟨rfl, hst⟩
            have OB := Lib.hid (OB.out.stp0 hst)
            have OC := Lib.hid (OC.out.stp0 hst)
            have HS2 := Lib.hid (HS1.out.trans hst)
            clear hst
            go_wp2_with (go_at_call 40; refine stopc ?_)
            refine Stop.go ?_
            refine (prot_any _ _ b _ OB.out (by have := L2.out; omega)).mono ?_
            rw [Pn.out]
            rintro e w12 ⟨v12, rfl, hr, hst⟩
            obtain ⟨A12, c12, rfl, hle12⟩ := hr.form
            have R12 := Lib.hid (hr.weak (M' := fun _ => False) (by decide) (fun _ _ h => h.elim))
            have OC := Lib.hid (OC.out.stp0 hst)
            have HS2 := Lib.hid (HS2.out.trans hst)
            clear hst hr
            go_wp2_with (go_at_call 42; refine stopc ?_)
            refine Stop.go ?_
            refine (vers_any _ _ c _ OC.out (by have := L3.out; omega)).mono ?_
            rw [Vn.out]
            rintro e w13 ⟨v13, rfl, hr, hst⟩
            obtain ⟨A13, c13, rfl, hle13⟩ := hr.form
            have R13 := Lib.hid (hr.weak (M' := fun _ => False) (by decide) (fun _ _ h => h.elim))
            have R12 := Lib.hid (R12.out.stp0 hst)
            have HS2 := Lib.hid (HS2.out.trans hst)
            clear hst hr
            go_wp2_with (go_at_call 44; refine stopc ?_)
            refine Stop.go ?_
            refine (rows_any _ _ _ _ _ _ R12.out ((HD1.out.stp0 HS2.out).weak (by decide) (fun _ _ h => h.elim)) (by omega) (by omega) true (iff_t rfl)).mono ?_
            rintro e w14 ⟨rfl, hst⟩
            have R13 := Lib.hid (R13.out.stp0 hst)
            have HS2 := Lib.hid (HS2.out.trans hst)
            clear hst
            go_wp2
            go_ret
            exact ⟨rfl, HS2.out⟩
        | false =>
          cases ec with
          | true =>
            have N := Lib.hid (show nameS a = (s, 0) by have := nameS_put s (putNm_yes s (by rw [← HPA.out])); rw [← HPA.out] at this; exact this)
            have zb : b = [] := by have := putPr_no l (by rw [← HPB.out]); rw [← HPB.out] at this; exact this
            obtain ⟨ps, hps⟩ : ∃ ps, ps = protS b := ⟨_, rfl⟩
            have Pn := Lib.hid hps.symm
            have yb := congrArg List.length zb
            clear hps zb
            have yb0 : ((b.length : Int) == 0) = true := by rw [yb]; rfl
            have yb1 : ¬ 0 < b.length := by rw [yb]; decide
            clear yb
            have Vn := Lib.hid (show versS c = (v, 0) by have := versS_put v (by rw [← HPC.out]); rw [← HPC.out] at this; exact this)
            go_wp2_with (go_at_call 38; refine stopc ?_)
            refine Stop.go ?_
            refine (name_any _ _ a _ OA.out (by have := L1.out; omega)).mono ?_
            rw [N.out]
            rintro e w11 ⟨rfl, hst⟩
            have OB := Lib.hid (OB.out.stp0 hst)
            have OC := Lib.hid (OC.out.stp0 hst)
            have HS2 := Lib.hid (HS1.out.trans hst)
            clear hst
            go_wp2_with (go_at_call 40; refine stopc ?_)
            refine Stop.go ?_
            refine (prot_any _ _ b _ OB.out (by have := L2.out; omega)).mono ?_
            rw [Pn.out]
            rintro e w12 ⟨v12, rfl, hr, hst⟩
            obtain ⟨A12, c12, rfl, hle12⟩ := hr.form
            have R12 := Lib.hid (hr.weak (M' := fun _ => False) (by decide) (fun _ _ h => h.elim))
            have OC := Lib.hid (OC.out.stp0 hst)
            have HS2 := Lib.hid (HS2.out.trans hst)
            clear hst hr
            go_wp2_with (go_at_call 42; refine stopc ?_)
            refine Stop.go ?_
            refine (vers_any _ _ c _ OC.out (by have := L3.out; omega)).mono ?_
            rw [Vn.out]
            rintro e w13 ⟨v13, rfl, hr, hst⟩
            obtain ⟨A13, c13, rfl, hle13⟩ := hr.form
            have R13 := Lib.hid (hr.weak (M' := fun _ => False) (by decide) (fun _ _ h => h.elim))
            have R12 := Lib.hid (R12.out.stp0 hst)
            have HS2 := Lib.hid (HS2.out.trans hst)
            clear hst hr
            go_wp2_with (go_at_call 45; refine stopc ?_)
            refine Stop.go ?_
            refine (ints_any _ _ _ _ _ _ R13.out ((HD2.out.stp0 HS2.out).weak (by decide) (fun _ _ h => h.elim)) (by omega) (by omega) true (iff_t rfl)).mono ?_
            rintro e w15 ⟨rfl, hst⟩
            have HS2 := Lib.hid (HS2.out.trans hst)
            clear hst
            go_wp2
            go_ret
            exact ⟨rfl, HS2.out⟩
          | false =>
            have N := Lib.hid (show nameS a = (s, 0) by have := nameS_put s (putNm_yes s (by rw [← HPA.out])); rw [← HPA.out] at this; exact this)
            have zb : b = [] := by have := putPr_no l (by rw [← HPB.out]); rw [← HPB.out] at this; exact this
            obtain ⟨ps, hps⟩ : ∃ ps, ps = protS b := ⟨_, rfl⟩
            have Pn := Lib.hid hps.symm
            have yb := congrArg List.length zb
            clear hps zb
            have yb0 : ((b.length : Int) == 0) = true := by rw [yb]; rfl
            have yb1 : ¬ 0 < b.length := by rw [yb]; decide
            clear yb
            have zc : c = [] := by have := putVs_no v (by rw [← HPC.out]); rw [← HPC.out] at this; exact this
            obtain ⟨qs, hqs⟩ : ∃ qs, qs = versS c := ⟨_, rfl⟩
            have Vn := Lib.hid hqs.symm
            have yc := congrArg List.length zc
            clear hqs zc
            have yc0 : ((c.length : Int) == 0) = true := by rw [yc]; rfl
            clear yc
            go_wp2_with (go_at_call 38; refine stopc ?_)
            refine Stop.go ?_
            refine (name_any _ _ a _ OA.out (by have := L1.out; omega)).mono ?_
            rw [N.out]
            rintro e w11 ⟨rfl, hst⟩
            have OB := Lib.hid (OB.out.stp0 hst)
            have OC := Lib.hid (OC.out.stp0 hst)
            have HS2 := Lib.hid (HS1.out.trans hst)
            clear hst
            go_wp2_with (go_at_call 40; refine stopc ?_)
            refine Stop.go ?_
            refine (prot_any _ _ b _ OB.out (by have := L2.out; omega)).mono ?_
            rw [Pn.out]
            rintro e w12 ⟨v12, rfl, hr, hst⟩
            obtain ⟨A12, c12, rfl, hle12⟩ := hr.form
            have R12 := Lib.hid (hr.weak (M' := fun _ => False) (by decide) (fun _ _ h => h.elim))
            have OC := Lib.hid (OC.out.stp0 hst)
            have HS2 := Lib.hid (HS2.out.trans hst)
            clear hst hr
            go_wp2_with (go_at_call 42; refine stopc ?_)
            refine Stop.go ?_
            refine (vers_any _ _ c _ OC.out (by have := L3.out; omega)).mono ?_
            rw [Vn.out]
            rintro e w13 ⟨v13, rfl, hr, hst⟩
            obtain ⟨A13, c13, rfl, hle13⟩ := hr.form
            have R13 := Lib.hid (hr.weak (M' := fun _ => False) (by decide) (fun _ _ h => h.elim))
            have R12 := Lib.hid (R12.out.stp0 hst)
            have HS2 := Lib.hid (HS2.out.trans hst)
            clear hst hr
            go_wp2
            go_ret
            exact ⟨rfl, HS2.out⟩
      | false =>
        cases eb with
        | true =>
          cases ec with
          | true =>
            have za : a = [] := by have := putNm_no s (by rw [← HPA.out]); rw [← HPA.out] at this; exact this
            obtain ⟨ns, hns⟩ : ∃ ns, ns = nameS a := ⟨_, rfl⟩
            have N := Lib.hid hns.symm
            have ya := congrArg List.length za
            clear hns za
            have ya0 : ((a.length : Int) == 0) = true := by rw [ya]; rfl
            clear ya
            have Pn := Lib.hid (show protS b = (l, 0) by have := protS_put l (by rw [← HPB.out]); rw [← HPB.out] at this; exact this)
            have yb : 0 < b.length := by have := (putPr_yes l (by rw [← HPB.out])).2.2.2; rw [← HPB.out] at this; simp only at this; rw [this]; simp [be_len]; omega
            have Vn := Lib.hid (show versS c = (v, 0) by have := versS_put v (by rw [← HPC.out]); rw [← HPC.out] at this; exact this)
            go_wp2_with (go_at_call 38; refine stopc ?_)
            refine Stop.go ?_
            refine (name_any _ _ a _ OA.out (by have := L1.out; omega)).mono ?_
            rw [N.out]
            rintro e w11 ⟨rfl, hst⟩
            have OB := Lib.hid (OB.out.stp0 hst)
            have OC := Lib.hid (OC.out.stp0 hst)
            have HS2 := Lib.hid (HS1.out.trans hst)
            clear hst
            go_wp2_with (go_at_call 40; refine stopc ?_)
            refine Stop.go ?_
            refine (prot_any _ _ b _ OB.out (by have := L2.out; omega)).mono ?_
            rw [Pn.out]
            rintro e w12 ⟨v12, rfl, hr, hst⟩
            obtain ⟨A12, c12, rfl, hle12⟩ := hr.form
            have R12 := Lib.hid (hr.weak (M' := fun _ => False) (by decide) (fun _ _ h => h.elim))
            have OC := Lib.hid (OC.out.stp0 hst)
            have HS2 := Lib.hid (HS2.out.trans hst)
            clear hst hr
            go_wp2_with (go_at_call 42; refine stopc ?_)
            refine Stop.go ?_
            refine (vers_any _ _ c _ OC.out (by have := L3.out; omega)).mono ?_
            rw [Vn.out]
            rintro e w13 ⟨v13, rfl, hr, hst⟩
            obtain ⟨A13, c13, rfl, hle13⟩ := hr.form
            have R13 := Lib.hid (hr.weak (M' := fun _ => False) (by decide) (fun _ _ h => h.elim))
            have R12 := Lib.hid (R12.out.stp0 hst)
            have HS2 := Lib.hid (HS2.out.trans hst)
            clear hst hr
            go_wp2_with (go_at_call 44; refine stopc ?_)
            refine Stop.go ?_
            refine (rows_any _ _ _ _ _ _ R12.out ((HD1.out.stp0 HS2.out).weak (by decide) (fun _ _ h => h.elim)) (by omega) (by omega) true (iff_t rfl)).mono ?_
            rintro e w14 ⟨rfl, hst⟩
            have R13 := Lib.hid (R13.out.stp0 hst)
            have HS2 := Lib.hid (HS2.out.trans hst)
            clear hst
            go_wp2_with (go_at_call 45; refine stopc ?_)
            refine Stop.go ?_
            refine (ints_any _ _ _ _ _ _ R13.out ((HD2.out.stp0 HS2.out).weak (by decide) (fun _ _ h => h.elim)) (by omega) (by omega) true (iff_t rfl)).mono ?_
            rintro e w15 ⟨rfl, hst⟩
            have HS2 := Lib.hid (HS2.out.trans hst)
            clear hst
            go_wp2
            go_ret
            exact ⟨rfl, HS2.out⟩
          | false =>
            have za : a = [] := by have := putNm_no s (by rw [← HPA.out]); rw [← HPA.out] at this; exact this
            obtain ⟨ns, hns⟩ : ∃ ns, ns = nameS a := ⟨_, rfl⟩
            have N := Lib.hid hns.symm
            have ya := congrArg List.length za
            clear hns za
            have ya0 : ((a.length : Int) == 0) = true := by rw [ya]; rfl
            clear ya
            have Pn := Lib.hid (show protS b = (l, 0) by have := protS_put l (by rw [← HPB.out]); rw [← HPB.out] at this; exact this)
            have yb : 0 < b.length := by have := (putPr_yes l (by rw [← HPB.out])).2.2.2; rw [← HPB.out] at this; simp only at this; rw [this]; simp [be_len]; omega
            have zc : c = [] := by have := putVs_no v (by rw [← HPC.out]); rw [← HPC.out] at this; exact this
            obtain ⟨qs, hqs⟩ : ∃ qs, qs = versS c := ⟨_, rfl⟩
            have Vn := Lib.hid hqs.symm
            have yc := congrArg List.length zc
            clear hqs zc
            have yc0 : ((c.length : Int) == 0) = true := by rw [yc]; rfl
            clear yc
            go_wp2_with (go_at_call 38; refine stopc ?_)
            refine Stop.go ?_
            refine (name_any _ _ a _ OA.out (by have := L1.out; omega)).mono ?_
            rw [N.out]
            rintro e w11 ⟨rfl, hst⟩
            have OB := Lib.hid (OB.out.stp0 hst)
            have OC := Lib.hid (OC.out.stp0 hst)
            have HS2 := Lib.hid (HS1.out.trans hst)
            clear hst
            go_wp2_with (go_at_call 40; refine stopc ?_)
            refine Stop.go ?_
            refine (prot_any _ _ b _ OB.out (by have := L2.out; omega)).mono ?_
            rw [Pn.out]
            rintro e w12 ⟨v12, rfl, hr, hst⟩
            obtain ⟨A12, c12, rfl, hle12⟩ := hr.form
            have R12 := Lib.hid (hr.weak (M' := fun _ => False) (by decide) (fun _ _ h => h.elim))
            have OC := Lib.hid (OC.out.stp0 hst)
            have HS2 := Lib.hid (HS2.out.trans hst)
            clear hst hr
            go_wp2_with (go_at_call 42; refine stopc ?_)
            refine Stop.go ?_
            refine (vers_any _ _ c _ OC.out (by have := L3.out; omega)).mono ?_
            rw [Vn.out]
            rintro e w13 ⟨v13, rfl, hr, hst⟩
            obtain ⟨A13, c13, rfl, hle13⟩ := hr.form
            have R13 := Lib.hid (hr.weak (M' := fun _ => False) (by decide) (fun _ _ h => h.elim))
            have R12 := Lib.hid (R12.out.stp0 hst)
            have HS2 := Lib.hid (HS2.out.trans hst)
            clear hst hr
            go_wp2_with (go_at_call 44; refine stopc ?_)
            refine Stop.go ?_
            refine (rows_any _ _ _ _ _ _ R12.out ((HD1.out.stp0 HS2.out).weak (by decide) (fun _ _ h => h.elim)) (by omega) (by omega) true (iff_t rfl)).mono ?_
            rintro e w14 ⟨rfl, hst⟩
            have R13 := Lib.hid (R13.out.stp0 hst)
            have HS2 := Lib.hid (HS2.out.trans hst)
            clear hst
            go_wp2
            go_ret
            exact ⟨rfl, HS2.out⟩
        | false =>
          cases ec with
          | true =>
            have za : a = [] := by have := putNm_no s (by rw [← HPA.out]); rw [← HPA.out] at this; exact this
            obtain ⟨ns, hns⟩ : ∃ ns, ns = nameS a := ⟨_, rfl⟩
            have N := Lib.hid hns.symm
            have ya := congrArg List.length za
            clear hns za
            have ya0 : ((a.length : Int) == 0) = true := by rw [ya]; rfl
            clear ya
            have zb : b = [] := by have := putPr_no l (by rw [← HPB.out]); rw [← HPB.out] at this; exact this
            obtain ⟨ps, hps⟩ : ∃ ps, ps = protS b := ⟨_, rfl⟩
            have Pn := Lib.hid hps.symm
            have yb := congrArg List.length zb
            clear hps zb
            have yb0 : ((b.length : Int) == 0) = true := by rw [yb]; rfl
            have yb1 : ¬ 0 < b.length := by rw [yb]; decide
            clear yb
            have Vn := Lib.hid (show versS c = (v, 0) by have := versS_put v (by rw [← HPC.out]); rw [← HPC.out] at this; exact this)
            go_wp2_with (go_at_call 38; refine stopc ?_)
            refine Stop.go ?_
            refine (name_any _ _ a _ OA.out (by have := L1.out; omega)).mono ?_
            rw [N.out]
            rintro e w11 ⟨rfl, hst⟩
            have OB := Lib.hid (OB.out.stp0 hst)
            have OC := Lib.hid (OC.out.stp0 hst)
            have HS2 := Lib.hid (HS1.out.trans hst)
            clear hst
            go_wp2_with (go_at_call 40; refine stopc ?_)
            refine Stop.go ?_
            refine (prot_any _ _ b _ OB.out (by have := L2.out; omega)).mono ?_
            rw [Pn.out]
            rintro e w12 ⟨v12, rfl, hr, hst⟩
            obtain ⟨A12, c12, rfl, hle12⟩ := hr.form
            have R12 := Lib.hid (hr.weak (M' := fun _ => False) (by decide) (fun _ _ h => h.elim))
            have OC := Lib.hid (OC.out.stp0 hst)
            have HS2 := Lib.hid (HS2.out.trans hst)
            clear hst hr
            go_wp2_with (go_at_call 42; refine stopc ?_)
            refine Stop.go ?_
            refine (vers_any _ _ c _ OC.out (by have := L3.out; omega)).mono ?_
            rw [Vn.out]
            rintro e w13 ⟨v13, rfl, hr, hst⟩
            obtain ⟨A13, c13, rfl, hle13⟩ := hr.form
            have R13 := Lib.hid (hr.weak (M' := fun _ => False) (by decide) (fun _ _ h => h.elim))
            have R12 := Lib.hid (R12.out.stp0 hst)
            have HS2 := Lib.hid (HS2.out.trans hst)
            clear hst hr
            go_wp2_with (go_at_call 45; refine stopc ?_)
            refine Stop.go ?_
            refine (ints_any _ _ _ _ _ _ R13.out ((HD2.out.stp0 HS2.out).weak (by decide) (fun _ _ h => h.elim)) (by omega) (by omega) true (iff_t rfl)).mono ?_
            rintro e w15 ⟨rfl, hst⟩
            have HS2 := Lib.hid (HS2.out.trans hst)
            clear hst
            go_wp2
            go_ret
            exact ⟨rfl, HS2.out⟩
          | false =>
            have za : a = [] := by have := putNm_no s (by rw [← HPA.out]); rw [← HPA.out] at this; exact this
            obtain ⟨ns, hns⟩ : ∃ ns, ns = nameS a := ⟨_, rfl⟩
            have N := Lib.hid hns.symm
            have ya := congrArg List.length za
            clear hns za
            have ya0 : ((a.length : Int) == 0) = true := by rw [ya]; rfl
            clear ya
            have zb : b = [] := by have := putPr_no l (by rw [← HPB.out]); rw [← HPB.out] at this; exact this
            obtain ⟨ps, hps⟩ : ∃ ps, ps = protS b := ⟨_, rfl⟩
            have Pn := Lib.hid hps.symm
            have yb := congrArg List.length zb
            clear hps zb
            have yb0 : ((b.length : Int) == 0) = true := by rw [yb]; rfl
            have yb1 : ¬ 0 < b.length := by rw [yb]; decide
            clear yb
            have zc : c = [] := by have := putVs_no v (by rw [← HPC.out]); rw [← HPC.out] at this; exact this
            obtain ⟨qs, hqs⟩ : ∃ qs, qs = versS c := ⟨_, rfl⟩
            have Vn := Lib.hid hqs.symm
            have yc := congrArg List.length zc
            clear hqs zc
            have yc0 : ((c.length : Int) == 0) = true := by rw [yc]; rfl
            clear yc
            go_wp2_with (go_at_call 38; refine stopc ?_)
            refine Stop.go ?_
            refine (name_any _ _ a _ OA.out (by have := L1.out; omega)).mono ?_
            rw [N.out]
            rintro e w11 ⟨rfl, hst⟩
            have OB := Lib.hid (OB.out.stp0 hst)
            have OC := Lib.hid (OC.out.stp0 hst)
            have HS2 := Lib.hid (HS1.out.trans hst)
            clear hst
            go_wp2_with (go_at_call 40; refine stopc ?_)
            refine Stop.go ?_
            refine (prot_any _ _ b _ OB.out (by have := L2.out; omega)).mono ?_
            rw [Pn.out]
            rintro e w12 ⟨v12, rfl, hr, hst⟩
            obtain ⟨A12, c12, rfl, hle12⟩ := hr.form
            have R12 := Lib.hid (hr.weak (M' := fun _ => False) (by decide) (fun _ _ h => h.elim))
            have OC := Lib.hid (OC.out.stp0 hst)
            have HS2 := Lib.hid (HS2.out.trans hst)
            clear hst hr
            go_wp2_with (go_at_call 42; refine stopc ?_)
            refine Stop.go ?_
            refine (vers_any _ _ c _ OC.out (by have := L3.out; omega)).mono ?_
            rw [Vn.out]
            rintro e w13 ⟨v13, rfl, hr, hst⟩
            obtain ⟨A13, c13, rfl, hle13⟩ := hr.form
            have R13 := Lib.hid (hr.weak (M' := fun _ => False) (by decide) (fun _ _ h => h.elim))
            have R12 := Lib.hid (R12.out.stp0 hst)
            have HS2 := Lib.hid (HS2.out.trans hst)
            clear hst hr
            go_wp2
            go_ret
            exact ⟨rfl, HS2.out⟩
end Go.Proofs.Ytdmcmfjhlpnaeaa.L
