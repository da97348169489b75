/- ExtsMore: the walk. -/
import Derived.Test.YtdmcmfjhlpnaeaaEp
set_option linter.unusedVariables false
set_option linter.unusedSimpArgs false
namespace Go.Proofs.Ytdmcmfjhlpnaeaa.L
open Go.RowKit Go.Proofs

/-- []byte{}: just made. -/
theorem Own.empty {α : Type} (enc : α → Value) (e B : Nat) (W : World) (hB : B ≤ W.heap.size) : Own enc e B (W.alloc (.cells #[] e)) (.slice (some ⟨W.heap.size, 0, none⟩) 0 0) [] := by
  have := Own.lit (enc := enc) (e := e) (B := B) (W := W) [] #[] rfl hB (by simp)
  simpa using this

set_option maxRecDepth 100000 in
set_option maxHeartbeats 16000000 in
theorem extsMore_any (v0 v1 v3 : Value) (l : List ByteArray) (v : List Int) (cut : Int) (more : List UInt8) (w : World) (hd0 : Rd str (newB w) w v0 l) (hd1 : Rd (int .i64) (newB w) w v1 v) (hd3 : Rd u8 (newB w) w v3 more)
    (hlz : ∀ s ∈ l, s.size ≤ 140737488351232) :
    Calls Try.prog 18 #[v0, v1, .int .i64 cut, v3] w fun e w' => e = .returned (.bool true) ∧ Stp (fun _ => False) w w' := by
  obtain ⟨A0, c0, rfl, hle0⟩ := hd0.form
  obtain ⟨A1, c1, rfl, hle1⟩ := hd1.form
  obtain ⟨A3, c3, rfl, hle3⟩ := hd3.form
  have HSZ := Lib.hid hlz
  clear hlz
  have HD0 := Lib.hid hd0
  have HD1 := Lib.hid hd1
  have HD3 := Lib.hid hd3
  clear hd0 hd1 hd3
  go_enter Try.func18, Try.ntmps18
  go_wp2_with (go_at_call 37; refine stopc ?_)
  refine Stop.go ?_
  refine (small10_any _).mono ?_
  rintro e w1 ⟨rfl, hs1⟩
  have HS1 := Lib.hid hs1
  clear hs1
  by_cases t1 : (30 : Int) < l.length
  · go_wp2
    go_ret
    exact ⟨rfl, HS1.out⟩
  by_cases t2 : (100 : Int) < v.length
  · go_wp2
    go_ret
    exact ⟨rfl, HS1.out⟩
  by_cases t3 : more.length = 0
  · have t3' : ((more.length : Int) == 0) = true := by simpa using t3
    clear t3
    go_wp2
    go_ret
    exact ⟨rfl, HS1.out⟩
  have t3' : ((more.length : Int) == 0) = false := by simpa using t3
  by_cases t4 : (100 : Int) < more.length
  · go_wp2
    go_ret
    exact ⟨rfl, HS1.out⟩
  have HMP := Lib.hid (show 0 < more.length by omega)
  clear t3
  obtain ⟨pb, hpb⟩ : ∃ p, p = putPrS l := ⟨_, rfl⟩
  obtain ⟨pc, hpc⟩ : ∃ p, p = putVsS v := ⟨_, rfl⟩
  obtain ⟨b, eb⟩ := pb
  obtain ⟨c, ec⟩ := pc
  have HPB := Lib.hid hpb
  have HPC := Lib.hid hpc
  clear hpb hpc
  go_wp2_with (go_at_call 58; refine stopc ?_)
  refine Stop.go ?_
  refine (putPr_any _ _ l _ (HD0.out.stp0 HS1.out) (by omega) HSZ.out).mono ?_
  rw [← HPB.out]
  dsimp only
  rintro e w2 ⟨vb, rfl, ob, hst⟩
  have OB := Lib.hid (ob.rd (h1 := fun _ => rfl) (M := fun _ => False) (fun _ _ => id))
  obtain ⟨Ab, cb, rfl, hleb⟩ := ob.form
  have HS1 := Lib.hid (HS1.out.trans hst)
  clear ob hst
  go_wp2_with (go_at_call 59; refine stopc ?_)
  refine Stop.go ?_
  refine (putVs_any _ _ v _ (HD1.out.stp0 HS1.out) (by omega)).mono ?_
  rw [← HPC.out]
  dsimp only
  rintro e w3 ⟨vc, rfl, oc, hst⟩
  have OC := Lib.hid (oc.rd (h1 := fun _ => rfl) (M := fun _ => False) (fun _ _ => id))
  obtain ⟨Ac, cc, rfl, hlec⟩ := oc.form
  have OB := Lib.hid (OB.out.stp0 hst)
  have HS1 := Lib.hid (HS1.out.trans hst)
  clear oc hst
  have lb : b.length ≤ 70000 := by have := putPr_len l; rw [← HPB.out] at this; exact this
  have lc : c.length ≤ 1000 := by have := putVs_len v; rw [← HPC.out] at this; exact this
  have HCUTB := Lib.hid (fun (m : Nat) (hm : m ≤ b.length) => cut_hi (P := Try.prog) u8 22 5 Try.underlying22 size_u8 Ab b.length cb m hm hleb)
  have HCUTC := Lib.hid (fun (m : Nat) (hm : m ≤ c.length) => cut_hi (P := Try.prog) u8 22 5 Try.underlying22 size_u8 Ac c.length cc m hm hlec)
  go_upto_if 48 with fail
  go_cut [] (fun wx => Stp (fun _ => False) w wx ∧ Rd u8 (fun _ => False) wx (.slice Ac c.length cc) c)
  case first =>
    cases eb with
    | false =>
      go_wp2
      go_meet
      exact ⟨HS1.out, OC.out⟩
    | true =>
      have HM := Lib.hid (fun h => protS_more l h more HMP.out)
      have HC := Lib.hid (fun h => protS_cut l h)
      rw [← HPB.out] at HM HC
      replace HM := Lib.hid (HM.out rfl)
      replace HC := Lib.hid (HC.out rfl)
      obtain ⟨X, hX⟩ : ∃ X : List UInt8, X = b ++ more := ⟨_, rfl⟩
      dsimp only at HM HC
      rw [← hX] at HM
      have hXl : X.length ≤ 70200 := by rw [hX]; simp; omega
      have HX := Lib.hid hX
      clear hX
      go_wp2_with (with_reducible refine stop (N := 52) rfl ?_)
      refine Stop.go ?_
      have oe := Own.empty enc8 5 w3.heap.size w3 (Nat.le_refl _)
      refine wp_appendRd enc8 (h1e := fun _ => rfl) rfl _ _ _ rfl Try.underlying22 info_u8 rfl oe (OB.out.stp0 ((Stp.refl _ _).alloc _)) rfl rfl (by simp; omega) (by simp; omega) (by simp) ?_
      intro va w4 oa ga
      rw [List.nil_append] at oa
      have HSA := Lib.hid (((Stp.refl (fun _ => False) w3).alloc _).own oe ga)
      obtain ⟨Aa, ca, rfl, hlea⟩ := oa.form
      have OA := Lib.hid oa
      clear oa oe ga
      go_wp2_with (with_reducible refine stop (N := 54) rfl ?_)
      refine Stop.go ?_
      refine wp_appendRd enc8 (h1e := fun _ => rfl) rfl _ _ _ rfl Try.underlying22 info_u8 rfl OA.out (HD3.out.stp0 (HS1.out.trans HSA.out)) rfl rfl (by omega) (by omega) HSA.out.size ?_
      intro vm w5 om gm
      rw [← HX.out] at om
      have hsm := HSA.out.own OA.out gm
      obtain ⟨Am, cm, rfl, hlem⟩ := om.form
      have OM := Lib.hid (om.rd (h1 := fun _ => rfl) (M := fun _ => False) (fun _ _ => id))
      have OB := Lib.hid (OB.out.stp0 hsm)
      have OC := Lib.hid (OC.out.stp0 hsm)
      have HS1 := Lib.hid (HS1.out.trans hsm)
      clear hsm gm om
      go_wp2_with (go_at_call 40; refine stopc ?_)
      refine Stop.go ?_
      refine (prot_any _ _ X _ OM.out (by omega)).mono ?_
      rw [HM.out]
      rintro e w6 ⟨v6, rfl, hr, hst⟩
      obtain ⟨A6, c6, rfl, hle6⟩ := hr.form
      have OB := Lib.hid (OB.out.stp0 hst)
      have OC := Lib.hid (OC.out.stp0 hst)
      have HS1 := Lib.hid (HS1.out.trans hst)
      clear hst hr
      by_cases u0 : cut < 0
      · go_wp2
        go_meet
        exact ⟨HS1.out, OC.out⟩
      by_cases u1 : (b.length : Int) ≤ cut
      · go_wp2
        go_meet
        exact ⟨HS1.out, OC.out⟩
      obtain ⟨m, rfl⟩ := Int.eq_ofNat_of_zero_le (show 0 ≤ cut by omega)
      have hm : m < b.length := by omega
      obtain ⟨q1, q2⟩ := HCUTB.out m (by omega)
      have q1 := fun W => q1 W .i64
      have Q2 := Lib.hid q2
      clear q2
      go_wp2_with (go_at_call 40; refine stopc ?_)
      refine Stop.go ?_
      refine (prot_any (fun _ => False) _ (b.take m) _ (Q2.out _ _ _ OB.out) (by simp; omega)).mono ?_
      rw [HC.out m hm]
      rintro e w7 ⟨v7, rfl, hr, hst⟩
      obtain ⟨A7, c7, rfl, hle7⟩ := hr.form
      have OC := Lib.hid (OC.out.stp0 hst)
      have HS1 := Lib.hid (HS1.out.trans hst)
      clear hst hr
      go_wp2
      go_meet
      exact ⟨HS1.out, OC.out⟩
  case rest =>
    clear HS1 OC OB
    obtain ⟨hs1, oc⟩ := hcut
    have HS1 := Lib.hid hs1
    clear hs1
    have OC := Lib.hid oc
    clear oc
    go_upto_if 77 with fail
    go_cut [] (fun wx => Stp (fun _ => False) w wx ∧ True)
    case first =>
      cases ec with
      | false =>
        go_wp2
        go_meet
        exact ⟨HS1.out, trivial⟩
      | true =>
        have HM := Lib.hid (fun h => versS_more v h more HMP.out)
        have HC := Lib.hid (fun h => versS_cut v h)
        rw [← HPC.out] at HM HC
        replace HM := Lib.hid (HM.out rfl)
        replace HC := Lib.hid (HC.out rfl)
        obtain ⟨X, hX⟩ : ∃ X : List UInt8, X = c ++ more := ⟨_, rfl⟩
        dsimp only at HM HC
        rw [← hX] at HM
        have hXl : X.length ≤ 70200 := by rw [hX]; simp; omega
        have HX := Lib.hid hX
        clear hX
        go_wp2_with (with_reducible refine stop (N := 81) rfl ?_)
        refine Stop.go ?_
        have oe := Own.empty enc8 5 wc.heap.size wc (Nat.le_refl _)
        refine wp_appendRd enc8 (h1e := fun _ => rfl) rfl _ _ _ rfl Try.underlying22 info_u8 rfl oe (OC.out.stp0 ((Stp.refl _ _).alloc _)) rfl rfl (by simp; omega) (by simp; omega) (by simp) ?_
        intro va w4 oa ga
        rw [List.nil_append] at oa
        have HSA := Lib.hid (((Stp.refl (fun _ => False) wc).alloc _).own oe ga)
        obtain ⟨Aa, ca, rfl, hlea⟩ := oa.form
        have OA := Lib.hid oa
        clear oa oe ga
        go_wp2_with (with_reducible refine stop (N := 83) rfl ?_)
        refine Stop.go ?_
        refine wp_appendRd enc8 (h1e := fun _ => rfl) rfl _ _ _ rfl Try.underlying22 info_u8 rfl OA.out (HD3.out.stp0 (HS1.out.trans HSA.out)) rfl rfl (by omega) (by omega) HSA.out.size ?_
        intro vm w5 om gm
        rw [← HX.out] at om
        have hsm := HSA.out.own OA.out gm
        obtain ⟨Am, cm, rfl, hlem⟩ := om.form
        have OM := Lib.hid (om.rd (h1 := fun _ => rfl) (M := fun _ => False) (fun _ _ => id))
        have OC := Lib.hid (OC.out.stp0 hsm)
        have HS1 := Lib.hid (HS1.out.trans hsm)
        clear hsm gm om
        go_wp2_with (go_at_call 42; refine stopc ?_)
        refine Stop.go ?_
        refine (vers_any _ _ X _ OM.out (by omega)).mono ?_
        rw [HM.out]
        rintro e w6 ⟨v6, rfl, hr, hst⟩
        obtain ⟨A6, c6, rfl, hle6⟩ := hr.form
        have OC := Lib.hid (OC.out.stp0 hst)
        have HS1 := Lib.hid (HS1.out.trans hst)
        clear hst hr
        by_cases u0 : cut < 0
        · go_wp2
          go_meet
          exact ⟨HS1.out, trivial⟩
        by_cases u1 : (c.length : Int) ≤ cut
        · go_wp2
          go_meet
          exact ⟨HS1.out, trivial⟩
        obtain ⟨m, rfl⟩ := Int.eq_ofNat_of_zero_le (show 0 ≤ cut by omega)
        have hm : m < c.length := by omega
        obtain ⟨q1, q2⟩ := HCUTC.out m (by omega)
        have q1 := fun W => q1 W .i64
        have Q2 := Lib.hid q2
        clear q2
        go_wp2_with (go_at_call 42; refine stopc ?_)
        refine Stop.go ?_
        refine (vers_any (fun _ => False) _ (c.take m) _ (Q2.out _ _ _ OC.out) (by simp; omega)).mono ?_
        rw [HC.out m hm]
        rintro e w7 ⟨v7, rfl, hr, hst⟩
        obtain ⟨A7, c7, rfl, hle7⟩ := hr.form
        have HS1 := Lib.hid (HS1.out.trans hst)
        clear hst hr
        go_wp2
        go_meet
        exact ⟨HS1.out, trivial⟩
    case rest =>
      clear HS1 OC
      obtain ⟨hs1, -⟩ := hcut
      have HS1 := Lib.hid hs1
      clear hs1
      go_wp2
      go_ret
      exact ⟨rfl, HS1.out⟩
end Go.Proofs.Ytdmcmfjhlpnaeaa.L
