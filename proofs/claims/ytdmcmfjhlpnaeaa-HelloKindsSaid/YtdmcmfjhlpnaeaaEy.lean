/- The document's own See; what is seen is compared. -/
import Derived.Test.YtdmcmfjhlpnaeaaHk
set_option linter.unusedVariables false
set_option linter.unusedSimpArgs false
namespace Go.Proofs.Ytdmcmfjhlpnaeaa.L
open Go.RowKit Go.Proofs

theorem alloc3 (w : World) (o0 o1 o2 : Obj) : ∃ W, ((w.alloc o0).alloc o1).alloc o2 = W ∧ W.heap.size = w.heap.size + 1 + 1 + 1 ∧ W.heap[w.heap.size]? = some o0 ∧ W.heap[w.heap.size + 1]? = some o1 ∧ W.heap[w.heap.size + 1 + 1]? = some o2 ∧ Stp (fun _ => False) w W := by
  refine ⟨_, rfl, by simp, ?_, ?_, ?_, (((Stp.refl _ _).alloc _).alloc _).alloc _⟩
  · exact (((Stp.refl (fun _ => False) (w.alloc o0)).alloc o1).alloc o2).blk (heap_alloc_new w o0) id
  · have := ((Stp.refl (fun _ => False) ((w.alloc o0).alloc o1)).alloc o2).blk (heap_alloc_new (w.alloc o0) o1) id
    simpa using this
  · have := heap_alloc_new ((w.alloc o0).alloc o1) o2
    simpa using this

set_option maxRecDepth 10000 in
set_option maxHeartbeats 8000000 in
theorem seeR_any (M : Nat → Prop) (cs : Array Value) (A : Option Addr) (c : Nat) (xs : List (Int × List UInt8)) (w : World) (hcs : cs.size = 38) (hc : ∀ h : 37 < cs.size, cs[37] = .slice A xs.length c) (h : Rd extK M w (.slice A xs.length c) xs) (hl : xs.length ≤ 1000000000) (hd : ∀ x ∈ xs, x.2.length ≤ 1000000000) (hM : ∀ k, w.heap.size ≤ k → ¬ M k) :
    Calls Try.prog 48 #[.agg cs] w fun e w' => ∃ v, e = .returned (.tuple #[v, .int .i64 (seeS xs).2]) ∧ IsSn (fun k => k < w.heap.size) w' v (seeS xs).1 ∧ Stp (fun _ => False) w w' := by
  have H := Lib.hid h
  have HD := Lib.hid hd
  have HC := Lib.hid hc
  have HM := Lib.hid hM
  clear h hd hc hM
  go_enter Try.func48, Try.ntmps48
  go_wp2_with (with_reducible refine stop (N := 14) rfl ?_)
  refine Stop.go ?_
  obtain ⟨w1, hW, hsz1, hb0, hb1, hb2, hs1⟩ := alloc3 w (.cells cs 62) (.cells #[.bool false, .string ⟨#[]⟩, .slice none 0 0, .slice none 0 0, .bool false] 65) (.cells #[.bool false, .string ⟨#[]⟩, .slice none 0 0, .slice none 0 0, .bool false] 65)
  rw [hW]
  clear hW
  generalize e1 : w.heap.size + 1 = b1 at *
  generalize e2 : b1 + 1 = b2 at *
  have HB0 := Lib.hid hb0
  have HB1 := Lib.hid hb1
  have HB2 := Lib.hid hb2
  have HS1 := Lib.hid hs1
  clear hb0 hb1 hb2 hs1
  refine wpList_load_row rfl _ _ rfl w.heap.size rfl _ cs (0, 0) _ HB0.out Try.underlying62 rfl (by rw [hcs]; kernel_rfl) ?_
  go_wp2_with (go_at_call 57; refine stopc ?_)
  refine Stop.go ?_
  refine (findR_any M cs A c xs _ _ hcs HC.out (H.out.stp0 HS1.out) hl (HM.out _ (by omega))).mono ?_
  rintro e w2 ⟨v2, rfl, hr2, hs2⟩
  obtain ⟨A2, c2, rfl, hle2⟩ := hr2.form
  have HR2 := Lib.hid hr2
  have hq2 := hs2.blk HB2.out id
  have HQ0 := Lib.hid (hs2.blk HB0.out id)
  have HQ1 := Lib.hid (hs2.blk HB1.out id)
  have HQ2 := Lib.hid hq2
  have HS2 := Lib.hid (HS1.out.trans hs2)
  clear hr2 hs2 hq2 HB0 HB1 HB2
  go_upto_if 18 with fail
  go_cut [] (fun wx => Stp (fun _ => False) w wx ∧ wx.heap[w.heap.size]? = some (.cells cs 62 (0, 0)) ∧ wx.heap[b1]? = some (.cells #[.bool false, .string ⟨#[]⟩, .slice none 0 0, .slice none 0 0, .bool false] 65 (0, 0)) ∧ wx.heap[b2]? = some (.cells #[.bool (findS xs 0).2, .string (nmP xs).1, .slice none 0 0, .slice none 0 0, .bool false] 65 (0, 0)) ∧ (nmP xs).2 = 0)
  case first =>
    generalize hbn : (findS xs 0).2 = bn at *
    cases bn with
    | true =>
      have hnm : nmP xs = nameS (findS xs 0).1 := by unfold nmP; rw [if_pos hbn]
      go_wp2_with (go_at_call 39; refine stopc ?_)
      refine Stop.go ?_
      refine (nameR_any _ _ _ _ HR2.out (findS_len _ _ _ HD.out)).mono ?_
      rw [← hnm]
      clear hnm
      rintro e w4 ⟨rfl, hs4⟩
      have hp1 := hs4.blk HQ1.out id
      have hp2 := hs4.blk HQ2.out id
      have HP0 := Lib.hid (hs4.blk HQ0.out id)
      have HS4 := Lib.hid (HS2.out.trans hs4)
      clear hs4
      by_cases he : (nmP xs).2 ≠ 0
      · have hb : ((nmP xs).2 != 0) = true := by simpa using he
        have hse : seeS xs = (Sn.zero, (nmP xs).2) := by
          unfold seeS
          rw [if_pos he]
        have hc10 := blk_cell (j := 0) hp1
        have hc11 := blk_cell (j := 1) hp1
        have hc12 := blk_cell (j := 2) hp1
        have hc13 := blk_cell (j := 3) hp1
        have hc14 := blk_cell (j := 4) hp1
        have hf10 := blk_free hp1 0
        have hf11 := blk_free hp1 1
        have hf12 := blk_free hp1 2
        have hf13 := blk_free hp1 3
        have hf14 := blk_free hp1 4
        have HSE := Lib.hid hse
        have HP1 := Lib.hid hp1
        clear hse hp1
        clear he hp2
        go_wp2
        try simp only [Exit.inBlock, Exit.then]
        refine bodyPost_ret (results_row_tmp rfl _ _ b1 _ _ _ _ rfl (blk_set (blk_set (blk_set (blk_set (blk_set HP1.out 0 _) 1 _) 2 _) 3 _) 4 _) Try.underlying65 rfl (by kernel_rfl)) rfl ⟨_, by rw [HSE.out]; rfl, by rw [HSE.out]; exact ⟨_, _, rfl, Rd.nil _ _ _, Rd.nil _ _ _⟩, ?_⟩
        exact Stp.then_ (T := fun k => k = b1) HS4.out ((((((Stp.refl _ _).setg 0 _).setg 1 _).setg 2 _).setg 3 _).setg 4 _) (fun k hk he => by omega)
      · have hb : ((nmP xs).2 != 0) = false := by simpa using he
        have HE := Lib.hid (show (nmP xs).2 = 0 by simpa using he)
        have hc20 := blk_cell (j := 0) hp2
        have hc21 := blk_cell (j := 1) hp2
        have hf20 := blk_free hp2 0
        have hf21 := blk_free hp2 1
        have HP1 := Lib.hid hp1
        have HP2 := Lib.hid hp2
        clear hp1 hp2
        clear he
        have hne : ¬ b2 = b1 := by omega
        go_wp2
        go_meet
        have hstp : Stp (fun k => k = b2) w4 ((w4.setCell ⟨b2, 0, none⟩ (.bool true)).setCell ⟨b2, 1, none⟩ (.string (nmP xs).1)) := ((Stp.refl _ _).setg 0 _).setg 1 _
        refine ⟨Stp.then_ HS4.out hstp (fun k hk he => by omega), hstp.blk HP0.out (by omega), hstp.blk HP1.out (by omega), ?_, HE.out⟩
        simpa using blk_set (blk_set HP2.out 0 (.bool true)) 1 (.string (nmP xs).1)
    | false =>
      have hnm : nmP xs = (⟨#[]⟩, 0) := by unfold nmP; rw [if_neg (by rw [hbn]; decide)]
      go_wp2
      go_meet
      exact ⟨HS2.out, HQ0.out, HQ1.out, by rw [hnm]; exact HQ2.out, by rw [hnm]⟩
  case rest =>
    clear HQ0 HQ1 HQ2 HS2 HR2
    obtain ⟨hs, q0, q1, q2, hn0⟩ := hcut
    have HS := Lib.hid hs
    have Q0 := Lib.hid q0
    have Q1 := Lib.hid q1
    have Q2 := Lib.hid q2
    have HN0 := Lib.hid hn0
    clear hs q0 q1 q2 hn0
    go_wp2_with (with_reducible refine stop (N := 32) rfl ?_)
    refine Stop.go ?_
    refine wpList_load_row rfl _ _ rfl w.heap.size rfl _ cs (0, 0) _ Q0.out Try.underlying62 rfl (by rw [hcs]; kernel_rfl) ?_
    go_wp2_with (go_at_call 57; refine stopc ?_)
    refine Stop.go ?_
    have hsz2 := HS.out.size
    refine (findR_any M cs A c xs _ _ hcs HC.out (H.out.stp0 HS.out) hl (HM.out _ (by omega))).mono ?_
    rintro e w3 ⟨v2, rfl, hr2, hs2⟩
    obtain ⟨A3, c3, rfl, hle3⟩ := hr2.form
    have HR2 := Lib.hid hr2
    have HQ0 := Lib.hid (hs2.blk Q0.out id)
    have HQ1 := Lib.hid (hs2.blk Q1.out id)
    have HQ2 := Lib.hid (hs2.blk Q2.out id)
    have HS2 := Lib.hid (HS.out.trans hs2)
    have hb2lt : b2 < w3.heap.size := blk_lt HQ2.out
    clear hr2 hs2
    go_upto_if 36 with fail
    go_cut [] (fun wx => Stp (fun _ => False) w wx ∧ wx.heap[w.heap.size]? = some (.cells cs 62 (0, 0)) ∧ wx.heap[b1]? = some (.cells #[.bool false, .string ⟨#[]⟩, .slice none 0 0, .slice none 0 0, .bool false] 65 (0, 0)) ∧ (∃ va, Rd str (fun k => k ≤ b2) wx va (alP xs).1 ∧ wx.heap[b2]? = some (.cells #[.bool (findS xs 0).2, .string (nmP xs).1, va, .slice none 0 0, .bool false] 65 (0, 0))) ∧ (alP xs).2 = 0)
    case first =>
      generalize hbn : (findS xs 16).2 = bn at *
      cases bn with
      | true =>
        have hnm : alP xs = protS (findS xs 16).1 := by unfold alP; rw [if_pos hbn]
        go_wp2_with (go_at_call 41; refine stopc ?_)
        refine Stop.go ?_
        refine (protR_any _ _ _ _ HR2.out (findS_len _ _ _ HD.out)).mono ?_
        rw [← hnm]
        clear hnm
        rintro e w4 ⟨vn, rfl, hvn, hs4⟩
        obtain ⟨An, cn, rfl, hlen⟩ := hvn.form
        have hp1 := hs4.blk HQ1.out id
        have hp2 := hs4.blk HQ2.out id
        have HP0 := Lib.hid (hs4.blk HQ0.out id)
        have HS4 := Lib.hid (HS2.out.trans hs4)
        have HVN := Lib.hid hvn
        clear hs4 hvn
        by_cases he : (alP xs).2 ≠ 0
        · have hb : ((alP xs).2 != 0) = true := by simpa using he
          have hse : seeS xs = (Sn.zero, (alP xs).2) := by
            unfold seeS
            rw [if_neg (by rw [HN0.out]; decide), if_pos he]
          have hc10 := blk_cell (j := 0) hp1
          have hc11 := blk_cell (j := 1) hp1
          have hc12 := blk_cell (j := 2) hp1
          have hc13 := blk_cell (j := 3) hp1
          have hc14 := blk_cell (j := 4) hp1
          have hf10 := blk_free hp1 0
          have hf11 := blk_free hp1 1
          have hf12 := blk_free hp1 2
          have hf13 := blk_free hp1 3
          have hf14 := blk_free hp1 4
          have HSE := Lib.hid hse
          have HP1 := Lib.hid hp1
          clear hse hp1
          clear he hp2
          go_wp2
          try simp only [Exit.inBlock, Exit.then]
          refine bodyPost_ret (results_row_tmp rfl _ _ b1 _ _ _ _ rfl (blk_set (blk_set (blk_set (blk_set (blk_set HP1.out 0 _) 1 _) 2 _) 3 _) 4 _) Try.underlying65 rfl (by kernel_rfl)) rfl ⟨_, by rw [HSE.out]; rfl, by rw [HSE.out]; exact ⟨_, _, rfl, Rd.nil _ _ _, Rd.nil _ _ _⟩, ?_⟩
          exact Stp.then_ (T := fun k => k = b1) HS4.out ((((((Stp.refl _ _).setg 0 _).setg 1 _).setg 2 _).setg 3 _).setg 4 _) (fun k hk he => by omega)
        · have hb : ((alP xs).2 != 0) = false := by simpa using he
          have HE := Lib.hid (show (alP xs).2 = 0 by simpa using he)
          have hc22 := blk_cell (j := 2) hp2
          have hf22 := blk_free hp2 2
          have HP1 := Lib.hid hp1
          have HP2 := Lib.hid hp2
          clear hp1 hp2
          clear he
          have hne : ¬ b2 = b1 := by omega
          go_wp2
          go_meet
          have hstp : Stp (fun k => k = b2) w4 (w4.setCell ⟨b2, 2, none⟩ (.slice An (alP xs).1.length cn)) := (Stp.refl _ _).setg 2 _
          refine ⟨Stp.then_ HS4.out hstp (fun k hk he => by omega), hstp.blk HP0.out (by omega), hstp.blk HP1.out (by omega), ⟨_, (HVN.out.weak (M' := fun k => k ≤ b2) (by decide) (fun k hk h => by omega)).step hstp (fun k hk he => by omega), ?_⟩, HE.out⟩
          simpa using blk_set HP2.out 2 (.slice An (alP xs).1.length cn)
      | false =>
        have hnm : alP xs = ([], 0) := by unfold alP; rw [if_neg (by rw [hbn]; decide)]
        go_wp2
        go_meet
        exact ⟨HS2.out, HQ0.out, HQ1.out, ⟨_, by rw [hnm]; exact Rd.nil _ _ _, HQ2.out⟩, by rw [hnm]⟩
    case rest =>
      clear HQ0 HQ1 HQ2 HS2 HR2 HS Q0 Q1 Q2
      obtain ⟨hs, q0, q1, ⟨va, hva, q2⟩, hn1⟩ := hcut
      obtain ⟨Aa, ca, rfl, hlea⟩ := hva.form
      have HS := Lib.hid hs
      have Q0 := Lib.hid q0
      have Q1 := Lib.hid q1
      have Q2 := Lib.hid q2
      have HN1 := Lib.hid hn1
      have HVA := Lib.hid hva
      clear hs q0 q1 q2 hn1 hva
      go_wp2_with (with_reducible refine stop (N := 49) rfl ?_)
      refine Stop.go ?_
      refine wpList_load_row rfl _ _ rfl w.heap.size rfl _ cs (0, 0) _ Q0.out Try.underlying62 rfl (by rw [hcs]; kernel_rfl) ?_
      go_wp2_with (go_at_call 57; refine stopc ?_)
      refine Stop.go ?_
      have hsz3 := HS.out.size
      refine (findR_any M cs A c xs _ _ hcs HC.out (H.out.stp0 HS.out) hl (HM.out _ (by omega))).mono ?_
      rintro e w5 ⟨v2, rfl, hr2, hs2⟩
      obtain ⟨A4, c4, rfl, hle4⟩ := hr2.form
      have HR2 := Lib.hid hr2
      have HQ0 := Lib.hid (hs2.blk Q0.out id)
      have HQ1 := Lib.hid (hs2.blk Q1.out id)
      have HQ2 := Lib.hid (hs2.blk Q2.out id)
      have HS2 := Lib.hid (HS.out.trans hs2)
      have HVA := Lib.hid (HVA.out.stp0 hs2)
      have hb2lt : b2 < w5.heap.size := blk_lt HQ2.out
      clear hr2 hs2
      go_upto_if 53 with fail
      go_cut [] (fun wx => Stp (fun _ => False) w wx ∧ wx.heap[w.heap.size]? = some (.cells cs 62 (0, 0)) ∧ wx.heap[b1]? = some (.cells #[.bool false, .string ⟨#[]⟩, .slice none 0 0, .slice none 0 0, .bool false] 65 (0, 0)) ∧ (∃ va vv, Rd str (fun k => k ≤ b2) wx va (alP xs).1 ∧ Rd (int .i64) (fun k => k ≤ b2) wx vv (vsP xs).1 ∧ wx.heap[b2]? = some (.cells #[.bool (findS xs 0).2, .string (nmP xs).1, va, vv, .bool false] 65 (0, 0))) ∧ (vsP xs).2 = 0)
      case first =>
        generalize hbn : (findS xs 43).2 = bn at *
        cases bn with
        | true =>
          have hnm : vsP xs = versS (findS xs 43).1 := by unfold vsP; rw [if_pos hbn]
          go_wp2_with (go_at_call 43; refine stopc ?_)
          refine Stop.go ?_
          refine (versR_any _ _ _ _ HR2.out (findS_len _ _ _ HD.out)).mono ?_
          rw [← hnm]
          clear hnm
          rintro e w4 ⟨vn, rfl, hvn, hs4⟩
          obtain ⟨An, cn, rfl, hlen⟩ := hvn.form
          have hp1 := hs4.blk HQ1.out id
          have hp2 := hs4.blk HQ2.out id
          have HP0 := Lib.hid (hs4.blk HQ0.out id)
          have HS4 := Lib.hid (HS2.out.trans hs4)
          have HVN := Lib.hid hvn
          have HVA := Lib.hid (HVA.out.stp0 hs4)
          clear hs4 hvn
          by_cases he : (vsP xs).2 ≠ 0
          · have hb : ((vsP xs).2 != 0) = true := by simpa using he
            have hse : seeS xs = (Sn.zero, (vsP xs).2) := by
              unfold seeS
              rw [if_neg (by rw [HN0.out]; decide), if_neg (by rw [HN1.out]; decide), if_pos he]
            have hc10 := blk_cell (j := 0) hp1
            have hc11 := blk_cell (j := 1) hp1
            have hc12 := blk_cell (j := 2) hp1
            have hc13 := blk_cell (j := 3) hp1
            have hc14 := blk_cell (j := 4) hp1
            have hf10 := blk_free hp1 0
            have hf11 := blk_free hp1 1
            have hf12 := blk_free hp1 2
            have hf13 := blk_free hp1 3
            have hf14 := blk_free hp1 4
            have HSE := Lib.hid hse
            have HP1 := Lib.hid hp1
            clear hse hp1
            clear he hp2
            go_wp2
            try simp only [Exit.inBlock, Exit.then]
            refine bodyPost_ret (results_row_tmp rfl _ _ b1 _ _ _ _ rfl (blk_set (blk_set (blk_set (blk_set (blk_set HP1.out 0 _) 1 _) 2 _) 3 _) 4 _) Try.underlying65 rfl (by kernel_rfl)) rfl ⟨_, by rw [HSE.out]; rfl, by rw [HSE.out]; exact ⟨_, _, rfl, Rd.nil _ _ _, Rd.nil _ _ _⟩, ?_⟩
            exact Stp.then_ (T := fun k => k = b1) HS4.out ((((((Stp.refl _ _).setg 0 _).setg 1 _).setg 2 _).setg 3 _).setg 4 _) (fun k hk he => by omega)
          · have hb : ((vsP xs).2 != 0) = false := by simpa using he
            have HE := Lib.hid (show (vsP xs).2 = 0 by simpa using he)
            have hc23 := blk_cell (j := 3) hp2
            have hf23 := blk_free hp2 3
            have HP1 := Lib.hid hp1
            have HP2 := Lib.hid hp2
            clear hp1 hp2
            clear he
            have hne : ¬ b2 = b1 := by omega
            go_wp2
            go_meet
            have hstp : Stp (fun k => k = b2) w4 (w4.setCell ⟨b2, 3, none⟩ (.slice An (vsP xs).1.length cn)) := (Stp.refl _ _).setg 3 _
            refine ⟨Stp.then_ HS4.out hstp (fun k hk he => by omega), hstp.blk HP0.out (by omega), hstp.blk HP1.out (by omega), ⟨_, _, HVA.out.step hstp (fun k hk he => by omega), (HVN.out.weak (M' := fun k => k ≤ b2) (by decide) (fun k hk h => by omega)).step hstp (fun k hk he => by omega), ?_⟩, HE.out⟩
            simpa using blk_set HP2.out 3 (.slice An (vsP xs).1.length cn)
        | false =>
          have hnm : vsP xs = ([], 0) := by unfold vsP; rw [if_neg (by rw [hbn]; decide)]
          go_wp2
          go_meet
          exact ⟨HS2.out, HQ0.out, HQ1.out, ⟨_, _, HVA.out, by rw [hnm]; exact Rd.nil _ _ _, HQ2.out⟩, by rw [hnm]⟩
      case rest =>
        clear HQ0 HQ1 HQ2 HS2 HR2 HS Q0 Q1 Q2 HVA
        obtain ⟨hs, q0, q1, ⟨va2, vv, hva, hvv, q2⟩, hn2⟩ := hcut
        obtain ⟨Ab, cb, rfl, hleb⟩ := hva.form
        obtain ⟨Av, cv, rfl, hlev⟩ := hvv.form
        have hse : seeS xs = (⟨(findS xs 0).2, (nmP xs).1, (alP xs).1, (vsP xs).1, (findS xs 65037).2⟩, 0) := by
          unfold seeS
          rw [if_neg (by rw [HN0.out]; decide), if_neg (by rw [HN1.out]; decide), if_neg (by rw [hn2]; decide)]
        have HS := Lib.hid hs
        have Q0 := Lib.hid q0
        have Q1 := Lib.hid q1
        have Q2 := Lib.hid q2
        have HN2 := Lib.hid hn2
        have HVA := Lib.hid hva
        have HVV := Lib.hid hvv
        have HSE := Lib.hid hse
        clear hs q0 q1 q2 hn2 hva hvv hse
        go_wp2_with (with_reducible refine stop (N := 66) rfl ?_)
        refine Stop.go ?_
        refine wpList_load_row rfl _ _ rfl w.heap.size rfl _ cs (0, 0) _ Q0.out Try.underlying62 rfl (by rw [hcs]; kernel_rfl) ?_
        go_wp2_with (go_at_call 57; refine stopc ?_)
        refine Stop.go ?_
        have hsz4 := HS.out.size
        refine (findR_any M cs A c xs _ _ hcs HC.out (H.out.stp0 HS.out) hl (HM.out _ (by omega))).mono ?_
        rintro e w9 ⟨v9, rfl, hr9, hs9⟩
        obtain ⟨A9, c9, rfl, hle9⟩ := hr9.form
        have q1 := hs9.blk Q1.out id
        have q2 := hs9.blk Q2.out id
        have HT1 := Lib.hid q1
        have HT2 := Lib.hid q2
        have HT := Lib.hid (HS.out.trans hs9)
        have HVA := Lib.hid (HVA.out.stp0 hs9)
        have HVV := Lib.hid (HVV.out.stp0 hs9)
        have hc10 := blk_cell (j := 0) q1
        have hc11 := blk_cell (j := 1) q1
        have hc12 := blk_cell (j := 2) q1
        have hc13 := blk_cell (j := 3) q1
        have hc14 := blk_cell (j := 4) q1
        have hf10 := blk_free q1 0
        have hf11 := blk_free q1 1
        have hf12 := blk_free q1 2
        have hf13 := blk_free q1 3
        have hf14 := blk_free q1 4
        have hc20 := blk_cell (j := 0) q2
        have hc21 := blk_cell (j := 1) q2
        have hc22 := blk_cell (j := 2) q2
        have hc23 := blk_cell (j := 3) q2
        have hc24 := blk_cell (j := 4) q2
        have hf24 := blk_free q2 4
        have hne : ¬ b2 = b1 := by omega
        have hne' : ¬ b1 = b2 := by omega
        clear q1 q2 hr9 hs9
        go_wp2
        try simp only [Exit.inBlock, Exit.then]
        have h2a : Stp (fun k => k = b2) w9 (w9.setCell ⟨b2, 4, none⟩ (.bool (findS xs 65037).2)) := (Stp.refl _ _).setg 4 _
        have hq1 := h2a.blk HT1.out hne'
        refine bodyPost_ret (results_row_tmp rfl _ _ b1 _ _ _ _ rfl (blk_set (blk_set (blk_set (blk_set (blk_set hq1 0 _) 1 _) 2 _) 3 _) 4 _) Try.underlying65 rfl (by kernel_rfl)) rfl ?_
        have hstp := (((((h2a.mono (T := fun k => k = b1 ∨ k = b2) (fun _ _ h => .inr h)).setCell (p := ⟨b1, 0, none⟩) (fun _ => .inl rfl) (.bool (findS xs 0).2)).setCell (p := ⟨b1, 1, none⟩) (fun _ => .inl rfl) (.string (nmP xs).1)).setCell (p := ⟨b1, 2, none⟩) (fun _ => .inl rfl) (.slice Ab (alP xs).1.length cb)).setCell (p := ⟨b1, 3, none⟩) (fun _ => .inl rfl) (.slice Av (vsP xs).1.length cv)).setCell (p := ⟨b1, 4, none⟩) (fun _ => .inl rfl) (.bool (findS xs 65037).2)
        refine ⟨_, by rw [HSE.out]; rfl, ?_, Stp.then_ (T := fun k => k = b1 ∨ k = b2) HT.out hstp (fun k hk he => by omega)⟩
        rw [HSE.out]
        exact ⟨_, _, rfl, (HVA.out.step hstp (fun k hk he => by omega)).weak (by decide) (fun k _ h => by omega), (HVV.out.step hstp (fun k hk he => by omega)).weak (by decide) (fun k _ h => by omega)⟩
end Go.Proofs.Ytdmcmfjhlpnaeaa.L
