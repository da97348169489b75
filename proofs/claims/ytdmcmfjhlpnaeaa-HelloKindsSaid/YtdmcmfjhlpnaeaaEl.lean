/- ExtsReads, ExtsSees: the walks. -/
import Derived.Test.YtdmcmfjhlpnaeaaSx
set_option linter.unusedVariables false
set_option linter.unusedSimpArgs false
namespace Go.Proofs.Ytdmcmfjhlpnaeaa.L
open Go.RowKit Go.Proofs

set_option maxRecDepth 100000 in
set_option maxHeartbeats 4000000 in
theorem extsReads_any (v0 : Value) (d : List UInt8) (w : World) (hd : Rd u8 (newB w) w v0 d) :
    Calls Try.prog 9 #[v0] w fun e w' => e = .returned (.bool true) ∧ Stp (fun _ => False) w w' := by
  obtain ⟨A0, c0, rfl, hle0⟩ := hd.form
  obtain ⟨s, hs⟩ : ∃ s, s = nameS d := ⟨_, rfl⟩
  obtain ⟨p, hp⟩ : ∃ s, s = protS d := ⟨_, rfl⟩
  obtain ⟨q, hq⟩ : ∃ s, s = versS d := ⟨_, rfl⟩
  have hpl := protS_len d
  have hql := versS_len d
  rw [← hp] at hpl
  rw [← hq] at hql
  have HD := Lib.hid hd
  have HS := Lib.hid hs
  have HP := Lib.hid hp
  have HQ := Lib.hid hq
  clear hd hs hp hq
  by_cases hlen : d.length ≤ 3000
  · have hlen' : ¬ (3000 : Int) < d.length := by omega
    go_enter Try.func9, Try.ntmps9
    go_wp2_with (go_at_call 37; refine stopc ?_)
    refine Stop.go ?_
    refine (small10_any _).mono ?_
    rintro e w1 ⟨rfl, hs1⟩
    have HS1 := Lib.hid hs1
    clear hs1
    go_wp2_with (go_at_call 38; refine stopc ?_)
    refine Stop.go ?_
    refine (name_any _ _ d _ (HD.out.stp0 HS1.out) (by omega)).mono ?_
    rw [← HS.out]
    rintro e w2 ⟨rfl, hs2⟩
    have HS2 := Lib.hid (HS1.out.trans hs2)
    clear hs2
    go_wp2_with (go_at_call 39; refine stopc ?_)
    refine Stop.go ?_
    refine (nameR_any _ _ d _ (HD.out.stp0 HS2.out) (by omega)).mono ?_
    rw [← HS.out]
    rintro e w3 ⟨rfl, hs2⟩
    have HS3 := Lib.hid (HS2.out.trans hs2)
    clear hs2
    go_wp2_with (go_at_call 40; refine stopc ?_)
    refine Stop.go ?_
    refine (prot_any _ _ d _ (HD.out.stp0 HS3.out) (by omega)).mono ?_
    rw [← HP.out]
    rintro e w4 ⟨v4, rfl, hr4, hs2⟩
    have HR4 := Lib.hid (hr4.weak (M' := fun _ => False) (by decide) (fun _ _ h => h.elim))
    have HS4 := Lib.hid (HS3.out.trans hs2)
    clear hs2 hr4
    go_wp2_with (go_at_call 41; refine stopc ?_)
    refine Stop.go ?_
    refine (protR_any _ _ d _ (HD.out.stp0 HS4.out) (by omega)).mono ?_
    rw [← HP.out]
    rintro e w5 ⟨v5, rfl, hr4, hs2⟩
    have HR5 := Lib.hid (hr4.weak (M' := fun _ => False) (by decide) (fun _ _ h => h.elim))
    have HR4 := Lib.hid (HR4.out.stp0 hs2)
    have HS5 := Lib.hid (HS4.out.trans hs2)
    clear hs2 hr4
    go_wp2_with (go_at_call 42; refine stopc ?_)
    refine Stop.go ?_
    refine (vers_any _ _ d _ (HD.out.stp0 HS5.out) (by omega)).mono ?_
    rw [← HQ.out]
    rintro e w6 ⟨v6, rfl, hr4, hs2⟩
    have HR6 := Lib.hid (hr4.weak (M' := fun _ => False) (by decide) (fun _ _ h => h.elim))
    have HR4 := Lib.hid (HR4.out.stp0 hs2)
    have HR5 := Lib.hid (HR5.out.stp0 hs2)
    have HS6 := Lib.hid (HS5.out.trans hs2)
    clear hs2 hr4
    go_wp2_with (go_at_call 43; refine stopc ?_)
    refine Stop.go ?_
    refine (versR_any _ _ d _ (HD.out.stp0 HS6.out) (by omega)).mono ?_
    rw [← HQ.out]
    rintro e w7 ⟨v7, rfl, hr4, hs2⟩
    have HR7 := Lib.hid (hr4.weak (M' := fun _ => False) (by decide) (fun _ _ h => h.elim))
    have HR4 := Lib.hid (HR4.out.stp0 hs2)
    have HR5 := Lib.hid (HR5.out.stp0 hs2)
    have HR6 := Lib.hid (HR6.out.stp0 hs2)
    have HS7 := Lib.hid (HS6.out.trans hs2)
    clear hs2 hr4
    go_wp2_with (go_at_call 44; refine stopc ?_)
    refine Stop.go ?_
    refine (rows_any _ _ _ _ _ _ HR4.out HR5.out (by omega) (by omega) true (iff_t rfl)).mono ?_
    rintro e w8 ⟨rfl, hs2⟩
    have HR6 := Lib.hid (HR6.out.stp0 hs2)
    have HR7 := Lib.hid (HR7.out.stp0 hs2)
    have HS8 := Lib.hid (HS7.out.trans hs2)
    clear hs2
    go_wp2_with (go_at_call 45; refine stopc ?_)
    refine Stop.go ?_
    refine (ints_any _ _ _ _ _ _ HR6.out HR7.out (by omega) (by omega) true (iff_t rfl)).mono ?_
    rintro e w9 ⟨rfl, hs2⟩
    have HS9 := Lib.hid (HS8.out.trans hs2)
    clear hs2
    go_wp2
    go_ret
    exact ⟨rfl, HS9.out⟩
  · have hlen' : (3000 : Int) < d.length := by omega
    go_enter Try.func9, Try.ntmps9
    go_wp2_with (go_at_call 37; refine stopc ?_)
    refine Stop.go ?_
    refine (small10_any _).mono ?_
    rintro e w1 ⟨rfl, hs1⟩
    have HS1 := Lib.hid hs1
    clear hs1
    go_wp2
    go_ret
    exact ⟨rfl, HS1.out⟩

theorem IsSn.step {M S : Nat → Prop} {W W1 : World} {v : Value} {s : Sn} (h : IsSn M W v s) (hs : Stp S W W1) (hS : ∀ k, k < W.heap.size → S k → M k) : IsSn M W1 v s := by
  obtain ⟨va, vv, e, h1, h2⟩ := h
  exact ⟨va, vv, e, h1.step hs hS, h2.step hs hS⟩
theorem IsSn.stp0 {M : Nat → Prop} {W W1 : World} {v : Value} {s : Sn} (h : IsSn M W v s) (hs : Stp (fun _ => False) W W1) : IsSn M W1 v s := h.step hs (fun _ _ h => h.elim)
theorem IsSn.weak {M : Nat → Prop} {W : World} {v : Value} {s : Sn} (h : IsSn M W v s) (M' : Nat → Prop) (hM : ∀ k, k < W.heap.size → M' k → M k) : IsSn M' W v s := by
  obtain ⟨va, vv, e, h1, h2⟩ := h
  exact ⟨va, vv, e, h1.weak (by decide) hM, h2.weak (by decide) hM⟩
theorem hl_see {M : Nat → Prop} {W : World} {cs : Array Value} {h : Hl} (hh : IsHl M W cs h) : ∃ A c, cs.size = 38 ∧ (∀ h' : 37 < cs.size, cs[37] = .slice A h.exs.length c) ∧ Rd extK M W (.slice A h.exs.length c) h.exs := by
  obtain ⟨vs, vc, vm, vx, e, hr, h1, h2, h3, h4⟩ := hh
  obtain ⟨hcs, -, -, -, -, -, h37⟩ := hl_get e hr
  obtain ⟨A, c, rfl, _⟩ := h4.form
  exact ⟨A, c, hcs, fun _ => h37, h4⟩

theorem few_bounds (h : Hl) (hf : fewB h = true) : h.ses.length ≤ 5000 ∧ h.cip.length ≤ 5000 ∧ h.met.length ≤ 5000 ∧ h.exs.length ≤ 60 ∧ ∀ x ∈ h.exs, x.2.length ≤ 5000 := by
  obtain ⟨h1, h2⟩ := (fewB_iff h).1 hf
  unfold fewN at h1
  refine ⟨by omega, by omega, by omega, h2, fun x hx => ?_⟩
  have : ∀ (xs : List (Int × List UInt8)), x ∈ xs → x.2.length ≤ (xs.map fun x => 4 + x.2.length).sum := by
    intro xs
    induction xs with
    | nil => intro h; cases h
    | cons y ys ih =>
      intro h
      simp only [List.map_cons, List.sum_cons]
      rcases List.mem_cons.1 h with rfl | h
      · omega
      · have := ih h
        omega
  have := this _ hx
  omega

set_option maxRecDepth 100000 in
set_option maxHeartbeats 4000000 in
theorem extsSees_any (cs : Array Value) (h : Hl) (w : World) (hh : IsHl (newB w) w cs h) (hf : HlFit h) :
    Calls Try.prog 10 #[.agg cs] w fun e w' => e = .returned (.bool true) ∧ Stp (fun _ => False) w w' := by
  obtain ⟨A, c, hcs, hc37, hx⟩ := hl_see hh
  obtain ⟨s, hs⟩ : ∃ s, s = seeS h.exs := ⟨_, rfl⟩
  have HF := Lib.hid hf
  have HFB := Lib.hid (few_bounds h)
  have HSL := Lib.hid (seeS_len h.exs)
  have HC := Lib.hid hc37
  clear hc37 hf
  have HH := Lib.hid hh
  have HX := Lib.hid hx
  have HS := Lib.hid hs
  clear hh hx hs
  go_enter Try.func10, Try.ntmps10
  go_wp2_with (go_at_call 37; refine stopc ?_)
  refine Stop.go ?_
  refine (small10_any _).mono ?_
  rintro e w1 ⟨rfl, hs1⟩
  have hb := hs1.blk (heap_alloc_new w (.cells cs 62)) id
  have HS1 := Lib.hid (((Stp.refl (fun _ => False) w).alloc _).trans hs1)
  clear hs1
  have HB := Lib.hid hb
  clear hb
  go_wp2_with (with_reducible refine stop (N := 10) rfl ?_)
  refine Stop.go ?_
  refine wpList_load_row rfl _ _ rfl w.heap.size rfl _ cs (0, 0) _ HB.out Try.underlying62 rfl (by rw [hcs]; kernel_rfl) ?_
  go_wp2_with (go_at_call 46; refine stopc ?_)
  refine Stop.go ?_
  refine (few_any (fun _ => False) cs h _ ((HH.out.weak (fun _ _ h => h.elim)).stp0 HS1.out) HF.out (fun _ _ h => h)).mono ?_
  rintro e w2 ⟨rfl, hs2⟩
  have HB2 := Lib.hid (hs2.blk HB.out id)
  have HS2 := Lib.hid (HS1.out.trans hs2)
  clear hs2
  by_cases hfew : fewB h = true
  · obtain ⟨-, -, -, hl, hd⟩ := HFB.out hfew
    have hsl := HSL.out 5000 hd
    rw [← HS.out] at hsl
    obtain ⟨hsl1, hsl2⟩ := hsl
    rw [hfew]
    have HD := Lib.hid hd
    clear hd
    go_wp2_with (with_reducible refine stop (N := 16) rfl ?_)
    refine Stop.go ?_
    refine wpList_load_row rfl _ _ rfl w.heap.size rfl _ cs (0, 0) _ HB2.out Try.underlying62 rfl (by rw [hcs]; kernel_rfl) ?_
    go_wp2_with (go_at_call 47; refine stopc ?_)
    refine Stop.go ?_
    refine (see_any _ cs A c h.exs _ hcs HC.out (HX.out.stp0 HS2.out) (by omega) (fun x hx => Nat.le_trans (HD.out x hx) (by decide))).mono ?_
    rw [← HS.out]
    rintro e w3 ⟨v3, rfl, hv3, hs2⟩
    have HB3 := Lib.hid (hs2.blk HB2.out id)
    have HS3 := Lib.hid (HS2.out.trans hs2)
    have HV3 := Lib.hid (hv3.weak (fun _ => False) (fun _ _ h => h.elim))
    obtain ⟨va, vv, rfl, ha, hv⟩ := hv3
    obtain ⟨Aa, ca, rfl, _⟩ := ha.form
    obtain ⟨Av, cv, rfl, _⟩ := hv.form
    clear ha hv hs2
    go_wp2_with (with_reducible refine stop (N := 21) rfl ?_)
    refine Stop.go ?_
    have hb5 := heap_alloc_new w3 (.cells #[.bool s.1.has, .string s.1.name, .slice Aa s.1.alpn.length ca, .slice Av s.1.vers.length cv, .bool s.1.ech] 65)
    have hs4 := (Stp.refl (fun _ => False) w3).alloc (.cells #[.bool s.1.has, .string s.1.name, .slice Aa s.1.alpn.length ca, .slice Av s.1.vers.length cv, .bool s.1.ech] 65)
    have HB4 := Lib.hid (hs4.blk HB3.out id)
    have HS4 := Lib.hid (HS3.out.trans hs4)
    have HV4 := Lib.hid (HV3.out.stp0 hs4)
    clear hs4
    have HB5 := Lib.hid hb5
    clear hb5
    refine wpList_load_row rfl _ _ rfl w.heap.size rfl _ cs (0, 0) _ HB4.out Try.underlying62 rfl (by rw [hcs]; kernel_rfl) ?_
    go_wp2_with (go_at_call 48; refine stopc ?_)
    refine Stop.go ?_
    refine (seeR_any (fun _ => False) cs A c h.exs _ hcs HC.out ((HX.out.weak (by decide) (fun _ _ h => h.elim)).stp0 HS4.out) (by omega) (fun x hx => Nat.le_trans (HD.out x hx) (by decide)) (fun _ _ h => h)).mono ?_
    rw [← HS.out]
    rintro e w5 ⟨v5, rfl, hv5, hs2⟩
    have hb5 := hs2.blk HB5.out id
    have HS5 := Lib.hid (HS4.out.trans hs2)
    have HV5 := Lib.hid (hv5.weak (fun _ => False) (fun _ _ h => h.elim))
    have HV4 := Lib.hid (HV4.out.stp0 hs2)
    obtain ⟨va, vv, rfl, ha, hv⟩ := hv5
    obtain ⟨Ab, cb, rfl, _⟩ := ha.form
    obtain ⟨Aw, cw, rfl, _⟩ := hv.form
    have hb5 := ((Stp.refl (fun _ => False) w5).alloc (.cells #[.bool s.1.has, .string s.1.name, .slice Ab s.1.alpn.length cb, .slice Aw s.1.vers.length cw, .bool s.1.ech] 65)).blk hb5 id
    have hc0 := blk_cell (j := 0) hb5
    have hc1 := blk_cell (j := 1) hb5
    have hc2 := blk_cell (j := 2) hb5
    have hc3 := blk_cell (j := 3) hb5
    have hc4 := blk_cell (j := 4) hb5
    clear ha hv hs2 hb5
    go_wp2_with (go_at_call 49; refine stopc ?_)
    refine Stop.go ?_
    refine (same_any (fun _ => False) _ _ s.1 s.1 _ (HV4.out.stp0 ((Stp.refl _ _).alloc _)) (HV5.out.stp0 ((Stp.refl _ _).alloc _)) ⟨by omega, by omega⟩ ⟨by omega, by omega⟩ true (iff_t rfl)).mono ?_
    rintro e w6 ⟨rfl, hs2⟩
    have HS6 := Lib.hid ((HS5.out.alloc _).trans hs2)
    clear hs2
    go_wp2
    go_ret
    exact ⟨rfl, HS6.out⟩
  · have hf' : fewB h = false := by simpa using hfew
    rw [hf']
    go_wp2
    go_ret
    exact ⟨rfl, HS2.out⟩
end Go.Proofs.Ytdmcmfjhlpnaeaa.L
