/- What is seen is compared; whether a hello is short. -/
import Derived.Test.YtdmcmfjhlpnaeaaEy
set_option linter.unusedVariables false
set_option linter.unusedSimpArgs false
namespace Go.Proofs.Ytdmcmfjhlpnaeaa.L
open Go.RowKit Go.Proofs

theorem iff_t {p : Prop} (h : p) : (true = true ↔ p) := ⟨fun _ => h, fun _ => rfl⟩
theorem iff_f {p : Prop} (h : ¬ p) : (false = true ↔ p) := ⟨fun e => (by cases e), fun e => absurd e h⟩
theorem protS_len (d : List UInt8) : (protS d).1.length ≤ d.length := by
  unfold protS
  split
  · exact walkS_len _ _
  · simp
theorem versS_len (d : List UInt8) : (versS d).1.length ≤ d.length := by
  unfold versS
  split
  · exact Nat.le_trans (twos_len _) (rvec_len1 (d, false) 1)
  · simp
theorem seeS_len (xs : List (Int × List UInt8)) (N : Nat) (h : ∀ x ∈ xs, x.2.length ≤ N) : (seeS xs).1.alpn.length ≤ N ∧ (seeS xs).1.vers.length ≤ N := by
  have h1 : (alP xs).1.length ≤ N := by
    unfold alP
    split
    · exact Nat.le_trans (protS_len _) (findS_len _ _ _ h)
    · simp
  have h2 : (vsP xs).1.length ≤ N := by
    unfold vsP
    split
    · exact Nat.le_trans (versS_len _) (findS_len _ _ _ h)
    · simp
  unfold seeS
  (repeat' split) <;> simp [Sn.zero, h1, h2]

set_option maxHeartbeats 4000000 in
theorem same_any (M : Nat → Prop) (v0 v1 : Value) (s t : Sn) (w : World) (h0 : IsSn M w v0 s) (h1 : IsSn M w v1 t) (hl : s.alpn.length ≤ 1000000000 ∧ s.vers.length ≤ 1000000000) (hl2 : t.alpn.length ≤ 1000000000 ∧ t.vers.length ≤ 1000000000) (b : Bool) (hb : b = true ↔ s = t) :
    Calls Try.prog 49 #[v0, v1] w fun e w' => e = .returned (.bool b) ∧ Stp (fun _ => False) w w' := by
  obtain ⟨va, vv, rfl, ha, hv⟩ := h0
  obtain ⟨ua, uv, rfl, ka, kv⟩ := h1
  obtain ⟨A0, c0, rfl, hle0⟩ := ha.form
  obtain ⟨A1, c1, rfl, hle1⟩ := hv.form
  obtain ⟨A2, c2, rfl, hle2⟩ := ka.form
  obtain ⟨A3, c3, rfl, hle3⟩ := kv.form
  obtain ⟨sh, sn, sa, sv, se⟩ := s
  obtain ⟨th, tn, ta, tv, te⟩ := t
  simp only at ha hv ka kv hl hl2 hle0 hle1 hle2 hle3 ⊢
  obtain ⟨hl3, hl4⟩ := hl
  obtain ⟨hl5, hl6⟩ := hl2
  have HA := Lib.hid ha
  have HV := Lib.hid hv
  have KA := Lib.hid ka
  have KV := Lib.hid kv
  have HB := Lib.hid hb
  clear ha hv ka kv hb
  by_cases d1 : sh = th
  · have e1 : (sh == th) = true := by simpa using d1
    by_cases d2 : sn = tn
    · have e2 : (sn.toList == tn.toList) = true := by rw [d2]; simp
      have hse := (((Stp.refl (fun _ => False) w).alloc (.cells #[.bool sh, .string sn, .slice A0 sa.length c0, .slice A1 sv.length c1, .bool se] 65)).alloc (.cells #[.bool th, .string tn, .slice A2 ta.length c2, .slice A3 tv.length c3, .bool te] 65))
      have hk0 := (((Stp.refl (fun _ => False) (w.alloc (.cells #[.bool sh, .string sn, .slice A0 sa.length c0, .slice A1 sv.length c1, .bool se] 65)))).alloc (.cells #[.bool th, .string tn, .slice A2 ta.length c2, .slice A3 tv.length c3, .bool te] 65)).blk (heap_alloc_new w _) id
      have hk1 := heap_alloc_new (w.alloc (.cells #[.bool sh, .string sn, .slice A0 sa.length c0, .slice A1 sv.length c1, .bool se] 65)) (.cells #[.bool th, .string tn, .slice A2 ta.length c2, .slice A3 tv.length c3, .bool te] 65)
      have hsz : (w.alloc (.cells #[.bool sh, .string sn, .slice A0 sa.length c0, .slice A1 sv.length c1, .bool se] 65)).heap.size = w.heap.size + 1 := by simp
      rw [hsz] at hk1
      clear hsz
      have HSE := Lib.hid hse
      have HK0 := Lib.hid hk0
      have HK1 := Lib.hid hk1
      have D1 := Lib.hid d1
      have D2 := Lib.hid d2
      clear hse hk0 hk1 d1 d2
      by_cases d3 : sa = ta
      · have D3 := Lib.hid d3
        have D3' := Lib.hid d3
        clear d3
        by_cases d4 : sv = tv
        · have D4' := Lib.hid d4
          have hbb : b = (se == te) := by
            rw [Bool.eq_iff_iff, HB.out, D1.out, D2.out, D3.out, d4]
            simp
          have HBB := Lib.hid hbb
          clear hbb d4
          go_enter Try.func49, Try.ntmps49
          go_wp2_with (go_at_call 44; refine stopc ?_)
          refine Stop.go ?_
          refine (rows_any M _ _ _ _ _ (HA.out.stp0 HSE.out) (KA.out.stp0 HSE.out) hl3 hl5 true (iff_t D3'.out)).mono ?_
          rintro e w2 ⟨rfl, hs2⟩
          have hk0 := hs2.blk HK0.out id
          have hk1 := hs2.blk HK1.out id
          have hc03 := blk_cell (j := 3) hk0
          have hc13 := blk_cell (j := 3) hk1
          have HK0 := Lib.hid hk0
          have HK1 := Lib.hid hk1
          have HS2 := Lib.hid hs2
          clear hk0 hk1 hs2
          go_wp2_with (go_at_call 45; refine stopc ?_)
          refine Stop.go ?_
          refine (ints_any M _ _ _ _ _ (HV.out.stp0 (HSE.out.trans HS2.out)) (KV.out.stp0 (HSE.out.trans HS2.out)) hl4 hl6 true (iff_t D4'.out)).mono ?_
          rintro e w3 ⟨rfl, hs3⟩
          have hk0 := hs3.blk HK0.out id
          have hk1 := hs3.blk HK1.out id
          have hc04 := blk_cell (j := 4) hk0
          have hc14 := blk_cell (j := 4) hk1
          have HK0 := Lib.hid hk0
          have HK1 := Lib.hid hk1
          have HS3 := Lib.hid hs3
          clear hk0 hk1 hs3
          clear hc03 hc13
          go_wp2
          go_ret
          exact ⟨by rw [HBB.out]; rfl, HSE.out.trans (HS2.out.trans HS3.out)⟩
        · have D4' := Lib.hid d4
          have hbb : b = false := by
            rw [Bool.eq_false_iff]
            intro h
            have := HB.out.1 h
            injection this with _ _ _ h4
            exact d4 h4
          have HBB := Lib.hid hbb
          clear hbb d4
          go_enter Try.func49, Try.ntmps49
          go_wp2_with (go_at_call 44; refine stopc ?_)
          refine Stop.go ?_
          refine (rows_any M _ _ _ _ _ (HA.out.stp0 HSE.out) (KA.out.stp0 HSE.out) hl3 hl5 true (iff_t D3'.out)).mono ?_
          rintro e w2 ⟨rfl, hs2⟩
          have hk0 := hs2.blk HK0.out id
          have hk1 := hs2.blk HK1.out id
          have hc03 := blk_cell (j := 3) hk0
          have hc13 := blk_cell (j := 3) hk1
          have HK0 := Lib.hid hk0
          have HK1 := Lib.hid hk1
          have HS2 := Lib.hid hs2
          clear hk0 hk1 hs2
          go_wp2_with (go_at_call 45; refine stopc ?_)
          refine Stop.go ?_
          refine (ints_any M _ _ _ _ _ (HV.out.stp0 (HSE.out.trans HS2.out)) (KV.out.stp0 (HSE.out.trans HS2.out)) hl4 hl6 false (iff_f D4'.out)).mono ?_
          rintro e w3 ⟨rfl, hs3⟩
          have HS3 := Lib.hid hs3
          clear hs3
          clear hc03 hc13
          go_wp2
          go_ret
          exact ⟨by rw [HBB.out]; rfl, HSE.out.trans (HS2.out.trans HS3.out)⟩
      · have D3' := Lib.hid d3
        have hbb : b = false := by
          rw [Bool.eq_false_iff]
          intro h
          have := HB.out.1 h
          injection this with _ _ h3
          exact d3 h3
        have HBB := Lib.hid hbb
        clear hbb d3
        go_enter Try.func49, Try.ntmps49
        go_wp2_with (go_at_call 44; refine stopc ?_)
        refine Stop.go ?_
        refine (rows_any M _ _ _ _ _ (HA.out.stp0 HSE.out) (KA.out.stp0 HSE.out) hl3 hl5 false (iff_f D3'.out)).mono ?_
        rintro e w2 ⟨rfl, hs2⟩
        have HS2 := Lib.hid hs2
        clear hs2
        go_wp2
        go_ret
        exact ⟨by rw [HBB.out]; rfl, HSE.out.trans HS2.out⟩
    · have e2 : (sn.toList == tn.toList) = false := ba_ne d2
      have hbb : b = false := by
        rw [Bool.eq_false_iff]
        intro h
        have := HB.out.1 h
        injection this with _ h2
        exact d2 h2
      have HBB := Lib.hid hbb
      clear hbb d1 d2
      go_enter Try.func49, Try.ntmps49
      go_wp2
      go_ret
      exact ⟨by rw [HBB.out]; rfl, ((Stp.refl _ _).alloc _).alloc _⟩
  · have e1 : (sh == th) = false := by simpa using d1
    have hbb : b = false := by
      rw [Bool.eq_false_iff]
      intro h
      have := HB.out.1 h
      injection this with h1
      exact d1 h1
    have HBB := Lib.hid hbb
    clear hbb d1
    go_enter Try.func49, Try.ntmps49
    go_wp2
    go_ret
    exact ⟨by rw [HBB.out]; rfl, ((Stp.refl _ _).alloc _).alloc _⟩

/-- How much a hello holds. -/
def fewN (h : Hl) : Nat := h.ses.length + 2 * h.cip.length + h.met.length + (h.exs.map fun x => 4 + x.2.length).sum
def fewB (h : Hl) : Bool := decide (fewN h ≤ 5000) && decide (h.exs.length ≤ 60)
theorem fewB_iff (h : Hl) : fewB h = true ↔ fewN h ≤ 5000 ∧ h.exs.length ≤ 60 := by simp [fewB]
theorem sum_take (xs : List (Int × List UInt8)) (k : Nat) (hk : k < xs.length) : ((xs.take (k + 1)).map fun x => 4 + x.2.length).sum = ((xs.take k).map fun x => 4 + x.2.length).sum + (4 + xs[k].2.length) := by
  rw [take_snoc _ _ hk, List.map_append, List.sum_append]
  simp only [List.map_cons, List.map_nil, List.sum_cons, List.sum_nil, Nat.add_zero]
theorem sum_le (xs : List (Int × List UInt8)) (N : Nat) (h : ∀ x ∈ xs, x.2.length ≤ N) (k : Nat) : ((xs.take k).map fun x => 4 + x.2.length).sum ≤ xs.length * (4 + N) := by
  induction xs generalizing k with
  | nil => simp
  | cons x xs ih =>
    cases k with
    | zero => simp
    | succ k =>
      have h1 := ih (fun y hy => h y (List.mem_cons_of_mem _ hy)) k
      have h2 := h x List.mem_cons_self
      simp only [List.take_succ_cons, List.map_cons, List.sum_cons, List.length_cons]
      rw [Nat.add_mul, Nat.one_mul]
      omega

theorem arr_get {cs : Array Value} {i : Nat} {v : Value} (hi : i < cs.size) (h : cs.toList[i]? = some v) : cs[i] = v := by
  rw [Array.getElem?_toList, Array.getElem?_eq_getElem hi] at h
  injection h
theorem hl_get {cs : Array Value} {h : Hl} {vs vc vm vx : Value} (e : cs.toList = hlV h vs vc vm vx) (hr : h.rnd.length = 32) :
    ∃ hs : cs.size = 38, cs[0] = .int .i64 h.ver ∧ cs[33] = vs ∧ cs[34] = vc ∧ cs[35] = vm ∧ cs[36] = .bool h.has ∧ cs[37] = vx := by
  have hs : cs.size = 38 := by
    rw [← Array.length_toList, e]
    simp [hlV, hr]
  refine ⟨hs, ?_, ?_, ?_, ?_, ?_, ?_⟩ <;> (apply arr_get; rw [e]; simp [hlV, List.getElem?_append, hr])

/-- None of a hello's parts is greater than a machine's memory. -/
structure HlFit (h : Hl) : Prop where
  ses : h.ses.length ≤ 140737488355328
  cip : h.cip.length ≤ 140737488355328
  met : h.met.length ≤ 140737488355328
  exs : h.exs.length ≤ 140737488355328
  dat : ∀ x ∈ h.exs, x.2.length ≤ 140737488355328
  ver : -9223372036854775808 ≤ h.ver ∧ h.ver ≤ 9223372036854775807
  knd : ∀ x ∈ h.exs, (Lit.int .i64 x.1).wf = true

set_option maxRecDepth 10000 in
set_option maxHeartbeats 4000000 in
theorem few_any (M : Nat → Prop) (cs : Array Value) (h : Hl) (w : World) (hh : IsHl M w cs h) (hf : HlFit h) (hM : ∀ k, w.heap.size ≤ k → ¬ M k) :
    Calls Try.prog 46 #[.agg cs] w fun e w' => e = .returned (.bool (fewB h)) ∧ Stp (fun _ => False) w w' := by
  obtain ⟨ver, rnd, ses, cip, met, has, exs⟩ := h
  obtain ⟨vs, vc, vm, vx, e, hr, h1, h2, h3, h4⟩ := hh
  obtain ⟨f1, f2, f3, f4, f5, -, -⟩ := hf
  obtain ⟨hcs, -, hc33, hc34, hc35, -, hc37⟩ := hl_get e hr
  simp only at h1 h2 h3 h4 f1 f2 f3 f4 f5
  obtain ⟨A1, c1, rfl, hle1⟩ := h1.form
  obtain ⟨A2, c2, rfl, hle2⟩ := h2.form
  obtain ⟨A3, c3, rfl, hle3⟩ := h3.form
  obtain ⟨A4, c4, rfl, hle4⟩ := h4.form
  have H4 := Lib.hid (h4.stp0 ((Stp.refl (fun _ => False) w).alloc (.cells cs 62)))
  have F5 := Lib.hid f5
  clear e hr h1 h2 h3 h4 f5
  have hb := fewB_iff ⟨ver, rnd, ses, cip, met, has, exs⟩
  have hfn : fewN ⟨ver, rnd, ses, cip, met, has, exs⟩ = ses.length + 2 * cip.length + met.length + (exs.map fun x => 4 + x.2.length).sum := rfl
  have HFN := Lib.hid hfn
  have HB := Lib.hid hb
  clear hfn hb
  by_cases h60 : exs.length ≤ 60
  · go_enter Try.func46, Try.ntmps46
    go_wp2
    go_loop [3, 4] (fun n i => ∃ k : Nat, k ≤ exs.length ∧ i = .int .i64 k ∧ n = .int .i64 ((ses.length : Int) + 2 * (cip.length : Int) + (met.length : Int) + (((exs.take k).map fun x => 4 + x.2.length).sum : Nat))) (fun _ i => exs.length - (intOf i).toNat)
    case atStart => exact ⟨0, Nat.zero_le _, rfl, by simp⟩
    case round =>
      obtain ⟨k, hk, rfl, rfl⟩ := hrel
      have hsum := sum_le exs _ F5.out k
      by_cases hlt : k < exs.length
      · obtain ⟨ad, v, rfl, hnM, hcell1, hcell2, hv⟩ := ext_cell H4.out k hlt
        obtain ⟨Av, cv, rfl, hlev⟩ := hv.form
        have hd := F5.out _ (List.getElem_mem hlt)
        have HSU := Lib.hid (sum_take exs k hlt)
        obtain ⟨S, hS⟩ : ∃ S : Nat, S = ((exs.take k).map fun x => 4 + x.2.length).sum := ⟨_, rfl⟩
        rw [← hS] at hsum HSU ⊢
        clear hv hS hnM
        go_wp2
        go_round
        case rel => exact ⟨k + 1, by omega, by go_num, by rw [HSU.out]; go_num⟩
        case measure => simp [intOf]; omega
      · obtain rfl : k = exs.length := by omega
        rw [List.take_length] at hsum ⊢
        obtain ⟨S, hS⟩ : ∃ S : Nat, S = (exs.map fun x => 4 + x.2.length).sum := ⟨_, rfl⟩
        rw [← hS] at hsum HFN ⊢
        clear hS
        have h60' : (exs.length : Int) ≤ 60 := by omega
        by_cases hn : ses.length + 2 * cip.length + met.length + S ≤ 5000
        · have hn' : (ses.length : Int) + 2 * (cip.length : Int) + (met.length : Int) + (S : Int) ≤ 5000 := by omega
          have HR := Lib.hid (HB.out.2 ⟨by rw [HFN.out]; exact hn, h60⟩)
          go_wp2
          go_ret
          exact ⟨by rw [HR.out]; rfl, (Stp.refl _ _).alloc _⟩
        · have hn' : ¬ (ses.length : Int) + 2 * (cip.length : Int) + (met.length : Int) + (S : Int) ≤ 5000 := by omega
          have HR := Lib.hid (show fewB ⟨ver, rnd, ses, cip, met, has, exs⟩ = false by rw [Bool.eq_false_iff]; intro h; have := (HB.out.1 h).1; rw [HFN.out] at this; exact hn this)
          go_wp2
          go_ret
          exact ⟨by rw [HR.out]; rfl, (Stp.refl _ _).alloc _⟩
  · have HR := Lib.hid (show fewB ⟨ver, rnd, ses, cip, met, has, exs⟩ = false by rw [Bool.eq_false_iff]; intro h; exact h60 (HB.out.1 h).2)
    go_enter Try.func46, Try.ntmps46
    go_wp2
    go_loop [3, 4] (fun n i => ∃ (k : Nat) (N : Int), k ≤ exs.length ∧ i = .int .i64 k ∧ n = .int .i64 N) (fun _ i => exs.length - (intOf i).toNat)
    case atStart => exact ⟨0, _, Nat.zero_le _, rfl, rfl⟩
    case round =>
      obtain ⟨k, N, hk, rfl, rfl⟩ := hrel
      by_cases hlt : k < exs.length
      · obtain ⟨ad, v, rfl, hnM, hcell1, hcell2, hv⟩ := ext_cell H4.out k hlt
        obtain ⟨Av, cv, rfl, hlev⟩ := hv.form
        clear hv hnM
        go_wp2
        go_round
        case rel => exact ⟨k + 1, _, by omega, by go_num, rfl⟩
        case measure => simp [intOf]; omega
      · obtain rfl : k = exs.length := by omega
        have h60' : ¬ (exs.length : Int) ≤ 60 := by omega
        by_cases hn : N ≤ 5000
        · go_wp2
          go_ret
          exact ⟨by rw [HR.out]; rfl, (Stp.refl _ _).alloc _⟩
        · go_wp2
          go_ret
          exact ⟨by rw [HR.out]; rfl, (Stp.refl _ _).alloc _⟩
end Go.Proofs.Ytdmcmfjhlpnaeaa.L
