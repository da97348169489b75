/- Texts of the proof, joined: Tt. -/
import Derived.Test.YtligofmhbbgalaaGreatDoorG28
set_option linter.unusedVariables false
set_option linter.unusedSimpArgs false
/- Layer 15: the law TlspeekKnown. -/
namespace Go.Proofs.YtligofmhbbgalaaGreatDoor.L
open Go.RowKit Go.Proofs

theorem sameC_any (M : Nat → Prop) {st rs : Int} {ho : List UInt8} {has ec : Bool} {nm : ByteArray} {al : List ByteArray} {vs : List Int} {u : Nat} {H : ByteArray} {va vv ua uv : Value} {w : World} (hH : H = strB ho) (h1 : VtR M w ⟨st, rs, ho, ⟨has, nm, al, vs, ec⟩⟩ va vv) (h2 : VtR M w ⟨st, rs, ho, ⟨has, nm, al, vs, ec⟩⟩ ua uv) :
    Calls Tryz.prog 9 #[.agg #[.int .i64 st, .int .i64 1, .int .i64 (u : Int), .int .i64 rs, .string H, .int .i64 0, .bool has, .string nm, va, vv, .bool ec], .agg #[.int .i64 st, .int .i64 1, .int .i64 (u : Int), .int .i64 rs, .string H, .int .i64 0, .bool has, .string nm, ua, uv, .bool ec]] w (TrueT w) := by
  subst hH
  exact same15T_any M ⟨st, rs, ho, ⟨has, nm, al, vs, ec⟩⟩ u va vv ua uv w h1 h2
set_option maxRecDepth 100000 in
set_option maxHeartbeats 8000000 in
theorem known15_any (M : Nat → Prop) (va vb : Value) (a b : List UInt8) (w : World) (ha : Rd u8 M w va a) (hb : Rd u8 M w vb b) (he : EnvP w) :
    Calls Tryz.prog 5 #[va, vb] w (TrueT w) := by
  obtain ⟨A, cp, rfl, hle⟩ := ha.form
  obtain ⟨B, cq, rfl, hle2⟩ := hb.form
  have hcm := ha.at_.2.2.1
  have hcm2 := hb.at_.2.2.1
  unfold maxLen at hcm hcm2
  obtain ⟨R, hR⟩ : ∃ R, R = TrueT w := ⟨_, rfl⟩
  rw [← hR]
  have HR := Lib.hid hR
  have HM := Lib.hid he
  have HA := Lib.hid ha
  have HB := Lib.hid hb
  clear hR he ha hb
  by_cases hbig : a.length ≤ 3000 ∧ b.length ≤ 500
  · obtain ⟨l1, l2⟩ := hbig
    have h1 : decide ((3000 : Int) < (a.length : Int)) = false := decide_eq_false (by omega)
    have h2 : decide ((500 : Int) < (b.length : Int)) = false := decide_eq_false (by omega)
    have hop := allT_open a
    have hmo := allT_more_open a b
    have hmk := allT_more_known a b
    have hkn := allT_known a
    obtain ⟨q, hq⟩ : ∃ q, q = allT a := ⟨_, rfl⟩
    obtain ⟨q2, hq2⟩ : ∃ q, q = allT (a ++ b) := ⟨_, rfl⟩
    rw [← hq] at hop hmo hmk hkn
    rw [← hq2] at hmo hmk
    obtain ⟨⟨st, rs, ho, ⟨has, nm, al, vs, ec⟩⟩, n⟩ := q
    obtain ⟨⟨st2, rs2, ho2, ⟨has2, nm2, al2, vs2, ec2⟩⟩, n2⟩ := q2
    obtain ⟨H, hH⟩ : ∃ H, H = strB ho := ⟨_, rfl⟩
    obtain ⟨H2, hH2⟩ : ∃ H, H = strB ho2 := ⟨_, rfl⟩
    have cA := fun W hW hE => tallC_any M (.slice A a.length cp) a W (HA.out.stp0 hW) (by omega) hE hq.symm hH
    have HQ2 := Lib.hid hq2
    have HHH := Lib.hid (And.intro hH hH2)
    have HOP := Lib.hid hop
    have HMO := Lib.hid hmo
    have HMK := Lib.hid hmk
    have HKN := Lib.hid hkn
    clear hop hmo hmk hkn
    clear hq hq2 hH hH2
    have HS0 := Lib.hid (Stp.refl (fun _ => False) w)
    go_enter Tryz.func5, Tryz.ntmps5
    go_wp2_with (go_at_call 8; refine stopc ?_)
    refine Stop.go ?_
    refine (small15_any _ (HM.out.step HS0.out)).mono ?_
    rintro e w1 ⟨he, hs1⟩
    subst he
    have HS1 := Lib.hid (HS0.out.trans hs1)
    clear hs1
    go_wp2_with (go_at_call 10; refine stopc ?_)
    refine Stop.go ?_
    refine (cA _ HS1.out (HM.out.step HS1.out)).mono ?_
    rintro e w2 ⟨A1, p1, A2, p2, rfl, hv1, hs2⟩
    have HS2 := Lib.hid (HS1.out.trans hs2)
    clear hs2
    have HV := Lib.hid (hv1.weak (M' := fun k => w2.heap.size ≤ k) (fun k hk h => by omega))
    clear hv1
    go_wp2_with (with_reducible refine stop (N := 23) rfl ?_)
    refine Stop.go ?_
    have hsz2 : w.heap.size ≤ w2.heap.size := HS2.out.size
    have ho := Own.lit (enc := enc8) (e := 5) (B := w2.heap.size + 1) (W := w2.alloc (.cells #[.int .i64 st, .int .i64 1, .int .i64 (n : Int), .int .i64 rs, .string H, .int .i64 0, .bool has, .string nm, .slice A1 al.length p1, .slice A2 vs.length p2, .bool ec] 31)) ([] : List UInt8) #[] rfl (by simp) (by simp)
    rw [show (w2.alloc (.cells #[.int .i64 st, .int .i64 1, .int .i64 (n : Int), .int .i64 rs, .string H, .int .i64 0, .bool has, .string nm, .slice A1 al.length p1, .slice A2 vs.length p2, .bool ec] 31)).heap.size = w2.heap.size + 1 by simp] at ho
    have hA1 := (HS2.out.alloc (.cells #[.int .i64 st, .int .i64 1, .int .i64 (n : Int), .int .i64 rs, .string H, .int .i64 0, .bool has, .string nm, .slice A1 al.length p1, .slice A2 vs.length p2, .bool ec] 31)).alloc (.cells #[] 5)
    have hb1 := ((Stp.refl (fun _ => False) (w2.alloc (.cells #[.int .i64 st, .int .i64 1, .int .i64 (n : Int), .int .i64 rs, .string H, .int .i64 0, .bool has, .string nm, .slice A1 al.length p1, .slice A2 vs.length p2, .bool ec] 31))).alloc (.cells #[] 5)).blk (heap_alloc_new w2 _) id
    refine wp_appendRd enc8 (h1e := fun _ => rfl) rfl _ _ _ rfl Tryz.underlying22 info_u8 rfl ho (HA.out.stp0 hA1) rfl rfl (by simp; omega) (by simp; omega) (by simp) ?_
    intro v3 W3 ho3 hg3
    rw [List.nil_append] at ho3
    have hG3 := Stp.of_grown hg3
    have hS3 := hA1.then_ hG3 (fun k hk h => by have := (ho.lt k h).1; omega)
    have hb3 := hG3.blk hb1 (fun h => by have := (ho.lt _ h).1; omega)
    have hvr3 := ((HV.out.stp0 ((Stp.refl _ _).alloc _)).stp0 ((Stp.refl _ _).alloc _)).step hG3 (fun k hk h => by have := (ho.lt k h).1; omega)
    have HV3 := Lib.hid hvr3
    clear hvr3 HV
    have hz3 : w2.heap.size + 1 ≤ W3.heap.size := by have := hg3.size; simp at this; omega
    obtain ⟨A3, c3, rfl, hle3⟩ := ho3.form
    have HO3 := Lib.hid ho3
    have HS3 := Lib.hid hS3
    have HB3 := Lib.hid hb3
    clear ho hA1 hb1 ho3 hg3 hG3 hS3 hb3
    go_wp2_with (with_reducible refine stop (N := 25) rfl ?_)
    refine Stop.go ?_
    refine wp_appendRd enc8 (h1e := fun _ => rfl) rfl _ _ _ rfl Tryz.underlying22 info_u8 rfl HO3.out (HB.out.stp0 HS3.out) rfl rfl (by omega) (by omega) (by omega) ?_
    intro v4 W4 ho4 hg4
    have hG4 := Stp.of_grown hg4
    have HS4 := Lib.hid (HS3.out.then_ hG4 (fun k hk h => by have := (HO3.out.lt k h).1; omega))
    have HBV := Lib.hid (hG4.blk HB3.out (fun h => by have := (HO3.out.lt _ h).1; omega))
    have HV4 := Lib.hid ((HV3.out.step hG4 (fun k hk h => by have := (HO3.out.lt k h).1; omega)).weak (M' := fun _ => False) (fun _ _ h => h.elim))
    clear HV3
    have HX4 := Lib.hid (show Rd u8 (fun _ => False) W4 v4 (a ++ b) from ho4.rd (fun _ _ h => h))
    replace HM := Lib.hid (HM.out.step HS4.out)
    obtain ⟨A4, c4, rfl, hle4⟩ := ho4.form
    clear ho4 hg4 hG4 HO3 HB3
    have cW := fun W hW hE => tallC_any (fun _ => False) (.slice A4 (a ++ b).length c4) (a ++ b) W (HX4.out.stp0 hW) (by simp; omega) hE HQ2.out.symm HHH.out.2
    obtain ⟨L4, hL4⟩ : ∃ L, L = (a ++ b).length := ⟨_, rfl⟩
    rw [← hL4] at hle4 cW ⊢
    have HX5 := Lib.hid (show Rd u8 (fun _ => False) W4 (.slice A4 L4 c4) (a ++ b) by rw [hL4]; exact HX4.out)
    clear hL4 HX4
    obtain ⟨bv, hbv⟩ : ∃ n, n = w2.heap.size := ⟨_, rfl⟩
    rw [← hbv] at HBV
    simp only [← hbv]
    clear hbv
    have HS0 := Lib.hid (Stp.refl (fun _ => False) W4)
    go_wp2_with (go_at_call 10; refine stopc ?_)
    refine Stop.go ?_
    refine (carry15 (ow := fun w' => VtR (fun _ => False) w' ⟨st, rs, ho, ⟨has, nm, al, vs, ec⟩⟩ (.slice A1 al.length p1) (.slice A2 vs.length p2)) (cW _ HS0.out (HM.out.step HS0.out)) (fun e w' h => by obtain ⟨_, _, _, _, _, _, hs⟩ := h; exact HV4.out.stp0 hs)).mono ?_
    rintro e w1 ⟨⟨A5, p5, A6, p6, rfl, hv2, hs1⟩, ho'⟩
    have HS1 := Lib.hid (HS0.out.trans hs1)
    replace HBV := Lib.hid (hs1.blk HBV.out id)
    clear hs1
    have kV0 : w1.cell? ⟨bv, 0, none⟩ = some (.int .i64 st) := blk_cell (j := 0) HBV.out
    have kV1 : w1.cell? ⟨bv, 1, none⟩ = some (.int .i64 1) := blk_cell (j := 1) HBV.out
    have kV2 : w1.cell? ⟨bv, 2, none⟩ = some (.int .i64 (n : Int)) := blk_cell (j := 2) HBV.out
    have kV3 : w1.cell? ⟨bv, 3, none⟩ = some (.int .i64 rs) := blk_cell (j := 3) HBV.out
    have kV4 : w1.cell? ⟨bv, 4, none⟩ = some (.string H) := blk_cell (j := 4) HBV.out
    have kV5 : w1.cell? ⟨bv, 5, none⟩ = some (.int .i64 0) := blk_cell (j := 5) HBV.out
    have kV6 : w1.cell? ⟨bv, 6, none⟩ = some (.bool has) := blk_cell (j := 6) HBV.out
    have kV7 : w1.cell? ⟨bv, 7, none⟩ = some (.string nm) := blk_cell (j := 7) HBV.out
    have kV8 : w1.cell? ⟨bv, 8, none⟩ = some (.slice A1 al.length p1) := blk_cell (j := 8) HBV.out
    have kV9 : w1.cell? ⟨bv, 9, none⟩ = some (.slice A2 vs.length p2) := blk_cell (j := 9) HBV.out
    have kV10 : w1.cell? ⟨bv, 10, none⟩ = some (.bool ec) := blk_cell (j := 10) HBV.out
    have ltV := blk_lt HBV.out
    have HVW := Lib.hid (And.intro ho' hv2)
    clear ho' hv2 HV4
    by_cases h0 : st = 0
    · have hn : n = a.length := congrArg (·.2) (HOP.out h0)
      subst h0
      have hmo := HMO.out rfl
      clear HOP HMO HMK HKN
      subst hn
      have hnn : ((a.length : Int) == (a.length : Int)) = true := by simp
      by_cases h2 : st2 = 0
      · have e2 : (st2 == 0) = true := by simpa using h2
        clear h2 hmo
        go_wp2
        rw [HR.out]
        exact ⟨rfl, HS4.out.trans ((HS1.out.alloc _))⟩
      · have e2 : (st2 == 0) = false := by simpa using h2
        have d2 : decide (a.length < n2) = true := decide_eq_true (by rcases hmo with h | h; exact absurd h h2; exact h)
        clear h2 hmo
        go_wp2
        rw [HR.out]
        exact ⟨rfl, HS4.out.trans ((HS1.out.alloc _))⟩
    · have e0 : (st == 0) = false := by simpa using h0
      obtain ⟨k1, k2, k3⟩ := HKN.out h0
      have hmk := HMK.out h0
      injection hmk with q1 q5
      injection q1 with q1 q2 q3 q4
      injection q4 with q4 q6 q7 q8 q9
      have HH2 : H2 = H := by rw [HHH.out.1, HHH.out.2, q3]
      have HHE := HHH.out.2
      have cS : ∀ W, VtR (fun _ => False) W ⟨st, rs, ho, ⟨has, nm, al, vs, ec⟩⟩ (.slice A1 al.length p1) (.slice A2 vs.length p2) → VtR (fun _ => False) W ⟨st2, rs2, ho2, ⟨has2, nm2, al2, vs2, ec2⟩⟩ (.slice A5 al2.length p5) (.slice A6 vs2.length p6) → Calls Tryz.prog 9 #[.agg #[.int .i64 st, .int .i64 1, .int .i64 (n : Int), .int .i64 rs, .string H, .int .i64 0, .bool has, .string nm, .slice A1 al.length p1, .slice A2 vs.length p2, .bool ec], .agg #[.int .i64 st2, .int .i64 1, .int .i64 (n2 : Int), .int .i64 rs2, .string H2, .int .i64 0, .bool has2, .string nm2, .slice A5 al2.length p5, .slice A6 vs2.length p6, .bool ec2]] W (TrueT W) := by
        intro W h1 h2
        subst q1; subst q2; subst q3; subst q5; subst q4; subst q6; subst q7; subst q8; subst q9; subst HH2
        exact sameC_any (fun _ => False) HHE h1 h2
      have HCS := Lib.hid cS
      clear HOP HMO HMK HKN HQ2 HHH q1 q2 q3 q4 q5 q6 q7 q8 q9 HH2 HHE cS
      obtain ⟨n1, hn1⟩ : ∃ m, n = m + 1 := ⟨n - 1, by omega⟩
      have hn1a : n1 ≤ a.length := by omega
      obtain ⟨hc1, hc2⟩ := cut_hi (P := Tryz.prog) u8 22 5 Tryz.underlying22 (by kernel_rfl) A a.length cp n1 hn1a hle
      have d1 : decide ((n : Int) < 1) = false := decide_eq_false (by omega)
      have d2 : decide (a.length < n) = false := decide_eq_false (by omega)
      have hw1 : IntKind.i64.wrap ((n : Int) - 1) = (n1 : Int) := by rw [IntWalk.i64_in _ (by omega)]; omega
      rw [show n - 1 = n1 by omega] at k3
      have htk : (a.take n1).length = n1 := by rw [List.length_take]; omega
      have cX := fun W hW hE => tallC_any M (.slice A n1 cp) (a.take n1) W (hc2 M W a (HA.out.stp0 hW)) (by omega) hE k3 (H := ⟨#[]⟩) rfl
      have HCX := Lib.hid cX
      clear k1 k2 k3 htk cX hc2 hn1 h0 hn1a
      go_wp2_with (go_at_call 10; refine stopc ?_)
      refine Stop.go ?_
      refine (carry15 (ow := fun w' => VtR (fun _ => False) w' ⟨st, rs, ho, ⟨has, nm, al, vs, ec⟩⟩ (.slice A1 al.length p1) (.slice A2 vs.length p2) ∧ VtR (fun _ => False) w' ⟨st2, rs2, ho2, ⟨has2, nm2, al2, vs2, ec2⟩⟩ (.slice A5 al2.length p5) (.slice A6 vs2.length p6)) (HCX.out _ (HS4.out.trans ((HS1.out.alloc _))) (HM.out.step (HS1.out.alloc _))) (fun e w' h => by obtain ⟨_, _, _, _, _, _, hs⟩ := h; exact ⟨(HVW.out.1.stp0 ((Stp.refl (fun _ => False) _).alloc _)).stp0 hs, (HVW.out.2.stp0 ((Stp.refl (fun _ => False) _).alloc _)).stp0 hs⟩)).mono ?_
      rintro e w2 ⟨⟨A7, p7, A8, p8, rfl, hv3, hs2⟩, ho'⟩
      have HS2 := Lib.hid ((HS1.out.alloc _).trans hs2)
      replace HBV := Lib.hid (hs2.blk (((Stp.refl (fun _ => False) _).alloc _).blk HBV.out id) id)
      have HBW := Lib.hid (show w2.heap[w1.heap.size]? = some (.cells #[.int .i64 st2, .int .i64 1, .int .i64 (n2 : Int), .int .i64 rs2, .string H2, .int .i64 0, .bool has2, .string nm2, .slice A5 al2.length p5, .slice A6 vs2.length p6, .bool ec2] 31 (0, 0)) from hs2.blk (heap_alloc_new w1 _) id)
      clear hs2 kV0 kV1 kV2 kV3 kV4 kV5 kV6 kV7 kV8 kV9 kV10 ltV
      have kV0 : w2.cell? ⟨bv, 0, none⟩ = some (.int .i64 st) := blk_cell (j := 0) HBV.out
      have kV1 : w2.cell? ⟨bv, 1, none⟩ = some (.int .i64 1) := blk_cell (j := 1) HBV.out
      have kV2 : w2.cell? ⟨bv, 2, none⟩ = some (.int .i64 (n : Int)) := blk_cell (j := 2) HBV.out
      have kV3 : w2.cell? ⟨bv, 3, none⟩ = some (.int .i64 rs) := blk_cell (j := 3) HBV.out
      have kV4 : w2.cell? ⟨bv, 4, none⟩ = some (.string H) := blk_cell (j := 4) HBV.out
      have kV5 : w2.cell? ⟨bv, 5, none⟩ = some (.int .i64 0) := blk_cell (j := 5) HBV.out
      have kV6 : w2.cell? ⟨bv, 6, none⟩ = some (.bool has) := blk_cell (j := 6) HBV.out
      have kV7 : w2.cell? ⟨bv, 7, none⟩ = some (.string nm) := blk_cell (j := 7) HBV.out
      have kV8 : w2.cell? ⟨bv, 8, none⟩ = some (.slice A1 al.length p1) := blk_cell (j := 8) HBV.out
      have kV9 : w2.cell? ⟨bv, 9, none⟩ = some (.slice A2 vs.length p2) := blk_cell (j := 9) HBV.out
      have kV10 : w2.cell? ⟨bv, 10, none⟩ = some (.bool ec) := blk_cell (j := 10) HBV.out
      have ltV := blk_lt HBV.out
      have kW0 : w2.cell? ⟨w1.heap.size, 0, none⟩ = some (.int .i64 st2) := blk_cell (j := 0) HBW.out
      have kW1 : w2.cell? ⟨w1.heap.size, 1, none⟩ = some (.int .i64 1) := blk_cell (j := 1) HBW.out
      have kW2 : w2.cell? ⟨w1.heap.size, 2, none⟩ = some (.int .i64 (n2 : Int)) := blk_cell (j := 2) HBW.out
      have kW3 : w2.cell? ⟨w1.heap.size, 3, none⟩ = some (.int .i64 rs2) := blk_cell (j := 3) HBW.out
      have kW4 : w2.cell? ⟨w1.heap.size, 4, none⟩ = some (.string H2) := blk_cell (j := 4) HBW.out
      have kW5 : w2.cell? ⟨w1.heap.size, 5, none⟩ = some (.int .i64 0) := blk_cell (j := 5) HBW.out
      have kW6 : w2.cell? ⟨w1.heap.size, 6, none⟩ = some (.bool has2) := blk_cell (j := 6) HBW.out
      have kW7 : w2.cell? ⟨w1.heap.size, 7, none⟩ = some (.string nm2) := blk_cell (j := 7) HBW.out
      have kW8 : w2.cell? ⟨w1.heap.size, 8, none⟩ = some (.slice A5 al2.length p5) := blk_cell (j := 8) HBW.out
      have kW9 : w2.cell? ⟨w1.heap.size, 9, none⟩ = some (.slice A6 vs2.length p6) := blk_cell (j := 9) HBW.out
      have kW10 : w2.cell? ⟨w1.heap.size, 10, none⟩ = some (.bool ec2) := blk_cell (j := 10) HBW.out
      have ltW := blk_lt HBW.out
      replace HVW := Lib.hid ho'
      clear ho' hv3
      go_wp2_with (go_at_call 9; refine stopc ?_)
      refine Stop.go ?_
      refine (HCS.out _ (VtR.stp0 HVW.out.1 ((Stp.refl (fun _ => False) _).alloc _)) (VtR.stp0 HVW.out.2 ((Stp.refl (fun _ => False) _).alloc _))).mono ?_
      rintro e w3 ⟨he, hs3⟩
      subst he
      have HS3 := Lib.hid ((HS2.out.alloc _).trans hs3)
      replace HBV := Lib.hid (hs3.blk (((Stp.refl (fun _ => False) _).alloc _).blk HBV.out id) id)
      replace HBW := Lib.hid (hs3.blk (((Stp.refl (fun _ => False) _).alloc _).blk HBW.out id) id)
      have HBX := Lib.hid (show w3.heap[w2.heap.size]? = some (.cells #[.int .i64 0, .int .i64 1, .int .i64 (n1 : Int), .int .i64 0, .string ⟨#[]⟩, .int .i64 0, .bool false, .string ⟨#[]⟩, .slice A7 0 p7, .slice A8 0 p8, .bool false] 31 (0, 0)) from hs3.blk (heap_alloc_new w2 _) id)
      clear hs3 kV0 kV1 kV2 kV3 kV4 kV5 kV6 kV7 kV8 kV9 kV10 ltV kW0 kW1 kW2 kW3 kW4 kW5 kW6 kW7 kW8 kW9 kW10 ltW
      have kV0 : w3.cell? ⟨bv, 0, none⟩ = some (.int .i64 st) := blk_cell (j := 0) HBV.out
      have kV1 : w3.cell? ⟨bv, 1, none⟩ = some (.int .i64 1) := blk_cell (j := 1) HBV.out
      have kV2 : w3.cell? ⟨bv, 2, none⟩ = some (.int .i64 (n : Int)) := blk_cell (j := 2) HBV.out
      have kV3 : w3.cell? ⟨bv, 3, none⟩ = some (.int .i64 rs) := blk_cell (j := 3) HBV.out
      have kV4 : w3.cell? ⟨bv, 4, none⟩ = some (.string H) := blk_cell (j := 4) HBV.out
      have kV5 : w3.cell? ⟨bv, 5, none⟩ = some (.int .i64 0) := blk_cell (j := 5) HBV.out
      have kV6 : w3.cell? ⟨bv, 6, none⟩ = some (.bool has) := blk_cell (j := 6) HBV.out
      have kV7 : w3.cell? ⟨bv, 7, none⟩ = some (.string nm) := blk_cell (j := 7) HBV.out
      have kV8 : w3.cell? ⟨bv, 8, none⟩ = some (.slice A1 al.length p1) := blk_cell (j := 8) HBV.out
      have kV9 : w3.cell? ⟨bv, 9, none⟩ = some (.slice A2 vs.length p2) := blk_cell (j := 9) HBV.out
      have kV10 : w3.cell? ⟨bv, 10, none⟩ = some (.bool ec) := blk_cell (j := 10) HBV.out
      have ltV := blk_lt HBV.out
      have kW0 : w3.cell? ⟨w1.heap.size, 0, none⟩ = some (.int .i64 st2) := blk_cell (j := 0) HBW.out
      have kW1 : w3.cell? ⟨w1.heap.size, 1, none⟩ = some (.int .i64 1) := blk_cell (j := 1) HBW.out
      have kW2 : w3.cell? ⟨w1.heap.size, 2, none⟩ = some (.int .i64 (n2 : Int)) := blk_cell (j := 2) HBW.out
      have kW3 : w3.cell? ⟨w1.heap.size, 3, none⟩ = some (.int .i64 rs2) := blk_cell (j := 3) HBW.out
      have kW4 : w3.cell? ⟨w1.heap.size, 4, none⟩ = some (.string H2) := blk_cell (j := 4) HBW.out
      have kW5 : w3.cell? ⟨w1.heap.size, 5, none⟩ = some (.int .i64 0) := blk_cell (j := 5) HBW.out
      have kW6 : w3.cell? ⟨w1.heap.size, 6, none⟩ = some (.bool has2) := blk_cell (j := 6) HBW.out
      have kW7 : w3.cell? ⟨w1.heap.size, 7, none⟩ = some (.string nm2) := blk_cell (j := 7) HBW.out
      have kW8 : w3.cell? ⟨w1.heap.size, 8, none⟩ = some (.slice A5 al2.length p5) := blk_cell (j := 8) HBW.out
      have kW9 : w3.cell? ⟨w1.heap.size, 9, none⟩ = some (.slice A6 vs2.length p6) := blk_cell (j := 9) HBW.out
      have kW10 : w3.cell? ⟨w1.heap.size, 10, none⟩ = some (.bool ec2) := blk_cell (j := 10) HBW.out
      have ltW := blk_lt HBW.out
      have kX0 : w3.cell? ⟨w2.heap.size, 0, none⟩ = some (.int .i64 0) := blk_cell (j := 0) HBX.out
      have kX1 : w3.cell? ⟨w2.heap.size, 1, none⟩ = some (.int .i64 1) := blk_cell (j := 1) HBX.out
      have kX2 : w3.cell? ⟨w2.heap.size, 2, none⟩ = some (.int .i64 (n1 : Int)) := blk_cell (j := 2) HBX.out
      have kX3 : w3.cell? ⟨w2.heap.size, 3, none⟩ = some (.int .i64 0) := blk_cell (j := 3) HBX.out
      have kX4 : w3.cell? ⟨w2.heap.size, 4, none⟩ = some (.string ⟨#[]⟩) := blk_cell (j := 4) HBX.out
      have kX5 : w3.cell? ⟨w2.heap.size, 5, none⟩ = some (.int .i64 0) := blk_cell (j := 5) HBX.out
      have kX6 : w3.cell? ⟨w2.heap.size, 6, none⟩ = some (.bool false) := blk_cell (j := 6) HBX.out
      have kX7 : w3.cell? ⟨w2.heap.size, 7, none⟩ = some (.string ⟨#[]⟩) := blk_cell (j := 7) HBX.out
      have kX8 : w3.cell? ⟨w2.heap.size, 8, none⟩ = some (.slice A7 0 p7) := blk_cell (j := 8) HBX.out
      have kX9 : w3.cell? ⟨w2.heap.size, 9, none⟩ = some (.slice A8 0 p8) := blk_cell (j := 9) HBX.out
      have kX10 : w3.cell? ⟨w2.heap.size, 10, none⟩ = some (.bool false) := blk_cell (j := 10) HBX.out
      have ltX := blk_lt HBX.out
      go_wp2
      rw [HR.out]
      exact ⟨rfl, HS4.out.trans (HS3.out)⟩
  · have key : (decide ((3000 : Int) < (a.length : Int)) = true) ∨ (decide ((3000 : Int) < (a.length : Int)) = false ∧ decide ((500 : Int) < (b.length : Int)) = true) := by
      simp only [decide_eq_true_eq, decide_eq_false_iff_not]
      omega
    clear hbig
    rcases key with h1 | ⟨h1, h2⟩
    all_goals
      have HS0 := Lib.hid (Stp.refl (fun _ => False) w)
      go_enter Tryz.func5, Tryz.ntmps5
      go_wp2_with (go_at_call 8; refine stopc ?_)
      refine Stop.go ?_
      refine (small15_any _ (HM.out.step HS0.out)).mono ?_
      rintro e w1 ⟨he, hs1⟩
      subst he
      have HS1 := Lib.hid (HS0.out.trans hs1)
      clear hs1
      go_wp2
      rw [HR.out]
      exact ⟨rfl, HS1.out⟩
end Go.Proofs.YtligofmhbbgalaaGreatDoor.L
