/- Layer 22: the law AnswerBack, walked. (Printed by gen_xqi.py.) -/
import Derived.Test.YtkpfkdcfakhmjaaDoorQh
set_option linter.unusedVariables false
set_option linter.unusedSimpArgs false
namespace Go.Proofs.YtkpfkdcfakhmjaaDoor.L
open Go.RowKit Go.Proofs

theorem toU8_small (n : Int) (h0 : 0 ≤ n) (h : n < 256) : ((toU8 n).toNat : Int) = n := by rw [toU8_nat]; omega
theorem alert_lt (r y : Int) : 0 ≤ alertS r y ∧ alertS r y < 256 := by unfold alertS; (repeat' split) <;> omega
theorem readV_rec (n : Int) (h0 : 0 ≤ n) (h : n < 256) : readV (recS n) = .tuple #[.int .i64 1, .int .i64 n, .bool true] := by
  unfold readV
  rw [show readS (recS n) = (1, n, true) by unfold readS; rw [if_pos ⟨rfl, rfl⟩]; show ((1 : Int), ((toU8 n).toNat : Int), true) = _; rw [toU8_small n h0 h]]
theorem readV_page (y : Int) : readV (pageS (statusS y)) = .tuple #[.int .i64 2, .int .i64 (statusS y), .bool true] := by
  unfold statusS
  split
  · exact readV400
  · exact readV403
theorem readV_nil : readV [] = .tuple #[.int .i64 0, .int .i64 0, .bool false] := by
  unfold readV
  rw [show readS [] = (0, 0, false) by decide]
/-- A store into bytes that are read. -/
theorem rd_set {M : Nat → Prop} {W : World} {g c : Nat} {x : UInt8} {l : List UInt8} (z : UInt8) (h : Rd u8 M W (.slice (some ⟨g, 0, none⟩) (x :: l).length c) (x :: l)) :
    Rd u8 M (W.setCell ⟨g, 0, none⟩ (enc8 z)) (.slice (some ⟨g, 0, none⟩) (z :: l).length c) (z :: l) := by
  obtain ⟨-, hle, hcm, hc⟩ := h.at_
  obtain ⟨ad, he, hcs⟩ := hc (by simp)
  injection he with he
  subst he
  have hM : ¬ M g := hcs.1
  have hadd : ∀ j, (⟨g, 0, none⟩ : Addr).add j = ⟨g, j, none⟩ := fun j => by unfold Addr.add; split <;> simp_all
  refine plain_mk (enc := enc8) (h1 := fun _ => rfl) (by simpa using hle) hcm (fun _ => ⟨⟨g, 0, none⟩, rfl, hM, fun j hj => ?_⟩)
  rw [hadd]
  have h0 := plain_cell2 h 0 (by simp)
  match j, hj with
  | 0, _ => exact World.cell?_setCell_same _ _ _ (by simpa [Addr.add] using h0)
  | j + 1, hj =>
    have h2 := plain_cell2 h (j + 1) (by simpa using hj)
    rw [hadd] at h2
    rw [World.cell?_setCell_other _ _ _ _ (fun e => by injection e with _ e; omega), h2]
    rfl

set_option maxRecDepth 100000 in
set_option maxHeartbeats 4000000 in
theorem back_law (cv : Array Value) (p r : Int) (a : Bool) (y u : Int) (w : World) (hv : IsVd cv p r) (ht : TabP w) :
    Calls Tryd.prog 5 #[.agg cv, .agg #[.bool a, .int .i64 y, .int .i64 u]] w (smallV true w) := by
  obtain ⟨R, hR⟩ : ∃ R, R = smallV true w := ⟨_, rfl⟩
  rw [← hR]
  have hz := size_vd cv hv.1
  have hs0 := ((Stp.refl (fun _ => False) w).alloc (.cells cv 28)).alloc (.cells #[.bool a, .int .i64 y, .int .i64 u] 30)
  have hb : TellS w.heap.size (w.heap.size + 1) cv a y u ((w.alloc (.cells cv 28)).alloc (.cells #[.bool a, .int .i64 y, .int .i64 u] 30)) :=
    ⟨((Stp.refl (fun _ => False) _).alloc _).blk (heap_alloc_new w _) id, by
      have := heap_alloc_new (w.alloc (.cells cv 28)) (.cells #[.bool a, .int .i64 y, .int .i64 u] 30)
      simpa using this⟩
  have hc1 : cv[1]? = some (.int .i64 p) := by rw [Array.getElem?_eq_getElem (by have := hv.1; omega), hv.2.1]
  have HZ := Lib.hid hz
  have HB := Lib.hid hb
  have HS0 := Lib.hid hs0
  have HR := Lib.hid hR
  have HT := Lib.hid ht
  have HV := Lib.hid hv
  have HC1 := Lib.hid hc1
  clear hz hb hs0 hR ht hv hc1
  cases a with
  | true =>
    go_enter Tryd.func5, Tryd.ntmps5
    go_wp2_with (go_at_call 8; refine stopc ?_)
    refine Stop.go ?_
    refine (small22_any _ (HT.out.step HS0.out)).mono ?_
    rintro e w1 ⟨rfl, hs1⟩
    have HS1 := Lib.hid (HS0.out.trans hs1)
    have HB1 := Lib.hid (HB.out.step hs1)
    clear hs1
    go_wp2_with (with_reducible refine stop (N := 12) rfl ?_)
    refine Stop.go ?_
    refine wpList_load_row rfl _ _ rfl w.heap.size rfl _ cv (0, 0) _ HB1.out.1 Tryd.underlying28 rfl HZ.out ?_
    go_wp2_with (with_reducible refine stop (N := 13) rfl ?_)
    refine Stop.go ?_
    refine wpList_load_row rfl _ _ rfl (w.heap.size + 1) rfl _ _ (0, 0) _ HB1.out.2 Tryd.underlying30 rfl (size_dc _ _ _) ?_
    go_wp2_with (go_at_call 13; refine stopc ?_)
    refine Stop.go ?_
    refine (of_any cv _ r _ y u _ HV.out (HT.out.step HS1.out)).mono ?_
    rw [show ofS p r true y = [] by simp [ofS]]
    rintro e w2 ⟨v, rfl, hr2, hx2, hs2⟩
    obtain ⟨A2, c2, rfl, -⟩ := hr2.form
    have HR2 := Lib.hid hr2
    have HS2 := Lib.hid (HS1.out.trans hs2)
    have HB2 := Lib.hid (HB1.out.step hs2)
    clear hr2 hx2 hs2
    go_wp2_with (go_at_call 15; refine stopc ?_)
    refine Stop.go ?_
    refine (read_any _ _ [] _ HR2.out (HT.out.step HS2.out)).mono ?_
    rintro e w3 ⟨he, hs3⟩
    rw [readV_nil] at he
    subst he
    have HS3 := Lib.hid (HS2.out.trans hs3)
    have hb3 := HB2.out.step hs3
    have c0 := blk_cell (j := 0) hb3.2
    have c1 := blk_cell (j := 1) hb3.2
    have c2 := (blk_cell (j := 1) hb3.1).trans HC1.out
    clear hb3 hs3
    go_wp2
    rw [HR.out]
    exact ⟨rfl, HS3.out⟩
  | false =>
    by_cases y5 : y = 5
    · have b5 : (y != 5) = false := by simpa using y5
      have HY := Lib.hid y5
      clear y5
      go_enter Tryd.func5, Tryd.ntmps5
      go_wp2_with (go_at_call 8; refine stopc ?_)
      refine Stop.go ?_
      refine (small22_any _ (HT.out.step HS0.out)).mono ?_
      rintro e w1 ⟨rfl, hs1⟩
      have HS1 := Lib.hid (HS0.out.trans hs1)
      have HB1 := Lib.hid (HB.out.step hs1)
      clear hs1
      go_wp2_with (with_reducible refine stop (N := 12) rfl ?_)
      refine Stop.go ?_
      refine wpList_load_row rfl _ _ rfl w.heap.size rfl _ cv (0, 0) _ HB1.out.1 Tryd.underlying28 rfl HZ.out ?_
      go_wp2_with (with_reducible refine stop (N := 13) rfl ?_)
      refine Stop.go ?_
      refine wpList_load_row rfl _ _ rfl (w.heap.size + 1) rfl _ _ (0, 0) _ HB1.out.2 Tryd.underlying30 rfl (size_dc _ _ _) ?_
      go_wp2_with (go_at_call 13; refine stopc ?_)
      refine Stop.go ?_
      refine (of_any cv _ r _ y u _ HV.out (HT.out.step HS1.out)).mono ?_
      rw [show ofS p r false y = [] by simp [ofS, HY.out]]
      rintro e w2 ⟨v, rfl, hr2, hx2, hs2⟩
      obtain ⟨A2, c2, rfl, -⟩ := hr2.form
      have HR2 := Lib.hid hr2
      have HS2 := Lib.hid (HS1.out.trans hs2)
      have HB2 := Lib.hid (HB1.out.step hs2)
      clear hr2 hx2 hs2
      go_wp2_with (go_at_call 15; refine stopc ?_)
      refine Stop.go ?_
      refine (read_any _ _ [] _ HR2.out (HT.out.step HS2.out)).mono ?_
      rintro e w3 ⟨he, hs3⟩
      rw [readV_nil] at he
      subst he
      have HS3 := Lib.hid (HS2.out.trans hs3)
      have hb3 := HB2.out.step hs3
      have c0 := blk_cell (j := 0) hb3.2
      have c1 := blk_cell (j := 1) hb3.2
      have c2 := (blk_cell (j := 1) hb3.1).trans HC1.out
      clear hb3 hs3
      go_wp2
      rw [HR.out]
      exact ⟨rfl, HS3.out⟩
    · have b5 : (y != 5) = true := by simpa using y5
      have HY := Lib.hid y5
      clear y5
      by_cases p1 : p = 1
      · subst p1
        obtain ⟨n, hn⟩ : ∃ n, n = alertS r y := ⟨_, rfl⟩
        have HN := Lib.hid hn
        clear hn
        go_enter Tryd.func5, Tryd.ntmps5
        go_wp2_with (go_at_call 8; refine stopc ?_)
        refine Stop.go ?_
        refine (small22_any _ (HT.out.step HS0.out)).mono ?_
        rintro e w1 ⟨rfl, hs1⟩
        have HS1 := Lib.hid (HS0.out.trans hs1)
        have HB1 := Lib.hid (HB.out.step hs1)
        clear hs1
        go_wp2_with (with_reducible refine stop (N := 12) rfl ?_)
        refine Stop.go ?_
        refine wpList_load_row rfl _ _ rfl w.heap.size rfl _ cv (0, 0) _ HB1.out.1 Tryd.underlying28 rfl HZ.out ?_
        go_wp2_with (with_reducible refine stop (N := 13) rfl ?_)
        refine Stop.go ?_
        refine wpList_load_row rfl _ _ rfl (w.heap.size + 1) rfl _ _ (0, 0) _ HB1.out.2 Tryd.underlying30 rfl (size_dc _ _ _) ?_
        go_wp2_with (go_at_call 13; refine stopc ?_)
        refine Stop.go ?_
        refine (of_any cv _ r _ y u _ HV.out (HT.out.step HS1.out)).mono ?_
        rw [show ofS 1 r false y = recS n by rw [HN.out]; simp [ofS, HY.out]]
        rintro e w2 ⟨v, rfl, hr2, hx2, hs2⟩
        obtain ⟨tl, htl⟩ : ∃ tl, recS n = (21 :: tl : List UInt8) := ⟨[3, 3, 0, 2, 2, toU8 n], rfl⟩
        have HTL := Lib.hid htl
        clear htl
        obtain ⟨g, c, rfl, hg, hf⟩ := hx2 (by rw [HTL.out]; simp)
        rw [HTL.out] at hr2 hf ⊢
        rw [show (21 :: tl : List UInt8).length = tl.length + 1 from rfl] at hr2 hf ⊢
        have HR2 := Lib.hid hr2
        have HG := Lib.hid hg
        have HF := Lib.hid (hf 0 (by simp))
        have HS2 := Lib.hid (HS1.out.trans hs2)
        have HB2 := Lib.hid (HB1.out.step hs2)
        have HGL := Lib.hid (show g < w2.heap.size by
          obtain ⟨-, -, -, h4⟩ := hr2.at_
          obtain ⟨ad, he, hcs⟩ := h4 (by simp)
          injection he with he
          subst he
          exact hcs.lt (by simp) (by decide))
        clear hr2 hx2 hs2 hg hf
        go_wp2_with (go_at_call 15; refine stopc ?_)
        refine Stop.go ?_
        refine (read_any _ _ (21 :: tl) _ HR2.out (HT.out.step HS2.out)).mono ?_
        rintro e w3 ⟨he, hs3⟩
        rw [← HTL.out, readV_rec n (by rw [HN.out]; exact (alert_lt r y).1) (by rw [HN.out]; exact (alert_lt r y).2)] at he
        subst he
        have HS3 := Lib.hid (HS2.out.trans hs3)
        have HB3 := Lib.hid (HB2.out.step hs3)
        have HT3 := Lib.hid hs3
        have hb3 := HB3.out
        have c0 := blk_cell (j := 0) hb3.2
        have c1 := blk_cell (j := 1) hb3.2
        have c2 := (blk_cell (j := 1) hb3.1).trans HC1.out
        have en : (n != n) = false := by simp
        clear hb3 hs3
        go_wp2_with (with_reducible refine stop (N := 72) rfl ?_)
        refine Stop.go ?_
        refine wpList_wanted (by kernel_rfl) (wp_load_row _ _ rfl w.heap.size rfl _ cv (0, 0) _ HB3.out.1 Tryd.underlying28 rfl HZ.out ?_)
        go_wp2_with (with_reducible refine stop (N := 73) rfl ?_)
        refine Stop.go ?_
        refine wpList_wanted (by kernel_rfl) (wp_load_row _ _ rfl (w.heap.size + 1) rfl _ _ (0, 0) _ HB3.out.2 Tryd.underlying30 rfl (size_dc _ _ _) ?_)
        go_wp2_with (go_at_call 9; refine stopc ?_)
        refine Stop.go ?_
        refine (alert_any cv 1 r false y u _ HV.out).mono ?_
        rw [← HN.out]
        rintro e w4 ⟨rfl, hs4⟩
        clear c0 c1 c2
        have HS4 := Lib.hid (HS3.out.trans hs4)
        have HB4 := Lib.hid (HB3.out.step hs4)
        have hf4 : w4.frozen? ⟨g, 0, none⟩ = false := by
          rw [World.frozen?_of_block (a := ⟨g, 0, none⟩) ((HT3.out.trans hs4).block g HGL.out id)]
          exact HF.out
        have hr4 := HR2.out.stp0 (HT3.out.trans hs4)
        have hc4 : w4.cell? ⟨g, 0, none⟩ = some (.int .u8 21) := by
          have := plain_cell2 hr4 0 (by simp)
          simpa [Addr.add, enc8] using this
        have HR4 := Lib.hid hr4
        clear hs4 hr4
        have hin : (0 : Int) < (tl.length : Int) + 1 := by omega
        go_wp2_with fail
        have HR5 := Lib.hid (rd_set 0 HR4.out)
        have hk : ∀ w', Stp (fun _ => False) (w4.setCell ⟨g, 0, none⟩ (.int .u8 0)) w' → TellS w.heap.size (w.heap.size + 1) cv false y u w' ∧ convB w' (.slice (some ⟨g, 0, none⟩) (tl.length + 1) c) (0 :: tl) := fun w' h => by
          have hst : Stp (fun k => k = g) w4 w' := ((Stp.refl (fun k => k = g) w4).setg 0 _).trans h.to
          have h1 := HG.out
          have h2 := HS1.out.size
          have h3 := blk_lt HB1.out.2
          exact ⟨⟨hst.blk HB4.out.1 (by omega), hst.blk HB4.out.2 (by omega)⟩, conv_of (HR5.out.stp0 h)⟩
        have hne : ((strB (21 :: tl)).toList == (strB (0 :: tl)).toList) = false := by rw [beq_strB]; simp
        have hne2 : ((strB (21 :: tl)).toList != (strB (0 :: tl)).toList) = true := by show (!((strB (21 :: tl)).toList == (strB (0 :: tl)).toList)) = true; rw [hne]; rfl
        have HS5 := Lib.hid (HS4.out.setCell (p := ⟨g, 0, none⟩) (fun h => absurd h (by have := HG.out; have := HS1.out.size; simp; omega)) (.int .u8 0))
        have HK := Lib.hid hk
        clear hk
        refine wp_region_held_drew (S := (fun w' => TellS w.heap.size (w.heap.size + 1) cv false y u w' ∧ convB w' (.slice (some ⟨g, 0, none⟩) (tl.length + 1) c) (0 :: tl))) (by kernel_rfl) (HK.out _ (Stp.refl _ _).drew) (fun hHeld => ?_)
        try (change wpAnyH _ _ _ _ _ _ _ _ (World.drew _))
        refine rg_take (i := 0) (o := { dst := some 90, op := Op.move (Operand.tmp 5), type := 4, pos := "law.go:56", after := #[], guard := none }) (v := ?rgv1) rfl (by kernel_rfl) (by kernel_rfl) (by kernel_rfl) (fun _ _ _ h => h) (by rfl) (fun w hSw => ?rgy1) hHeld ?_
        case rgy1 => (try dsimp only at hSw); first | (go_simp; done) | (go_simp; with_reducible rfl)
        try simp only [Act.put, List.setIfInBounds_toArray, List.set_cons_zero, List.set_cons_succ]
        refine rg_take (i := 1) (o := { dst := some 91, op := Op.move (Operand.tmp 90), type := 4, pos := "law.go:56", after := #[{ on := 0, ground := Ground.data }], guard := none }) (v := ?rgv2) rfl (by kernel_rfl) (by kernel_rfl) (by kernel_rfl) (fun _ _ _ h => h) (by rfl) (fun w hSw => ?rgy2) hHeld ?_
        case rgy2 => (try dsimp only at hSw); first | (go_simp; done) | (go_simp; with_reducible rfl)
        try simp only [Act.put, List.setIfInBounds_toArray, List.set_cons_zero, List.set_cons_succ]
        refine rg_take (i := 2) (o := { dst := some 92, op := Op.load 28 (Operand.tmp 2), type := 28, pos := "law.go:56", after := #[{ on := 1, ground := Ground.guard }], guard := some (1, true) }) (v := (.agg cv)) rfl (by kernel_rfl) (by kernel_rfl) (by kernel_rfl) (fun _ _ _ h => h) (by rfl) (fun w hSw => exec_load _ _ (by rfl) _ (by rfl) _ cv (0, 0) _ hSw.1.1 Tryd.underlying28 rfl HZ.out) hHeld ?_
        try simp only [Act.put, List.setIfInBounds_toArray, List.set_cons_zero, List.set_cons_succ]
        refine rg_take (i := 3) (o := { dst := some 93, op := Op.load 30 (Operand.tmp 3), type := 30, pos := "law.go:56", after := #[{ on := 1, ground := Ground.guard }], guard := some (1, true) }) (v := (.agg #[.bool false, .int .i64 y, .int .i64 u])) rfl (by kernel_rfl) (by kernel_rfl) (by kernel_rfl) (fun _ _ _ h => h) (by rfl) (fun w hSw => exec_load _ _ (by rfl) _ (by rfl) _ _ (0, 0) _ hSw.1.2 Tryd.underlying30 rfl (size_dc _ _ _)) hHeld ?_
        try simp only [Act.put, List.setIfInBounds_toArray, List.set_cons_zero, List.set_cons_succ]
        refine rg_take (i := 6) (o := { dst := some 96, op := Op.move (Operand.tmp 6), type := 34, pos := "law.go:56", after := #[{ on := 1, ground := Ground.guard }], guard := some (1, true) }) (v := ?rgv5) rfl (by kernel_rfl) (by kernel_rfl) (by kernel_rfl) (fun _ _ _ h => h) (by rfl) (fun w hSw => ?rgy5) hHeld ?_
        case rgy5 => (try dsimp only at hSw); first | (go_simp; done) | (go_simp; with_reducible rfl)
        try simp only [Act.put, List.setIfInBounds_toArray, List.set_cons_zero, List.set_cons_succ]
        refine rg_take (i := 7) (o := { dst := some 97, op := Op.convert 34 9 (Operand.tmp 96), type := 9, pos := "law.go:56", after := #[{ on := 6, ground := Ground.data }, { on := 1, ground := Ground.guard }], guard := some (1, true) }) (v := ?rgv6) rfl (by kernel_rfl) (by kernel_rfl) (by kernel_rfl) (fun _ _ _ h => h) (by rfl) (fun w hSw => ?rgy6) hHeld ?_
        case rgy6 => (try dsimp only at hSw); first | (go_simp; done) | (go_simp; with_reducible rfl)
        try simp only [Act.put, List.setIfInBounds_toArray, List.set_cons_zero, List.set_cons_succ]
        refine wpAnyH_ready (rs := [4]) (by kernel_rfl) (by simp) ?_
        refine (AllReadyH.cons (o := { dst := some 94, op := Op.call { callee := Callee.value (Operand.func 13), args := #[Operand.tmp 92, Operand.tmp 93], argTypes := #[28, 30] }, type := 34, pos := "law.go:56", after := #[{ on := 2, ground := Ground.data }, { on := 3, ground := Ground.data }, { on := 1, ground := Ground.chain }, { on := 1, ground := Ground.guard }], guard := some (1, true) }) rfl (fun K hK => ?_) AllReadyH.nil)
        go_simp
        refine (of_any cv 1 r false y u _ HV.out ((HT.out.step HS5.out).step (Stp.refl _ _).drew)).mono ?_
        rw [show ofS 1 r false y = recS n by rw [HN.out]; simp [ofS, HY.out], HTL.out]
        rintro e w6 ⟨v6, rfl, hr6, -, hs6⟩
        have HS6 := Lib.hid ((Stp.refl (fun _ => False) (w4.setCell ⟨g, 0, none⟩ (.int .u8 0))).drew.trans hs6)
        have HR6 := Lib.hid hr6
        clear hr6 hs6
        show K _ _
        clear hHeld
        refine hK.out _ _ (HK.out _ HS6.out) (fun hHeld => ?_)
        clear hK K
        try simp only [Act.put, List.setIfInBounds_toArray, List.set_cons_zero, List.set_cons_succ]
        refine rg_more (T := (fun w' => convB w' v6 (21 :: tl))) ?_
        replace hHeld := And.intro hHeld (conv_of HR6.out)
        refine rg_take (i := 5) (o := { dst := some 95, op := Op.convert 34 9 (Operand.tmp 94), type := 9, pos := "law.go:56", after := #[{ on := 4, ground := Ground.data }, { on := 1, ground := Ground.guard }], guard := some (1, true) }) (v := ?rgv7) rfl (by kernel_rfl) (by kernel_rfl) (by kernel_rfl) (fun _ _ _ h => h) (by rfl) (fun w hSw => ?rgy7) hHeld ?_
        case rgy7 => (try dsimp only at hSw); first | (go_simp; done) | (go_simp; with_reducible rfl)
        try simp only [Act.put, List.setIfInBounds_toArray, List.set_cons_zero, List.set_cons_succ]
        refine rg_take (i := 8) (o := { dst := some 98, op := Op.binOp BinOp.neq 9 (Operand.tmp 95) (Operand.tmp 97) 9, type := 4, pos := "law.go:56", after := #[{ on := 5, ground := Ground.data }, { on := 7, ground := Ground.data }, { on := 1, ground := Ground.guard }], guard := some (1, true) }) (v := ?rgv8) rfl (by kernel_rfl) (by kernel_rfl) (by kernel_rfl) (fun _ _ _ h => h) (by rfl) (fun w hSw => ?rgy8) hHeld ?_
        case rgy8 => (try dsimp only at hSw); first | (go_simp; done) | (go_simp; with_reducible rfl)
        try simp only [Act.put, List.setIfInBounds_toArray, List.set_cons_zero, List.set_cons_succ]
        refine rg_take (i := 9) (o := { dst := some 99, op := Op.pick (Operand.tmp 91) (Operand.tmp 98) (Operand.const (Value.bool false)), type := 4, pos := "law.go:56", after := #[{ on := 1, ground := Ground.data }, { on := 8, ground := Ground.data }], guard := none }) (v := ?rgv9) rfl (by kernel_rfl) (by kernel_rfl) (by kernel_rfl) (fun _ _ _ h => h) (by rfl) (fun w hSw => ?rgy9) hHeld ?_
        case rgy9 => (try dsimp only at hSw); first | (go_simp; done) | (go_simp; with_reducible rfl)
        try simp only [Act.put, List.setIfInBounds_toArray, List.set_cons_zero, List.set_cons_succ]
        refine rg_take (i := 10) (o := { dst := some 4, op := Op.assign (Operand.tmp 99), type := 4, pos := "law.go:56", after := #[{ on := 9, ground := Ground.data }, { on := 4, ground := Ground.chain }, { on := 0, ground := Ground.phase }, { on := 1, ground := Ground.phase }, { on := 2, ground := Ground.phase }, { on := 3, ground := Ground.phase }, { on := 4, ground := Ground.phase }, { on := 5, ground := Ground.phase }, { on := 6, ground := Ground.phase }, { on := 7, ground := Ground.phase }, { on := 8, ground := Ground.phase }, { on := 9, ground := Ground.phase }], guard := none }) (v := ?rgv10) rfl (by kernel_rfl) (by kernel_rfl) (by kernel_rfl) (fun _ _ _ h => h) (by rfl) (fun w hSw => ?rgy10) hHeld ?_
        case rgy10 => (try dsimp only at hSw); first | (go_simp; done) | (go_simp; with_reducible rfl)
        try simp only [Act.put, List.setIfInBounds_toArray, List.set_cons_zero, List.set_cons_succ]
        clear hHeld
        refine wpAnyH_done (by kernel_rfl) ?_ _
        go_wp2
        rw [HR.out]
        exact ⟨rfl, HS5.out.trans HS6.out⟩
      · by_cases p2 : p = 2
        · subst p2
          obtain ⟨n, hn⟩ : ∃ n, n = statusS y := ⟨_, rfl⟩
          have HN := Lib.hid hn
          clear hn
          go_enter Tryd.func5, Tryd.ntmps5
          go_wp2_with (go_at_call 8; refine stopc ?_)
          refine Stop.go ?_
          refine (small22_any _ (HT.out.step HS0.out)).mono ?_
          rintro e w1 ⟨rfl, hs1⟩
          have HS1 := Lib.hid (HS0.out.trans hs1)
          have HB1 := Lib.hid (HB.out.step hs1)
          clear hs1
          go_wp2_with (with_reducible refine stop (N := 12) rfl ?_)
          refine Stop.go ?_
          refine wpList_load_row rfl _ _ rfl w.heap.size rfl _ cv (0, 0) _ HB1.out.1 Tryd.underlying28 rfl HZ.out ?_
          go_wp2_with (with_reducible refine stop (N := 13) rfl ?_)
          refine Stop.go ?_
          refine wpList_load_row rfl _ _ rfl (w.heap.size + 1) rfl _ _ (0, 0) _ HB1.out.2 Tryd.underlying30 rfl (size_dc _ _ _) ?_
          go_wp2_with (go_at_call 13; refine stopc ?_)
          refine Stop.go ?_
          refine (of_any cv _ r _ y u _ HV.out (HT.out.step HS1.out)).mono ?_
          rw [show ofS 2 r false y = pageS n by rw [HN.out]; simp [ofS, HY.out]]
          rintro e w2 ⟨v, rfl, hr2, hx2, hs2⟩
          obtain ⟨tl, htl⟩ : ∃ tl, pageS n = (72 :: tl : List UInt8) := ⟨(pageS n).tail, by rw [HN.out]; unfold statusS; split <;> rfl⟩
          have HTL := Lib.hid htl
          clear htl
          obtain ⟨g, c, rfl, hg, hf⟩ := hx2 (by rw [HTL.out]; simp)
          rw [HTL.out] at hr2 hf ⊢
          rw [show (72 :: tl : List UInt8).length = tl.length + 1 from rfl] at hr2 hf ⊢
          have HR2 := Lib.hid hr2
          have HG := Lib.hid hg
          have HF := Lib.hid (hf 0 (by simp))
          have HS2 := Lib.hid (HS1.out.trans hs2)
          have HB2 := Lib.hid (HB1.out.step hs2)
          have HGL := Lib.hid (show g < w2.heap.size by
            obtain ⟨-, -, -, h4⟩ := hr2.at_
            obtain ⟨ad, he, hcs⟩ := h4 (by simp)
            injection he with he
            subst he
            exact hcs.lt (by simp) (by decide))
          clear hr2 hx2 hs2 hg hf
          go_wp2_with (go_at_call 15; refine stopc ?_)
          refine Stop.go ?_
          refine (read_any _ _ (72 :: tl) _ HR2.out (HT.out.step HS2.out)).mono ?_
          rintro e w3 ⟨he, hs3⟩
          rw [← HTL.out, (by rw [HN.out]; exact readV_page y : readV (pageS n) = .tuple #[.int .i64 2, .int .i64 n, .bool true])] at he
          subst he
          have HS3 := Lib.hid (HS2.out.trans hs3)
          have HB3 := Lib.hid (HB2.out.step hs3)
          have HT3 := Lib.hid hs3
          have hb3 := HB3.out
          have c0 := blk_cell (j := 0) hb3.2
          have c1 := blk_cell (j := 1) hb3.2
          have c2 := (blk_cell (j := 1) hb3.1).trans HC1.out
          have en : (n != n) = false := by simp
          clear hb3 hs3
          go_wp2_with (with_reducible refine stop (N := 83) rfl ?_)
          refine Stop.go ?_
          refine wpList_wanted (by kernel_rfl) (wp_load_row _ _ rfl (w.heap.size + 1) rfl _ _ (0, 0) _ HB3.out.2 Tryd.underlying30 rfl (size_dc _ _ _) ?_)
          go_wp2_with (go_at_call 11; refine stopc ?_)
          refine Stop.go ?_
          refine (status_any false y u _).mono ?_
          rw [← HN.out]
          rintro e w4 ⟨rfl, hs4⟩
          clear c0 c1 c2
          have HS4 := Lib.hid (HS3.out.trans hs4)
          have HB4 := Lib.hid (HB3.out.step hs4)
          have hf4 : w4.frozen? ⟨g, 0, none⟩ = false := by
            rw [World.frozen?_of_block (a := ⟨g, 0, none⟩) ((HT3.out.trans hs4).block g HGL.out id)]
            exact HF.out
          have hr4 := HR2.out.stp0 (HT3.out.trans hs4)
          have hc4 : w4.cell? ⟨g, 0, none⟩ = some (.int .u8 72) := by
            have := plain_cell2 hr4 0 (by simp)
            simpa [Addr.add, enc8] using this
          have HR4 := Lib.hid hr4
          clear hs4 hr4
          have hin : (0 : Int) < (tl.length : Int) + 1 := by omega
          go_wp2_with fail
          have HR5 := Lib.hid (rd_set 0 HR4.out)
          have hk : ∀ w', Stp (fun _ => False) (w4.setCell ⟨g, 0, none⟩ (.int .u8 0)) w' → TellS w.heap.size (w.heap.size + 1) cv false y u w' ∧ convB w' (.slice (some ⟨g, 0, none⟩) (tl.length + 1) c) (0 :: tl) := fun w' h => by
            have hst : Stp (fun k => k = g) w4 w' := ((Stp.refl (fun k => k = g) w4).setg 0 _).trans h.to
            have h1 := HG.out
            have h2 := HS1.out.size
            have h3 := blk_lt HB1.out.2
            exact ⟨⟨hst.blk HB4.out.1 (by omega), hst.blk HB4.out.2 (by omega)⟩, conv_of (HR5.out.stp0 h)⟩
          have hne : ((strB (72 :: tl)).toList == (strB (0 :: tl)).toList) = false := by rw [beq_strB]; simp
          have hne2 : ((strB (72 :: tl)).toList != (strB (0 :: tl)).toList) = true := by show (!((strB (72 :: tl)).toList == (strB (0 :: tl)).toList)) = true; rw [hne]; rfl
          have HS5 := Lib.hid (HS4.out.setCell (p := ⟨g, 0, none⟩) (fun h => absurd h (by have := HG.out; have := HS1.out.size; simp; omega)) (.int .u8 0))
          have HK := Lib.hid hk
          clear hk
          refine wp_region_held_drew (S := (fun w' => TellS w.heap.size (w.heap.size + 1) cv false y u w' ∧ convB w' (.slice (some ⟨g, 0, none⟩) (tl.length + 1) c) (0 :: tl))) (by kernel_rfl) (HK.out _ (Stp.refl _ _).drew) (fun hHeld => ?_)
          try (change wpAnyH _ _ _ _ _ _ _ _ (World.drew _))
          refine rg_take (i := 0) (o := { dst := some 90, op := Op.move (Operand.tmp 5), type := 4, pos := "law.go:56", after := #[], guard := none }) (v := ?rgv11) rfl (by kernel_rfl) (by kernel_rfl) (by kernel_rfl) (fun _ _ _ h => h) (by rfl) (fun w hSw => ?rgy11) hHeld ?_
          case rgy11 => (try dsimp only at hSw); first | (go_simp; done) | (go_simp; with_reducible rfl)
          try simp only [Act.put, List.setIfInBounds_toArray, List.set_cons_zero, List.set_cons_succ]
          refine rg_take (i := 1) (o := { dst := some 91, op := Op.move (Operand.tmp 90), type := 4, pos := "law.go:56", after := #[{ on := 0, ground := Ground.data }], guard := none }) (v := ?rgv12) rfl (by kernel_rfl) (by kernel_rfl) (by kernel_rfl) (fun _ _ _ h => h) (by rfl) (fun w hSw => ?rgy12) hHeld ?_
          case rgy12 => (try dsimp only at hSw); first | (go_simp; done) | (go_simp; with_reducible rfl)
          try simp only [Act.put, List.setIfInBounds_toArray, List.set_cons_zero, List.set_cons_succ]
          refine rg_take (i := 2) (o := { dst := some 92, op := Op.load 28 (Operand.tmp 2), type := 28, pos := "law.go:56", after := #[{ on := 1, ground := Ground.guard }], guard := some (1, true) }) (v := (.agg cv)) rfl (by kernel_rfl) (by kernel_rfl) (by kernel_rfl) (fun _ _ _ h => h) (by rfl) (fun w hSw => exec_load _ _ (by rfl) _ (by rfl) _ cv (0, 0) _ hSw.1.1 Tryd.underlying28 rfl HZ.out) hHeld ?_
          try simp only [Act.put, List.setIfInBounds_toArray, List.set_cons_zero, List.set_cons_succ]
          refine rg_take (i := 3) (o := { dst := some 93, op := Op.load 30 (Operand.tmp 3), type := 30, pos := "law.go:56", after := #[{ on := 1, ground := Ground.guard }], guard := some (1, true) }) (v := (.agg #[.bool false, .int .i64 y, .int .i64 u])) rfl (by kernel_rfl) (by kernel_rfl) (by kernel_rfl) (fun _ _ _ h => h) (by rfl) (fun w hSw => exec_load _ _ (by rfl) _ (by rfl) _ _ (0, 0) _ hSw.1.2 Tryd.underlying30 rfl (size_dc _ _ _)) hHeld ?_
          try simp only [Act.put, List.setIfInBounds_toArray, List.set_cons_zero, List.set_cons_succ]
          refine rg_take (i := 6) (o := { dst := some 96, op := Op.move (Operand.tmp 6), type := 34, pos := "law.go:56", after := #[{ on := 1, ground := Ground.guard }], guard := some (1, true) }) (v := ?rgv15) rfl (by kernel_rfl) (by kernel_rfl) (by kernel_rfl) (fun _ _ _ h => h) (by rfl) (fun w hSw => ?rgy15) hHeld ?_
          case rgy15 => (try dsimp only at hSw); first | (go_simp; done) | (go_simp; with_reducible rfl)
          try simp only [Act.put, List.setIfInBounds_toArray, List.set_cons_zero, List.set_cons_succ]
          refine rg_take (i := 7) (o := { dst := some 97, op := Op.convert 34 9 (Operand.tmp 96), type := 9, pos := "law.go:56", after := #[{ on := 6, ground := Ground.data }, { on := 1, ground := Ground.guard }], guard := some (1, true) }) (v := ?rgv16) rfl (by kernel_rfl) (by kernel_rfl) (by kernel_rfl) (fun _ _ _ h => h) (by rfl) (fun w hSw => ?rgy16) hHeld ?_
          case rgy16 => (try dsimp only at hSw); first | (go_simp; done) | (go_simp; with_reducible rfl)
          try simp only [Act.put, List.setIfInBounds_toArray, List.set_cons_zero, List.set_cons_succ]
          refine wpAnyH_ready (rs := [4]) (by kernel_rfl) (by simp) ?_
          refine (AllReadyH.cons (o := { dst := some 94, op := Op.call { callee := Callee.value (Operand.func 13), args := #[Operand.tmp 92, Operand.tmp 93], argTypes := #[28, 30] }, type := 34, pos := "law.go:56", after := #[{ on := 2, ground := Ground.data }, { on := 3, ground := Ground.data }, { on := 1, ground := Ground.chain }, { on := 1, ground := Ground.guard }], guard := some (1, true) }) rfl (fun K hK => ?_) AllReadyH.nil)
          go_simp
          refine (of_any cv 2 r false y u _ HV.out ((HT.out.step HS5.out).step (Stp.refl _ _).drew)).mono ?_
          rw [show ofS 2 r false y = pageS n by rw [HN.out]; simp [ofS, HY.out], HTL.out]
          rintro e w6 ⟨v6, rfl, hr6, -, hs6⟩
          have HS6 := Lib.hid ((Stp.refl (fun _ => False) (w4.setCell ⟨g, 0, none⟩ (.int .u8 0))).drew.trans hs6)
          have HR6 := Lib.hid hr6
          clear hr6 hs6
          show K _ _
          clear hHeld
          refine hK.out _ _ (HK.out _ HS6.out) (fun hHeld => ?_)
          clear hK K
          try simp only [Act.put, List.setIfInBounds_toArray, List.set_cons_zero, List.set_cons_succ]
          refine rg_more (T := (fun w' => convB w' v6 (72 :: tl))) ?_
          replace hHeld := And.intro hHeld (conv_of HR6.out)
          refine rg_take (i := 5) (o := { dst := some 95, op := Op.convert 34 9 (Operand.tmp 94), type := 9, pos := "law.go:56", after := #[{ on := 4, ground := Ground.data }, { on := 1, ground := Ground.guard }], guard := some (1, true) }) (v := ?rgv17) rfl (by kernel_rfl) (by kernel_rfl) (by kernel_rfl) (fun _ _ _ h => h) (by rfl) (fun w hSw => ?rgy17) hHeld ?_
          case rgy17 => (try dsimp only at hSw); first | (go_simp; done) | (go_simp; with_reducible rfl)
          try simp only [Act.put, List.setIfInBounds_toArray, List.set_cons_zero, List.set_cons_succ]
          refine rg_take (i := 8) (o := { dst := some 98, op := Op.binOp BinOp.neq 9 (Operand.tmp 95) (Operand.tmp 97) 9, type := 4, pos := "law.go:56", after := #[{ on := 5, ground := Ground.data }, { on := 7, ground := Ground.data }, { on := 1, ground := Ground.guard }], guard := some (1, true) }) (v := ?rgv18) rfl (by kernel_rfl) (by kernel_rfl) (by kernel_rfl) (fun _ _ _ h => h) (by rfl) (fun w hSw => ?rgy18) hHeld ?_
          case rgy18 => (try dsimp only at hSw); first | (go_simp; done) | (go_simp; with_reducible rfl)
          try simp only [Act.put, List.setIfInBounds_toArray, List.set_cons_zero, List.set_cons_succ]
          refine rg_take (i := 9) (o := { dst := some 99, op := Op.pick (Operand.tmp 91) (Operand.tmp 98) (Operand.const (Value.bool false)), type := 4, pos := "law.go:56", after := #[{ on := 1, ground := Ground.data }, { on := 8, ground := Ground.data }], guard := none }) (v := ?rgv19) rfl (by kernel_rfl) (by kernel_rfl) (by kernel_rfl) (fun _ _ _ h => h) (by rfl) (fun w hSw => ?rgy19) hHeld ?_
          case rgy19 => (try dsimp only at hSw); first | (go_simp; done) | (go_simp; with_reducible rfl)
          try simp only [Act.put, List.setIfInBounds_toArray, List.set_cons_zero, List.set_cons_succ]
          refine rg_take (i := 10) (o := { dst := some 4, op := Op.assign (Operand.tmp 99), type := 4, pos := "law.go:56", after := #[{ on := 9, ground := Ground.data }, { on := 4, ground := Ground.chain }, { on := 0, ground := Ground.phase }, { on := 1, ground := Ground.phase }, { on := 2, ground := Ground.phase }, { on := 3, ground := Ground.phase }, { on := 4, ground := Ground.phase }, { on := 5, ground := Ground.phase }, { on := 6, ground := Ground.phase }, { on := 7, ground := Ground.phase }, { on := 8, ground := Ground.phase }, { on := 9, ground := Ground.phase }], guard := none }) (v := ?rgv20) rfl (by kernel_rfl) (by kernel_rfl) (by kernel_rfl) (fun _ _ _ h => h) (by rfl) (fun w hSw => ?rgy20) hHeld ?_
          case rgy20 => (try dsimp only at hSw); first | (go_simp; done) | (go_simp; with_reducible rfl)
          try simp only [Act.put, List.setIfInBounds_toArray, List.set_cons_zero, List.set_cons_succ]
          clear hHeld
          refine wpAnyH_done (by kernel_rfl) ?_ _
          go_wp2
          rw [HR.out]
          exact ⟨rfl, HS5.out.trans HS6.out⟩
        · have q1 : (p == 1) = false := by simpa using p1
          have q2 : (p == 2) = false := by simpa using p2
          have P1 := Lib.hid p1
          have P2 := Lib.hid p2
          clear p1 p2
          go_enter Tryd.func5, Tryd.ntmps5
          go_wp2_with (go_at_call 8; refine stopc ?_)
          refine Stop.go ?_
          refine (small22_any _ (HT.out.step HS0.out)).mono ?_
          rintro e w1 ⟨rfl, hs1⟩
          have HS1 := Lib.hid (HS0.out.trans hs1)
          have HB1 := Lib.hid (HB.out.step hs1)
          clear hs1
          go_wp2_with (with_reducible refine stop (N := 12) rfl ?_)
          refine Stop.go ?_
          refine wpList_load_row rfl _ _ rfl w.heap.size rfl _ cv (0, 0) _ HB1.out.1 Tryd.underlying28 rfl HZ.out ?_
          go_wp2_with (with_reducible refine stop (N := 13) rfl ?_)
          refine Stop.go ?_
          refine wpList_load_row rfl _ _ rfl (w.heap.size + 1) rfl _ _ (0, 0) _ HB1.out.2 Tryd.underlying30 rfl (size_dc _ _ _) ?_
          go_wp2_with (go_at_call 13; refine stopc ?_)
          refine Stop.go ?_
          refine (of_any cv _ r _ y u _ HV.out (HT.out.step HS1.out)).mono ?_
          rw [show ofS p r false y = [] by simp [ofS, HY.out, P1.out, P2.out]]
          rintro e w2 ⟨v, rfl, hr2, hx2, hs2⟩
          obtain ⟨A2, c2, rfl, -⟩ := hr2.form
          have HR2 := Lib.hid hr2
          have HS2 := Lib.hid (HS1.out.trans hs2)
          have HB2 := Lib.hid (HB1.out.step hs2)
          clear hr2 hx2 hs2
          go_wp2_with (go_at_call 15; refine stopc ?_)
          refine Stop.go ?_
          refine (read_any _ _ [] _ HR2.out (HT.out.step HS2.out)).mono ?_
          rintro e w3 ⟨he, hs3⟩
          rw [readV_nil] at he
          subst he
          have HS3 := Lib.hid (HS2.out.trans hs3)
          have hb3 := HB2.out.step hs3
          have c0 := blk_cell (j := 0) hb3.2
          have c1 := blk_cell (j := 1) hb3.2
          have c2 := (blk_cell (j := 1) hb3.1).trans HC1.out
          clear hb3 hs3
          go_wp2
          rw [HR.out]
          exact ⟨rfl, HS3.out⟩
end Go.Proofs.YtkpfkdcfakhmjaaDoor.L
