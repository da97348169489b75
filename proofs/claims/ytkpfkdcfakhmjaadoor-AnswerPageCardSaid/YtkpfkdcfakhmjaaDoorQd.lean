/- Layer 22: what a client is told. -/
import Derived.Test.YtkpfkdcfakhmjaaDoorQc
set_option linter.unusedVariables false
set_option linter.unusedSimpArgs false
namespace Go.Proofs.YtkpfkdcfakhmjaaDoor.L
open Go.RowKit Go.Proofs

/-- What is told. -/
def ofS (p r : Int) (a : Bool) (y : Int) : List UInt8 := if a = true ∨ y = 5 then [] else if p = 1 then recS (alertS r y) else if p = 2 then pageS (statusS y) else []
theorem NewR.up {w w1 w2 : World} {l : List UInt8} {e : Ending} (hs : Stp (fun _ => False) w w1) (h : NewR w1 l e w2) : NewR w l e w2 := by
  obtain ⟨v, rfl, hr, hx, hs2⟩ := h
  refine ⟨v, rfl, hr.weak (by decide) (fun k hk h => by have := hs.size; omega), fun hp => ?_, hs.trans hs2⟩
  obtain ⟨g, c, e, h1, h2⟩ := hx hp
  exact ⟨g, c, e, by have := hs.size; omega, h2⟩

set_option maxRecDepth 100000 in
set_option maxHeartbeats 4000000 in
theorem of_any (cv : Array Value) (p r : Int) (a : Bool) (y u : Int) (w : World) (hv : IsVd cv p r) (ht : TabP w) :
    Calls Tryd.prog 13 #[.agg cv, .agg #[.bool a, .int .i64 y, .int .i64 u]] w (NewR w (ofS p r a y)) := by
  have HV := Lib.hid hv
  obtain ⟨hs, h1, h3⟩ := hv
  obtain ⟨R, hR⟩ : ∃ R, R = NewR w (ofS p r a y) := ⟨_, rfl⟩
  rw [← hR]
  have HR := Lib.hid hR
  clear hR
  have hb : ((w.alloc (.cells cv 28)).alloc (.cells #[.bool a, .int .i64 y, .int .i64 u] 30)).heap[w.heap.size]? = some (.cells cv 28 (0, 0)) := ((Stp.refl (fun _ => False) _).alloc _).blk (heap_alloc_new w _) id
  have HC := Lib.hid hb
  have HS0 := Lib.hid (((Stp.refl (fun _ => False) w).alloc (.cells cv 28)).alloc (.cells #[.bool a, .int .i64 y, .int .i64 u] 30))
  have HZ := Lib.hid (show (Tryd.prog.info? 28).map (·.size) = some cv.size by rw [hs]; kernel_rfl)
  clear hb
  have HTB := Lib.hid ht
  clear ht
  go_enter Tryd.func13, Tryd.ntmps13
  cases a with
  | true =>
    go_wp2
    rw [HR.out]
    rw [show ofS p r true y = [] by simp [ofS]]
    exact NewR.nil _ _ HS0.out
  | false =>
    by_cases y5 : y = 5
    · have b5 : (y == 5) = true := by simpa using y5
      have HY := Lib.hid y5
      clear y5
      go_wp2
      rw [HR.out]
      rw [show ofS p r false y = [] by simp [ofS, HY.out]]
      exact NewR.nil _ _ HS0.out
    have b5 : (y == 5) = false := by simpa using y5
    have HY := Lib.hid y5
    clear y5
    by_cases p1 : p = 1
    · have q1 : (p == 1) = true := by simpa using p1
      have HP := Lib.hid p1
      clear p1
      go_wp2_with (with_reducible refine stop (N := 15) rfl ?_)
      refine Stop.go ?_
      refine wpList_load_row rfl _ _ rfl w.heap.size rfl _ cv (0, 0) _ HC.out Tryd.underlying28 rfl HZ.out ?_
      go_wp2_with (go_at_call 9; refine stopc ?_)
      refine Stop.go ?_
      refine (alert_any cv p r false y u _ HV.out).mono ?_
      rintro e w1 ⟨rfl, hs1⟩
      have HS1 := Lib.hid (HS0.out.trans hs1)
      clear hs1
      go_wp2_with (go_at_call 19; refine stopc ?_)
      refine Stop.go ?_
      refine (record_any _ _).mono ?_
      rintro e w2 ⟨v2, rfl, hr2, hx2, hs2⟩
      have HN := Lib.hid (NewR.up HS1.out (show NewR w1 (recS (alertS r y)) (.returned v2) w2 from ⟨_, rfl, hr2, hx2, hs2⟩))
      clear hr2 hx2 hs2
      go_wp2
      rw [HR.out]
      rw [show ofS p r false y = recS (alertS r y) by simp [ofS, HY.out, HP.out]]
      exact HN.out
    · have q1 : (p == 1) = false := by simpa using p1
      have HP := Lib.hid p1
      clear p1
      by_cases p2 : p = 2
      · have q2 : (p == 2) = true := by simpa using p2
        have HP2 := Lib.hid p2
        clear p2
        go_wp2_with (go_at_call 11; refine stopc ?_)
        refine Stop.go ?_
        refine (status_any false y u _).mono ?_
        rintro e w1 ⟨rfl, hs1⟩
        have HS1 := Lib.hid (HS0.out.trans hs1)
        clear hs1
        unfold statusS
        by_cases y4 : y = 4
        · rw [if_pos y4]
          go_wp2_with (go_at_call 20; refine stopc ?_)
          refine Stop.go ?_
          refine (page400_any _ (HTB.out.step HS1.out)).mono ?_
          rintro e w2 ⟨v2, rfl, hr2, hx2, hs2⟩
          have HN := Lib.hid (NewR.up HS1.out (show NewR w1 page400 (.returned v2) w2 from ⟨_, rfl, hr2, hx2, hs2⟩))
          have HY4 := Lib.hid y4
          clear hr2 hx2 hs2 y4
          go_wp2
          rw [HR.out]
          rw [show ofS p r false y = page400 by simp [ofS, HY.out, HP.out, HP2.out, HY4.out, statusS, pageS]]
          exact HN.out
        · rw [if_neg y4]
          go_wp2_with (go_at_call 20; refine stopc ?_)
          refine Stop.go ?_
          refine (page403_any _ (HTB.out.step HS1.out)).mono ?_
          rintro e w2 ⟨v2, rfl, hr2, hx2, hs2⟩
          have HN := Lib.hid (NewR.up HS1.out (show NewR w1 page403 (.returned v2) w2 from ⟨_, rfl, hr2, hx2, hs2⟩))
          have HY4 := Lib.hid y4
          clear hr2 hx2 hs2 y4
          go_wp2
          rw [HR.out]
          rw [show ofS p r false y = page403 by simp [ofS, HY.out, HP.out, HP2.out, HY4.out, statusS, pageS]]
          exact HN.out
      · have q2 : (p == 2) = false := by simpa using p2
        have HP2 := Lib.hid p2
        clear p2
        go_wp2
        rw [HR.out]
        rw [show ofS p r false y = [] by simp [ofS, HY.out, HP.out, HP2.out]]
        exact NewR.nil _ _ HS0.out

set_option maxRecDepth 100000 in
set_option maxHeartbeats 4000000 in
theorem ofR_any (cv : Array Value) (p r : Int) (a : Bool) (y u : Int) (w : World) (hv : IsVd cv p r) :
    Calls Tryd.prog 14 #[.agg cv, .agg #[.bool a, .int .i64 y, .int .i64 u]] w (NewR w (ofS p r a y)) := by
  have HV := Lib.hid hv
  obtain ⟨hs, h1, h3⟩ := hv
  obtain ⟨R, hR⟩ : ∃ R, R = NewR w (ofS p r a y) := ⟨_, rfl⟩
  rw [← hR]
  have HR := Lib.hid hR
  clear hR
  have hb : ((w.alloc (.cells cv 28)).alloc (.cells #[.bool a, .int .i64 y, .int .i64 u] 30)).heap[w.heap.size]? = some (.cells cv 28 (0, 0)) := ((Stp.refl (fun _ => False) _).alloc _).blk (heap_alloc_new w _) id
  have HC := Lib.hid hb
  have HS0 := Lib.hid (((Stp.refl (fun _ => False) w).alloc (.cells cv 28)).alloc (.cells #[.bool a, .int .i64 y, .int .i64 u] 30))
  have HZ := Lib.hid (show (Tryd.prog.info? 28).map (·.size) = some cv.size by rw [hs]; kernel_rfl)
  clear hb
  go_enter Tryd.func14, Tryd.ntmps14
  cases a with
  | true =>
    go_wp2
    rw [HR.out]
    rw [show ofS p r true y = [] by simp [ofS]]
    exact NewR.nil _ _ HS0.out
  | false =>
    by_cases y5 : y = 5
    · have b5 : (y == 5) = true := by simpa using y5
      have HY := Lib.hid y5
      clear y5
      go_wp2
      rw [HR.out]
      rw [show ofS p r false y = [] by simp [ofS, HY.out]]
      exact NewR.nil _ _ HS0.out
    have b5 : (y == 5) = false := by simpa using y5
    have HY := Lib.hid y5
    clear y5
    by_cases p1 : p = 1
    · have q1 : (p == 1) = true := by simpa using p1
      have HP := Lib.hid p1
      clear p1
      go_wp2_with (with_reducible refine stop (N := 15) rfl ?_)
      refine Stop.go ?_
      refine wpList_load_row rfl _ _ rfl w.heap.size rfl _ cv (0, 0) _ HC.out Tryd.underlying28 rfl HZ.out ?_
      go_wp2_with (go_at_call 10; refine stopc ?_)
      refine Stop.go ?_
      refine (alertR_any cv p r false y u _ HV.out).mono ?_
      rintro e w1 ⟨rfl, hs1⟩
      have HS1 := Lib.hid (HS0.out.trans hs1)
      clear hs1
      have ew : IntKind.u8.wrap (alertS r y) = ((toU8 (alertS r y)).toNat : Int) := by
        rw [toU8_nat]
        simp [IntKind.wrap, IntKind.signed, IntKind.bits]
      have ho := Own.lit (enc := enc8) (e := 5) (B := w1.heap.size) (W := w1) (recS (alertS r y)) #[.int .u8 21, .int .u8 3, .int .u8 3, .int .u8 0, .int .u8 2, .int .u8 2, .int .u8 ((toU8 (alertS r y)).toNat : Int)] rfl (Nat.le_refl _) (by simp [recS])
      have HN := Lib.hid (NewR.up HS1.out (NewR.of_own ho ((Stp.refl _ _).alloc _)))
      clear ho
      obtain ⟨z, hz⟩ : ∃ z, z = alertS r y := ⟨_, rfl⟩
      rw [← hz] at ew HN ⊢
      have HZZ := Lib.hid hz
      clear hz
      go_wp2
      rw [HR.out]
      rw [show ofS p r false y = recS z by rw [HZZ.out]; simp [ofS, HY.out, HP.out]]
      exact HN.out
    · have q1 : (p == 1) = false := by simpa using p1
      have HP := Lib.hid p1
      clear p1
      by_cases p2 : p = 2
      · have q2 : (p == 2) = true := by simpa using p2
        have HP2 := Lib.hid p2
        clear p2
        go_wp2_with (go_at_call 12; refine stopc ?_)
        refine Stop.go ?_
        refine (statusR_any false y u _).mono ?_
        rintro e w1 ⟨rfl, hs1⟩
        have HS1 := Lib.hid (HS0.out.trans hs1)
        clear hs1
        unfold statusS
        by_cases y4 : y = 4
        · rw [if_pos y4]
          go_wp2_with (go_at_call 21; refine stopc ?_)
          refine Stop.go ?_
          refine (pageR400_any _).mono ?_
          rintro e w2 ⟨v2, rfl, hr2, hx2, hs2⟩
          have HN := Lib.hid (NewR.up HS1.out (show NewR w1 page400 (.returned v2) w2 from ⟨_, rfl, hr2, hx2, hs2⟩))
          have HY4 := Lib.hid y4
          clear hr2 hx2 hs2 y4
          go_wp2
          rw [HR.out]
          rw [show ofS p r false y = page400 by simp [ofS, HY.out, HP.out, HP2.out, HY4.out, statusS, pageS]]
          exact HN.out
        · rw [if_neg y4]
          go_wp2_with (go_at_call 21; refine stopc ?_)
          refine Stop.go ?_
          refine (pageR403_any _).mono ?_
          rintro e w2 ⟨v2, rfl, hr2, hx2, hs2⟩
          have HN := Lib.hid (NewR.up HS1.out (show NewR w1 page403 (.returned v2) w2 from ⟨_, rfl, hr2, hx2, hs2⟩))
          have HY4 := Lib.hid y4
          clear hr2 hx2 hs2 y4
          go_wp2
          rw [HR.out]
          rw [show ofS p r false y = page403 by simp [ofS, HY.out, HP.out, HP2.out, HY4.out, statusS, pageS]]
          exact HN.out
      · have q2 : (p == 2) = false := by simpa using p2
        have HP2 := Lib.hid p2
        clear p2
        go_wp2
        rw [HR.out]
        rw [show ofS p r false y = [] by simp [ofS, HY.out, HP.out, HP2.out]]
        exact NewR.nil _ _ HS0.out
end Go.Proofs.YtkpfkdcfakhmjaaDoor.L
