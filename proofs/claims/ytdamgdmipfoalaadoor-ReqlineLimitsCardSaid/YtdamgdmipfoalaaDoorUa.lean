/- Layer 11: the small case. -/
import Derived.Test.YtdamgdmipfoalaaDoorRz
set_option linter.unusedVariables false
set_option linter.unusedSimpArgs false
namespace Go.Proofs.YtdamgdmipfoalaaDoor.L
open Go.RowKit Go.Proofs

def TrueV (w : World) (e : Ending) (w' : World) : Prop := e = .returned (.bool true) ∧ Stp (fun _ => False) w w'
theorem qparse_v (s : ByteArray) (w : World) (hs : s.size < 4294967281) (hm : MaxL w) (x : Rq) (e : Int) (h : parseRq s.data.toList = (x, e)) :
    Calls Tryd.prog 13 #[.string s] w fun e' w' => e' = .returned (ReqE (x, e)) ∧ Stp (fun _ => False) w w' := by
  have := qparse_any s w hs hm
  rw [h] at this
  exact this

set_option maxRecDepth 100000 in
set_option maxHeartbeats 8000000 in
theorem small11_any (w : World) (hm : MaxL w) : Calls Tryd.prog 12 #[] w (TrueV w) := by
  obtain ⟨R, hR⟩ : ∃ R, R = TrueV w := ⟨_, rfl⟩
  rw [← hR]
  have HR := Lib.hid hR
  have HM := Lib.hid hm
  clear hR hm
  have HS0 := Lib.hid (Stp.refl (fun _ => False) w)
  go_enter Tryd.func12, Tryd.ntmps12
  go_wp2_with (go_at_call 13; refine stopc ?_)
  refine Stop.go ?_
  refine (qparse_v _ _ (by decide) (HM.out.step HS0.out) (⟨[71, 69, 84], [47, 97], 1⟩) 0 (by kernel_rfl)).mono ?_
  rintro e w1 ⟨he, hs1⟩
  obtain rfl : e = .returned (.tuple #[.agg #[.string ⟨#[71, 69, 84]⟩, .string ⟨#[47, 97]⟩, .int .i64 1], .int .i64 0]) := he.trans (rfl)
  have HS1 := Lib.hid (HS0.out.trans hs1)
  clear hs1 he
  go_wp2_with (go_at_call 13; refine stopc ?_)
  refine Stop.go ?_
  refine (qparse_v _ _ (by decide) (HM.out.step (HS1.out.alloc _)) (Rq.none) 3 (by kernel_rfl)).mono ?_
  rintro e w2 ⟨he, hs2⟩
  obtain rfl : e = .returned (.tuple #[.agg #[.string ⟨#[]⟩, .string ⟨#[]⟩, .int .i64 0], .int .i64 3]) := he.trans (rfl)
  have HS2 := Lib.hid ((HS1.out.alloc _).trans hs2)
  have HBR := Lib.hid (show w2.heap[w1.heap.size]? = some (.cells #[.string ⟨#[71, 69, 84]⟩, .string ⟨#[47, 97]⟩, .int .i64 1] 36 (0, 0)) from hs2.blk (heap_alloc_new w1 _) id)
  clear hs2 he
  have kR0 : w2.cell? ⟨w1.heap.size, 0, none⟩ = some (.string ⟨#[71, 69, 84]⟩) := blk_cell (j := 0) HBR.out
  have kR1 : w2.cell? ⟨w1.heap.size, 1, none⟩ = some (.string ⟨#[47, 97]⟩) := blk_cell (j := 1) HBR.out
  have kR2 : w2.cell? ⟨w1.heap.size, 2, none⟩ = some (.int .i64 1) := blk_cell (j := 2) HBR.out
  have ltR := blk_lt HBR.out
  go_wp2_with (go_at_call 13; refine stopc ?_)
  refine Stop.go ?_
  refine (qparse_v _ _ (by decide) (HM.out.step (HS2.out.alloc _)) (Rq.none) 11 (by kernel_rfl)).mono ?_
  rintro e w3 ⟨he, hs3⟩
  obtain rfl : e = .returned (.tuple #[.agg #[.string ⟨#[]⟩, .string ⟨#[]⟩, .int .i64 0], .int .i64 11]) := he.trans (rfl)
  have HS3 := Lib.hid ((HS2.out.alloc _).trans hs3)
  replace HBR := Lib.hid (hs3.blk (((Stp.refl (fun _ => False) _).alloc _).blk HBR.out id) id)
  have HBF := Lib.hid (show w3.heap[w2.heap.size]? = some (.cells #[.string ⟨#[]⟩, .string ⟨#[]⟩, .int .i64 0] 36 (0, 0)) from hs3.blk (heap_alloc_new w2 _) id)
  clear hs3 he kR0 kR1 kR2 ltR
  have kR0 : w3.cell? ⟨w1.heap.size, 0, none⟩ = some (.string ⟨#[71, 69, 84]⟩) := blk_cell (j := 0) HBR.out
  have kR1 : w3.cell? ⟨w1.heap.size, 1, none⟩ = some (.string ⟨#[47, 97]⟩) := blk_cell (j := 1) HBR.out
  have kR2 : w3.cell? ⟨w1.heap.size, 2, none⟩ = some (.int .i64 1) := blk_cell (j := 2) HBR.out
  have ltR := blk_lt HBR.out
  have kF0 : w3.cell? ⟨w2.heap.size, 0, none⟩ = some (.string ⟨#[]⟩) := blk_cell (j := 0) HBF.out
  have kF1 : w3.cell? ⟨w2.heap.size, 1, none⟩ = some (.string ⟨#[]⟩) := blk_cell (j := 1) HBF.out
  have kF2 : w3.cell? ⟨w2.heap.size, 2, none⟩ = some (.int .i64 0) := blk_cell (j := 2) HBF.out
  have ltF := blk_lt HBF.out
  go_wp2_with (go_at_call 13; refine stopc ?_)
  refine Stop.go ?_
  refine (qparse_v _ _ (by decide) (HM.out.step (HS3.out.alloc _)) (Rq.none) 5 (by kernel_rfl)).mono ?_
  rintro e w4 ⟨he, hs4⟩
  obtain rfl : e = .returned (.tuple #[.agg #[.string ⟨#[]⟩, .string ⟨#[]⟩, .int .i64 0], .int .i64 5]) := he.trans (rfl)
  have HS4 := Lib.hid ((HS3.out.alloc _).trans hs4)
  replace HBR := Lib.hid (hs4.blk (((Stp.refl (fun _ => False) _).alloc _).blk HBR.out id) id)
  replace HBF := Lib.hid (hs4.blk (((Stp.refl (fun _ => False) _).alloc _).blk HBF.out id) id)
  have HBG := Lib.hid (show w4.heap[w3.heap.size]? = some (.cells #[.string ⟨#[]⟩, .string ⟨#[]⟩, .int .i64 0] 36 (0, 0)) from hs4.blk (heap_alloc_new w3 _) id)
  clear hs4 he kR0 kR1 kR2 ltR kF0 kF1 kF2 ltF
  have kR0 : w4.cell? ⟨w1.heap.size, 0, none⟩ = some (.string ⟨#[71, 69, 84]⟩) := blk_cell (j := 0) HBR.out
  have kR1 : w4.cell? ⟨w1.heap.size, 1, none⟩ = some (.string ⟨#[47, 97]⟩) := blk_cell (j := 1) HBR.out
  have kR2 : w4.cell? ⟨w1.heap.size, 2, none⟩ = some (.int .i64 1) := blk_cell (j := 2) HBR.out
  have ltR := blk_lt HBR.out
  have kF0 : w4.cell? ⟨w2.heap.size, 0, none⟩ = some (.string ⟨#[]⟩) := blk_cell (j := 0) HBF.out
  have kF1 : w4.cell? ⟨w2.heap.size, 1, none⟩ = some (.string ⟨#[]⟩) := blk_cell (j := 1) HBF.out
  have kF2 : w4.cell? ⟨w2.heap.size, 2, none⟩ = some (.int .i64 0) := blk_cell (j := 2) HBF.out
  have ltF := blk_lt HBF.out
  have kG0 : w4.cell? ⟨w3.heap.size, 0, none⟩ = some (.string ⟨#[]⟩) := blk_cell (j := 0) HBG.out
  have kG1 : w4.cell? ⟨w3.heap.size, 1, none⟩ = some (.string ⟨#[]⟩) := blk_cell (j := 1) HBG.out
  have kG2 : w4.cell? ⟨w3.heap.size, 2, none⟩ = some (.int .i64 0) := blk_cell (j := 2) HBG.out
  have ltG := blk_lt HBG.out
  go_wp2_with (go_at_call 13; refine stopc ?_)
  refine Stop.go ?_
  refine (qparse_v _ _ (by decide) (HM.out.step (HS4.out.alloc _)) (Rq.none) 3 (by kernel_rfl)).mono ?_
  rintro e w5 ⟨he, hs5⟩
  obtain rfl : e = .returned (.tuple #[.agg #[.string ⟨#[]⟩, .string ⟨#[]⟩, .int .i64 0], .int .i64 3]) := he.trans (rfl)
  have HS5 := Lib.hid ((HS4.out.alloc _).trans hs5)
  replace HBR := Lib.hid (hs5.blk (((Stp.refl (fun _ => False) _).alloc _).blk HBR.out id) id)
  replace HBF := Lib.hid (hs5.blk (((Stp.refl (fun _ => False) _).alloc _).blk HBF.out id) id)
  replace HBG := Lib.hid (hs5.blk (((Stp.refl (fun _ => False) _).alloc _).blk HBG.out id) id)
  have HBH := Lib.hid (show w5.heap[w4.heap.size]? = some (.cells #[.string ⟨#[]⟩, .string ⟨#[]⟩, .int .i64 0] 36 (0, 0)) from hs5.blk (heap_alloc_new w4 _) id)
  clear hs5 he kR0 kR1 kR2 ltR kF0 kF1 kF2 ltF kG0 kG1 kG2 ltG
  have kR0 : w5.cell? ⟨w1.heap.size, 0, none⟩ = some (.string ⟨#[71, 69, 84]⟩) := blk_cell (j := 0) HBR.out
  have kR1 : w5.cell? ⟨w1.heap.size, 1, none⟩ = some (.string ⟨#[47, 97]⟩) := blk_cell (j := 1) HBR.out
  have kR2 : w5.cell? ⟨w1.heap.size, 2, none⟩ = some (.int .i64 1) := blk_cell (j := 2) HBR.out
  have ltR := blk_lt HBR.out
  have kF0 : w5.cell? ⟨w2.heap.size, 0, none⟩ = some (.string ⟨#[]⟩) := blk_cell (j := 0) HBF.out
  have kF1 : w5.cell? ⟨w2.heap.size, 1, none⟩ = some (.string ⟨#[]⟩) := blk_cell (j := 1) HBF.out
  have kF2 : w5.cell? ⟨w2.heap.size, 2, none⟩ = some (.int .i64 0) := blk_cell (j := 2) HBF.out
  have ltF := blk_lt HBF.out
  have kG0 : w5.cell? ⟨w3.heap.size, 0, none⟩ = some (.string ⟨#[]⟩) := blk_cell (j := 0) HBG.out
  have kG1 : w5.cell? ⟨w3.heap.size, 1, none⟩ = some (.string ⟨#[]⟩) := blk_cell (j := 1) HBG.out
  have kG2 : w5.cell? ⟨w3.heap.size, 2, none⟩ = some (.int .i64 0) := blk_cell (j := 2) HBG.out
  have ltG := blk_lt HBG.out
  have kH0 : w5.cell? ⟨w4.heap.size, 0, none⟩ = some (.string ⟨#[]⟩) := blk_cell (j := 0) HBH.out
  have kH1 : w5.cell? ⟨w4.heap.size, 1, none⟩ = some (.string ⟨#[]⟩) := blk_cell (j := 1) HBH.out
  have kH2 : w5.cell? ⟨w4.heap.size, 2, none⟩ = some (.int .i64 0) := blk_cell (j := 2) HBH.out
  have ltH := blk_lt HBH.out
  go_wp2_with (go_at_call 22; refine stopc ?_)
  refine Stop.go ?_
  refine (qprint_any _ _ _ _ (by decide) (by decide)).mono ?_
  rintro e w6 ⟨he, hs6⟩
  obtain rfl : e = .returned (.tuple #[.string ⟨#[71, 69, 84, 32, 47, 97, 32, 72, 84, 84, 80, 47, 49, 46, 49]⟩, .bool true]) := he.trans (by kernel_rfl)
  have HS6 := Lib.hid ((HS5.out.alloc _).trans hs6)
  replace HBR := Lib.hid (hs6.blk (((Stp.refl (fun _ => False) _).alloc _).blk HBR.out id) id)
  replace HBF := Lib.hid (hs6.blk (((Stp.refl (fun _ => False) _).alloc _).blk HBF.out id) id)
  replace HBG := Lib.hid (hs6.blk (((Stp.refl (fun _ => False) _).alloc _).blk HBG.out id) id)
  replace HBH := Lib.hid (hs6.blk (((Stp.refl (fun _ => False) _).alloc _).blk HBH.out id) id)
  have HBI := Lib.hid (show w6.heap[w5.heap.size]? = some (.cells #[.string ⟨#[]⟩, .string ⟨#[]⟩, .int .i64 0] 36 (0, 0)) from hs6.blk (heap_alloc_new w5 _) id)
  clear hs6 he kR0 kR1 kR2 ltR kF0 kF1 kF2 ltF kG0 kG1 kG2 ltG kH0 kH1 kH2 ltH
  have kR0 : w6.cell? ⟨w1.heap.size, 0, none⟩ = some (.string ⟨#[71, 69, 84]⟩) := blk_cell (j := 0) HBR.out
  have kR1 : w6.cell? ⟨w1.heap.size, 1, none⟩ = some (.string ⟨#[47, 97]⟩) := blk_cell (j := 1) HBR.out
  have kR2 : w6.cell? ⟨w1.heap.size, 2, none⟩ = some (.int .i64 1) := blk_cell (j := 2) HBR.out
  have ltR := blk_lt HBR.out
  have kF0 : w6.cell? ⟨w2.heap.size, 0, none⟩ = some (.string ⟨#[]⟩) := blk_cell (j := 0) HBF.out
  have kF1 : w6.cell? ⟨w2.heap.size, 1, none⟩ = some (.string ⟨#[]⟩) := blk_cell (j := 1) HBF.out
  have kF2 : w6.cell? ⟨w2.heap.size, 2, none⟩ = some (.int .i64 0) := blk_cell (j := 2) HBF.out
  have ltF := blk_lt HBF.out
  have kG0 : w6.cell? ⟨w3.heap.size, 0, none⟩ = some (.string ⟨#[]⟩) := blk_cell (j := 0) HBG.out
  have kG1 : w6.cell? ⟨w3.heap.size, 1, none⟩ = some (.string ⟨#[]⟩) := blk_cell (j := 1) HBG.out
  have kG2 : w6.cell? ⟨w3.heap.size, 2, none⟩ = some (.int .i64 0) := blk_cell (j := 2) HBG.out
  have ltG := blk_lt HBG.out
  have kH0 : w6.cell? ⟨w4.heap.size, 0, none⟩ = some (.string ⟨#[]⟩) := blk_cell (j := 0) HBH.out
  have kH1 : w6.cell? ⟨w4.heap.size, 1, none⟩ = some (.string ⟨#[]⟩) := blk_cell (j := 1) HBH.out
  have kH2 : w6.cell? ⟨w4.heap.size, 2, none⟩ = some (.int .i64 0) := blk_cell (j := 2) HBH.out
  have ltH := blk_lt HBH.out
  have kI0 : w6.cell? ⟨w5.heap.size, 0, none⟩ = some (.string ⟨#[]⟩) := blk_cell (j := 0) HBI.out
  have kI1 : w6.cell? ⟨w5.heap.size, 1, none⟩ = some (.string ⟨#[]⟩) := blk_cell (j := 1) HBI.out
  have kI2 : w6.cell? ⟨w5.heap.size, 2, none⟩ = some (.int .i64 0) := blk_cell (j := 2) HBI.out
  have ltI := blk_lt HBI.out
  go_wp2_with (go_at_call 21; refine stopc ?_)
  refine Stop.go ?_
  refine (auth_any _ _ (by decide)).mono ?_
  rintro e w7 ⟨he, hs7⟩
  obtain rfl : e = .returned (.tuple #[.string ⟨#[120, 58, 49]⟩, .bool true]) := he.trans (by kernel_rfl)
  have HS7 := Lib.hid (HS6.out.trans hs7)
  replace HBR := Lib.hid (hs7.blk HBR.out id)
  replace HBF := Lib.hid (hs7.blk HBF.out id)
  replace HBG := Lib.hid (hs7.blk HBG.out id)
  replace HBH := Lib.hid (hs7.blk HBH.out id)
  replace HBI := Lib.hid (hs7.blk HBI.out id)
  clear hs7 he kR0 kR1 kR2 ltR kF0 kF1 kF2 ltF kG0 kG1 kG2 ltG kH0 kH1 kH2 ltH kI0 kI1 kI2 ltI
  have kR0 : w7.cell? ⟨w1.heap.size, 0, none⟩ = some (.string ⟨#[71, 69, 84]⟩) := blk_cell (j := 0) HBR.out
  have kR1 : w7.cell? ⟨w1.heap.size, 1, none⟩ = some (.string ⟨#[47, 97]⟩) := blk_cell (j := 1) HBR.out
  have kR2 : w7.cell? ⟨w1.heap.size, 2, none⟩ = some (.int .i64 1) := blk_cell (j := 2) HBR.out
  have ltR := blk_lt HBR.out
  have kF0 : w7.cell? ⟨w2.heap.size, 0, none⟩ = some (.string ⟨#[]⟩) := blk_cell (j := 0) HBF.out
  have kF1 : w7.cell? ⟨w2.heap.size, 1, none⟩ = some (.string ⟨#[]⟩) := blk_cell (j := 1) HBF.out
  have kF2 : w7.cell? ⟨w2.heap.size, 2, none⟩ = some (.int .i64 0) := blk_cell (j := 2) HBF.out
  have ltF := blk_lt HBF.out
  have kG0 : w7.cell? ⟨w3.heap.size, 0, none⟩ = some (.string ⟨#[]⟩) := blk_cell (j := 0) HBG.out
  have kG1 : w7.cell? ⟨w3.heap.size, 1, none⟩ = some (.string ⟨#[]⟩) := blk_cell (j := 1) HBG.out
  have kG2 : w7.cell? ⟨w3.heap.size, 2, none⟩ = some (.int .i64 0) := blk_cell (j := 2) HBG.out
  have ltG := blk_lt HBG.out
  have kH0 : w7.cell? ⟨w4.heap.size, 0, none⟩ = some (.string ⟨#[]⟩) := blk_cell (j := 0) HBH.out
  have kH1 : w7.cell? ⟨w4.heap.size, 1, none⟩ = some (.string ⟨#[]⟩) := blk_cell (j := 1) HBH.out
  have kH2 : w7.cell? ⟨w4.heap.size, 2, none⟩ = some (.int .i64 0) := blk_cell (j := 2) HBH.out
  have ltH := blk_lt HBH.out
  have kI0 : w7.cell? ⟨w5.heap.size, 0, none⟩ = some (.string ⟨#[]⟩) := blk_cell (j := 0) HBI.out
  have kI1 : w7.cell? ⟨w5.heap.size, 1, none⟩ = some (.string ⟨#[]⟩) := blk_cell (j := 1) HBI.out
  have kI2 : w7.cell? ⟨w5.heap.size, 2, none⟩ = some (.int .i64 0) := blk_cell (j := 2) HBI.out
  have ltI := blk_lt HBI.out
  go_wp2_with (go_at_call 21; refine stopc ?_)
  refine Stop.go ?_
  refine (auth_any _ _ (by decide)).mono ?_
  rintro e w8 ⟨he, hs8⟩
  obtain rfl : e = .returned (.tuple #[.string ⟨#[]⟩, .bool false]) := he.trans (by kernel_rfl)
  have HS8 := Lib.hid (HS7.out.trans hs8)
  replace HBR := Lib.hid (hs8.blk HBR.out id)
  replace HBF := Lib.hid (hs8.blk HBF.out id)
  replace HBG := Lib.hid (hs8.blk HBG.out id)
  replace HBH := Lib.hid (hs8.blk HBH.out id)
  replace HBI := Lib.hid (hs8.blk HBI.out id)
  clear hs8 he kR0 kR1 kR2 ltR kF0 kF1 kF2 ltF kG0 kG1 kG2 ltG kH0 kH1 kH2 ltH kI0 kI1 kI2 ltI
  have kR0 : w8.cell? ⟨w1.heap.size, 0, none⟩ = some (.string ⟨#[71, 69, 84]⟩) := blk_cell (j := 0) HBR.out
  have kR1 : w8.cell? ⟨w1.heap.size, 1, none⟩ = some (.string ⟨#[47, 97]⟩) := blk_cell (j := 1) HBR.out
  have kR2 : w8.cell? ⟨w1.heap.size, 2, none⟩ = some (.int .i64 1) := blk_cell (j := 2) HBR.out
  have ltR := blk_lt HBR.out
  have kF0 : w8.cell? ⟨w2.heap.size, 0, none⟩ = some (.string ⟨#[]⟩) := blk_cell (j := 0) HBF.out
  have kF1 : w8.cell? ⟨w2.heap.size, 1, none⟩ = some (.string ⟨#[]⟩) := blk_cell (j := 1) HBF.out
  have kF2 : w8.cell? ⟨w2.heap.size, 2, none⟩ = some (.int .i64 0) := blk_cell (j := 2) HBF.out
  have ltF := blk_lt HBF.out
  have kG0 : w8.cell? ⟨w3.heap.size, 0, none⟩ = some (.string ⟨#[]⟩) := blk_cell (j := 0) HBG.out
  have kG1 : w8.cell? ⟨w3.heap.size, 1, none⟩ = some (.string ⟨#[]⟩) := blk_cell (j := 1) HBG.out
  have kG2 : w8.cell? ⟨w3.heap.size, 2, none⟩ = some (.int .i64 0) := blk_cell (j := 2) HBG.out
  have ltG := blk_lt HBG.out
  have kH0 : w8.cell? ⟨w4.heap.size, 0, none⟩ = some (.string ⟨#[]⟩) := blk_cell (j := 0) HBH.out
  have kH1 : w8.cell? ⟨w4.heap.size, 1, none⟩ = some (.string ⟨#[]⟩) := blk_cell (j := 1) HBH.out
  have kH2 : w8.cell? ⟨w4.heap.size, 2, none⟩ = some (.int .i64 0) := blk_cell (j := 2) HBH.out
  have ltH := blk_lt HBH.out
  have kI0 : w8.cell? ⟨w5.heap.size, 0, none⟩ = some (.string ⟨#[]⟩) := blk_cell (j := 0) HBI.out
  have kI1 : w8.cell? ⟨w5.heap.size, 1, none⟩ = some (.string ⟨#[]⟩) := blk_cell (j := 1) HBI.out
  have kI2 : w8.cell? ⟨w5.heap.size, 2, none⟩ = some (.int .i64 0) := blk_cell (j := 2) HBI.out
  have ltI := blk_lt HBI.out
  go_wp2_with (go_at_call 20; refine stopc ?_)
  refine Stop.go ?_
  refine (form_any _ _ _ _ (by decide)).mono ?_
  rintro e w9 ⟨he, hs9⟩
  obtain rfl : e = .returned (.int .i64 1) := he.trans (by kernel_rfl)
  have HS9 := Lib.hid (HS8.out.trans hs9)
  replace HBR := Lib.hid (hs9.blk HBR.out id)
  replace HBF := Lib.hid (hs9.blk HBF.out id)
  replace HBG := Lib.hid (hs9.blk HBG.out id)
  replace HBH := Lib.hid (hs9.blk HBH.out id)
  replace HBI := Lib.hid (hs9.blk HBI.out id)
  clear hs9 he kR0 kR1 kR2 ltR kF0 kF1 kF2 ltF kG0 kG1 kG2 ltG kH0 kH1 kH2 ltH kI0 kI1 kI2 ltI
  have kR0 : w9.cell? ⟨w1.heap.size, 0, none⟩ = some (.string ⟨#[71, 69, 84]⟩) := blk_cell (j := 0) HBR.out
  have kR1 : w9.cell? ⟨w1.heap.size, 1, none⟩ = some (.string ⟨#[47, 97]⟩) := blk_cell (j := 1) HBR.out
  have kR2 : w9.cell? ⟨w1.heap.size, 2, none⟩ = some (.int .i64 1) := blk_cell (j := 2) HBR.out
  have ltR := blk_lt HBR.out
  have kF0 : w9.cell? ⟨w2.heap.size, 0, none⟩ = some (.string ⟨#[]⟩) := blk_cell (j := 0) HBF.out
  have kF1 : w9.cell? ⟨w2.heap.size, 1, none⟩ = some (.string ⟨#[]⟩) := blk_cell (j := 1) HBF.out
  have kF2 : w9.cell? ⟨w2.heap.size, 2, none⟩ = some (.int .i64 0) := blk_cell (j := 2) HBF.out
  have ltF := blk_lt HBF.out
  have kG0 : w9.cell? ⟨w3.heap.size, 0, none⟩ = some (.string ⟨#[]⟩) := blk_cell (j := 0) HBG.out
  have kG1 : w9.cell? ⟨w3.heap.size, 1, none⟩ = some (.string ⟨#[]⟩) := blk_cell (j := 1) HBG.out
  have kG2 : w9.cell? ⟨w3.heap.size, 2, none⟩ = some (.int .i64 0) := blk_cell (j := 2) HBG.out
  have ltG := blk_lt HBG.out
  have kH0 : w9.cell? ⟨w4.heap.size, 0, none⟩ = some (.string ⟨#[]⟩) := blk_cell (j := 0) HBH.out
  have kH1 : w9.cell? ⟨w4.heap.size, 1, none⟩ = some (.string ⟨#[]⟩) := blk_cell (j := 1) HBH.out
  have kH2 : w9.cell? ⟨w4.heap.size, 2, none⟩ = some (.int .i64 0) := blk_cell (j := 2) HBH.out
  have ltH := blk_lt HBH.out
  have kI0 : w9.cell? ⟨w5.heap.size, 0, none⟩ = some (.string ⟨#[]⟩) := blk_cell (j := 0) HBI.out
  have kI1 : w9.cell? ⟨w5.heap.size, 1, none⟩ = some (.string ⟨#[]⟩) := blk_cell (j := 1) HBI.out
  have kI2 : w9.cell? ⟨w5.heap.size, 2, none⟩ = some (.int .i64 0) := blk_cell (j := 2) HBI.out
  have ltI := blk_lt HBI.out
  go_wp2_with (go_at_call 20; refine stopc ?_)
  refine Stop.go ?_
  refine (form_any _ _ _ _ (by decide)).mono ?_
  rintro e w10 ⟨he, hs10⟩
  obtain rfl : e = .returned (.int .i64 4) := he.trans (by kernel_rfl)
  have HS10 := Lib.hid (HS9.out.trans hs10)
  replace HBR := Lib.hid (hs10.blk HBR.out id)
  replace HBF := Lib.hid (hs10.blk HBF.out id)
  replace HBG := Lib.hid (hs10.blk HBG.out id)
  replace HBH := Lib.hid (hs10.blk HBH.out id)
  replace HBI := Lib.hid (hs10.blk HBI.out id)
  clear hs10 he kR0 kR1 kR2 ltR kF0 kF1 kF2 ltF kG0 kG1 kG2 ltG kH0 kH1 kH2 ltH kI0 kI1 kI2 ltI
  have kR0 : w10.cell? ⟨w1.heap.size, 0, none⟩ = some (.string ⟨#[71, 69, 84]⟩) := blk_cell (j := 0) HBR.out
  have kR1 : w10.cell? ⟨w1.heap.size, 1, none⟩ = some (.string ⟨#[47, 97]⟩) := blk_cell (j := 1) HBR.out
  have kR2 : w10.cell? ⟨w1.heap.size, 2, none⟩ = some (.int .i64 1) := blk_cell (j := 2) HBR.out
  have ltR := blk_lt HBR.out
  have kF0 : w10.cell? ⟨w2.heap.size, 0, none⟩ = some (.string ⟨#[]⟩) := blk_cell (j := 0) HBF.out
  have kF1 : w10.cell? ⟨w2.heap.size, 1, none⟩ = some (.string ⟨#[]⟩) := blk_cell (j := 1) HBF.out
  have kF2 : w10.cell? ⟨w2.heap.size, 2, none⟩ = some (.int .i64 0) := blk_cell (j := 2) HBF.out
  have ltF := blk_lt HBF.out
  have kG0 : w10.cell? ⟨w3.heap.size, 0, none⟩ = some (.string ⟨#[]⟩) := blk_cell (j := 0) HBG.out
  have kG1 : w10.cell? ⟨w3.heap.size, 1, none⟩ = some (.string ⟨#[]⟩) := blk_cell (j := 1) HBG.out
  have kG2 : w10.cell? ⟨w3.heap.size, 2, none⟩ = some (.int .i64 0) := blk_cell (j := 2) HBG.out
  have ltG := blk_lt HBG.out
  have kH0 : w10.cell? ⟨w4.heap.size, 0, none⟩ = some (.string ⟨#[]⟩) := blk_cell (j := 0) HBH.out
  have kH1 : w10.cell? ⟨w4.heap.size, 1, none⟩ = some (.string ⟨#[]⟩) := blk_cell (j := 1) HBH.out
  have kH2 : w10.cell? ⟨w4.heap.size, 2, none⟩ = some (.int .i64 0) := blk_cell (j := 2) HBH.out
  have ltH := blk_lt HBH.out
  have kI0 : w10.cell? ⟨w5.heap.size, 0, none⟩ = some (.string ⟨#[]⟩) := blk_cell (j := 0) HBI.out
  have kI1 : w10.cell? ⟨w5.heap.size, 1, none⟩ = some (.string ⟨#[]⟩) := blk_cell (j := 1) HBI.out
  have kI2 : w10.cell? ⟨w5.heap.size, 2, none⟩ = some (.int .i64 0) := blk_cell (j := 2) HBI.out
  have ltI := blk_lt HBI.out
  go_wp2_with (go_at_call 20; refine stopc ?_)
  refine Stop.go ?_
  refine (form_any _ _ _ _ (by decide)).mono ?_
  rintro e w11 ⟨he, hs11⟩
  obtain rfl : e = .returned (.int .i64 3) := he.trans (by kernel_rfl)
  have HS11 := Lib.hid (HS10.out.trans hs11)
  replace HBR := Lib.hid (hs11.blk HBR.out id)
  replace HBF := Lib.hid (hs11.blk HBF.out id)
  replace HBG := Lib.hid (hs11.blk HBG.out id)
  replace HBH := Lib.hid (hs11.blk HBH.out id)
  replace HBI := Lib.hid (hs11.blk HBI.out id)
  clear hs11 he kR0 kR1 kR2 ltR kF0 kF1 kF2 ltF kG0 kG1 kG2 ltG kH0 kH1 kH2 ltH kI0 kI1 kI2 ltI
  have kR0 : w11.cell? ⟨w1.heap.size, 0, none⟩ = some (.string ⟨#[71, 69, 84]⟩) := blk_cell (j := 0) HBR.out
  have kR1 : w11.cell? ⟨w1.heap.size, 1, none⟩ = some (.string ⟨#[47, 97]⟩) := blk_cell (j := 1) HBR.out
  have kR2 : w11.cell? ⟨w1.heap.size, 2, none⟩ = some (.int .i64 1) := blk_cell (j := 2) HBR.out
  have ltR := blk_lt HBR.out
  have kF0 : w11.cell? ⟨w2.heap.size, 0, none⟩ = some (.string ⟨#[]⟩) := blk_cell (j := 0) HBF.out
  have kF1 : w11.cell? ⟨w2.heap.size, 1, none⟩ = some (.string ⟨#[]⟩) := blk_cell (j := 1) HBF.out
  have kF2 : w11.cell? ⟨w2.heap.size, 2, none⟩ = some (.int .i64 0) := blk_cell (j := 2) HBF.out
  have ltF := blk_lt HBF.out
  have kG0 : w11.cell? ⟨w3.heap.size, 0, none⟩ = some (.string ⟨#[]⟩) := blk_cell (j := 0) HBG.out
  have kG1 : w11.cell? ⟨w3.heap.size, 1, none⟩ = some (.string ⟨#[]⟩) := blk_cell (j := 1) HBG.out
  have kG2 : w11.cell? ⟨w3.heap.size, 2, none⟩ = some (.int .i64 0) := blk_cell (j := 2) HBG.out
  have ltG := blk_lt HBG.out
  have kH0 : w11.cell? ⟨w4.heap.size, 0, none⟩ = some (.string ⟨#[]⟩) := blk_cell (j := 0) HBH.out
  have kH1 : w11.cell? ⟨w4.heap.size, 1, none⟩ = some (.string ⟨#[]⟩) := blk_cell (j := 1) HBH.out
  have kH2 : w11.cell? ⟨w4.heap.size, 2, none⟩ = some (.int .i64 0) := blk_cell (j := 2) HBH.out
  have ltH := blk_lt HBH.out
  have kI0 : w11.cell? ⟨w5.heap.size, 0, none⟩ = some (.string ⟨#[]⟩) := blk_cell (j := 0) HBI.out
  have kI1 : w11.cell? ⟨w5.heap.size, 1, none⟩ = some (.string ⟨#[]⟩) := blk_cell (j := 1) HBI.out
  have kI2 : w11.cell? ⟨w5.heap.size, 2, none⟩ = some (.int .i64 0) := blk_cell (j := 2) HBI.out
  have ltI := blk_lt HBI.out
  go_wp2_with (go_at_call 20; refine stopc ?_)
  refine Stop.go ?_
  refine (form_any _ _ _ _ (by decide)).mono ?_
  rintro e w12 ⟨he, hs12⟩
  obtain rfl : e = .returned (.int .i64 2) := he.trans (by kernel_rfl)
  have HS12 := Lib.hid (HS11.out.trans hs12)
  replace HBR := Lib.hid (hs12.blk HBR.out id)
  replace HBF := Lib.hid (hs12.blk HBF.out id)
  replace HBG := Lib.hid (hs12.blk HBG.out id)
  replace HBH := Lib.hid (hs12.blk HBH.out id)
  replace HBI := Lib.hid (hs12.blk HBI.out id)
  clear hs12 he kR0 kR1 kR2 ltR kF0 kF1 kF2 ltF kG0 kG1 kG2 ltG kH0 kH1 kH2 ltH kI0 kI1 kI2 ltI
  have kR0 : w12.cell? ⟨w1.heap.size, 0, none⟩ = some (.string ⟨#[71, 69, 84]⟩) := blk_cell (j := 0) HBR.out
  have kR1 : w12.cell? ⟨w1.heap.size, 1, none⟩ = some (.string ⟨#[47, 97]⟩) := blk_cell (j := 1) HBR.out
  have kR2 : w12.cell? ⟨w1.heap.size, 2, none⟩ = some (.int .i64 1) := blk_cell (j := 2) HBR.out
  have ltR := blk_lt HBR.out
  have kF0 : w12.cell? ⟨w2.heap.size, 0, none⟩ = some (.string ⟨#[]⟩) := blk_cell (j := 0) HBF.out
  have kF1 : w12.cell? ⟨w2.heap.size, 1, none⟩ = some (.string ⟨#[]⟩) := blk_cell (j := 1) HBF.out
  have kF2 : w12.cell? ⟨w2.heap.size, 2, none⟩ = some (.int .i64 0) := blk_cell (j := 2) HBF.out
  have ltF := blk_lt HBF.out
  have kG0 : w12.cell? ⟨w3.heap.size, 0, none⟩ = some (.string ⟨#[]⟩) := blk_cell (j := 0) HBG.out
  have kG1 : w12.cell? ⟨w3.heap.size, 1, none⟩ = some (.string ⟨#[]⟩) := blk_cell (j := 1) HBG.out
  have kG2 : w12.cell? ⟨w3.heap.size, 2, none⟩ = some (.int .i64 0) := blk_cell (j := 2) HBG.out
  have ltG := blk_lt HBG.out
  have kH0 : w12.cell? ⟨w4.heap.size, 0, none⟩ = some (.string ⟨#[]⟩) := blk_cell (j := 0) HBH.out
  have kH1 : w12.cell? ⟨w4.heap.size, 1, none⟩ = some (.string ⟨#[]⟩) := blk_cell (j := 1) HBH.out
  have kH2 : w12.cell? ⟨w4.heap.size, 2, none⟩ = some (.int .i64 0) := blk_cell (j := 2) HBH.out
  have ltH := blk_lt HBH.out
  have kI0 : w12.cell? ⟨w5.heap.size, 0, none⟩ = some (.string ⟨#[]⟩) := blk_cell (j := 0) HBI.out
  have kI1 : w12.cell? ⟨w5.heap.size, 1, none⟩ = some (.string ⟨#[]⟩) := blk_cell (j := 1) HBI.out
  have kI2 : w12.cell? ⟨w5.heap.size, 2, none⟩ = some (.int .i64 0) := blk_cell (j := 2) HBI.out
  have ltI := blk_lt HBI.out
  go_wp2
  rw [HR.out]
  exact ⟨rfl, HS12.out⟩
end Go.Proofs.YtdamgdmipfoalaaDoor.L
