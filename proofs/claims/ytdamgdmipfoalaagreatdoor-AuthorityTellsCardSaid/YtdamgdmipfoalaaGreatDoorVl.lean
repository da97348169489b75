/- Layer 13: the small case of its laws. -/
import Derived.Test.YtdamgdmipfoalaaGreatDoorVi
import Derived.Test.YtdamgdmipfoalaaGreatDoorFe
set_option linter.unusedVariables false
set_option linter.unusedSimpArgs false
namespace Go.Proofs.YtdamgdmipfoalaaGreatDoor.L
open Go.RowKit Go.Proofs

set_option maxRecDepth 100000 in
set_option maxHeartbeats 8000000 in
theorem small13_any (w : World) (he : EnvP w) : Calls Tryz.prog 5 #[] w (TrueV w) := by
  obtain ⟨R, hR⟩ : ∃ R, R = TrueV w := ⟨_, rfl⟩
  rw [← hR]
  have HR := Lib.hid hR
  have HM := Lib.hid he
  clear hR he
  have HS0 := Lib.hid (Stp.refl (fun _ => False) w)
  go_enter Tryz.func5, Tryz.ntmps5
  go_wp2_with (go_at_call 6; refine stopc ?_)
  refine Stop.go ?_
  refine (hparse_any _ _ (by decide) (HM.out.step HS0.out)).mono ?_
  rintro e w1 ⟨he, hs1⟩
  obtain rfl : e = .returned (.tuple #[.string ⟨#[97, 46, 98]⟩, .int .i64 80, .int .i64 0]) := he.trans (by kernel_rfl)
  have HS1 := Lib.hid (HS0.out.trans hs1)
  clear hs1 he
  go_wp2_with (go_at_call 6; refine stopc ?_)
  refine Stop.go ?_
  refine (hparse_any _ _ (by decide) (HM.out.step HS1.out)).mono ?_
  rintro e w2 ⟨he, hs2⟩
  obtain rfl : e = .returned (.tuple #[.string ⟨#[58, 58, 49]⟩, .int .i64 0, .int .i64 0]) := he.trans (by kernel_rfl)
  have HS2 := Lib.hid (HS1.out.trans hs2)
  clear hs2 he
  go_wp2_with (go_at_call 6; refine stopc ?_)
  refine Stop.go ?_
  refine (hparse_any _ _ (by decide) (HM.out.step HS2.out)).mono ?_
  rintro e w3 ⟨he, hs3⟩
  obtain rfl : e = .returned (.tuple #[.string ⟨#[]⟩, .int .i64 0, .int .i64 10]) := he.trans (by kernel_rfl)
  have HS3 := Lib.hid (HS2.out.trans hs3)
  clear hs3 he
  go_wp2_with (go_at_call 6; refine stopc ?_)
  refine Stop.go ?_
  refine (hparse_any _ _ (by decide) (HM.out.step HS3.out)).mono ?_
  rintro e w4 ⟨he, hs4⟩
  obtain rfl : e = .returned (.tuple #[.string ⟨#[]⟩, .int .i64 0, .int .i64 3]) := he.trans (by kernel_rfl)
  have HS4 := Lib.hid (HS3.out.trans hs4)
  clear hs4 he
  go_wp2_with (go_at_call 6; refine stopc ?_)
  refine Stop.go ?_
  refine (hparse_any _ _ (by decide) (HM.out.step HS4.out)).mono ?_
  rintro e w5 ⟨he, hs5⟩
  obtain rfl : e = .returned (.tuple #[.string ⟨#[]⟩, .int .i64 0, .int .i64 3]) := he.trans (by kernel_rfl)
  have HS5 := Lib.hid (HS4.out.trans hs5)
  clear hs5 he
  go_wp2_with (go_at_call 6; refine stopc ?_)
  refine Stop.go ?_
  refine (hparse_any _ _ (by decide) (HM.out.step HS5.out)).mono ?_
  rintro e w6 ⟨he, hs6⟩
  obtain rfl : e = .returned (.tuple #[.string ⟨#[]⟩, .int .i64 0, .int .i64 8]) := he.trans (by kernel_rfl)
  have HS6 := Lib.hid (HS5.out.trans hs6)
  clear hs6 he
  go_wp2_with (go_at_call 6; refine stopc ?_)
  refine Stop.go ?_
  refine (hparse_any _ _ (by decide) (HM.out.step HS6.out)).mono ?_
  rintro e w7 ⟨he, hs7⟩
  obtain rfl : e = .returned (.tuple #[.string ⟨#[]⟩, .int .i64 0, .int .i64 3]) := he.trans (by kernel_rfl)
  have HS7 := Lib.hid (HS6.out.trans hs7)
  clear hs7 he
  go_wp2_with (go_at_call 8; refine stopc ?_)
  refine Stop.go ?_
  refine (hprint_any _ _ _ (by decide) (by decide) (by decide) (HM.out.step HS7.out)).mono ?_
  rintro e w8 ⟨he, hs8⟩
  obtain rfl : e = .returned (.tuple #[.string ⟨#[91, 58, 58, 49, 93, 58, 52, 52, 51]⟩, .bool true]) := he.trans (by kernel_rfl)
  have HS8 := Lib.hid (HS7.out.trans hs8)
  clear hs8 he
  have hrdF := Rd.litK (P := Tryz.prog) (d := fldK) (M := fun _ => False) (W := w8) (e := 31) (fr := (0, 0)) [(⟨#[104, 111, 115, 116]⟩, ⟨#[122]⟩)] #[.string ⟨#[104, 111, 115, 116]⟩, .string ⟨#[122]⟩] (laid_fld _ _ _) (by decide) (fun h => h)
  have HRDF := Lib.hid hrdF
  clear hrdF
  go_wp2_with (go_at_call 10; refine stopc ?_)
  refine Stop.go ?_
  refine (of_any (fun _ => False) _ [(⟨#[104, 111, 115, 116]⟩, ⟨#[122]⟩)] _ _ _ _ HRDF.out (by decide) (by decide) (by decide) (HM.out.step (HS8.out.alloc _))).mono ?_
  rintro e w9 ⟨he, hs9⟩
  obtain rfl : e = .returned (.tuple #[.string ⟨#[120]⟩, .int .i64 1, .int .i64 0]) := he.trans (by kernel_rfl)
  have HS9 := Lib.hid ((HS8.out.alloc _).trans hs9)
  have HBF := Lib.hid (show w9.heap[w8.heap.size]? = some (.cells #[.string ⟨#[104, 111, 115, 116]⟩, .string ⟨#[122]⟩] 31 (0, 0)) from hs9.blk (heap_alloc_new w8 _) id)
  clear hs9 he
  have kF0 : w9.cell? ⟨w8.heap.size, 0, none⟩ = some (.string ⟨#[104, 111, 115, 116]⟩) := blk_cell (j := 0) HBF.out
  have kF1 : w9.cell? ⟨w8.heap.size, 1, none⟩ = some (.string ⟨#[122]⟩) := blk_cell (j := 1) HBF.out
  have ltF := blk_lt HBF.out
  have hrdG := Rd.litK (P := Tryz.prog) (d := fldK) (M := fun _ => False) (W := w9) (e := 31) (fr := (0, 0)) [(⟨#[104, 111, 115, 116]⟩, ⟨#[122]⟩)] #[.string ⟨#[104, 111, 115, 116]⟩, .string ⟨#[122]⟩] (laid_fld _ _ _) (by decide) (fun h => h)
  have HRDG := Lib.hid hrdG
  clear hrdG
  go_wp2_with (go_at_call 10; refine stopc ?_)
  refine Stop.go ?_
  refine (of_any (fun _ => False) _ [(⟨#[104, 111, 115, 116]⟩, ⟨#[122]⟩)] _ _ _ _ HRDG.out (by decide) (by decide) (by decide) (HM.out.step (HS9.out.alloc _))).mono ?_
  rintro e w10 ⟨he, hs10⟩
  obtain rfl : e = .returned (.tuple #[.string ⟨#[122]⟩, .int .i64 0, .int .i64 0]) := he.trans (by kernel_rfl)
  have HS10 := Lib.hid ((HS9.out.alloc _).trans hs10)
  replace HBF := Lib.hid (hs10.blk (((Stp.refl (fun _ => False) _).alloc _).blk HBF.out id) id)
  have HBG := Lib.hid (show w10.heap[w9.heap.size]? = some (.cells #[.string ⟨#[104, 111, 115, 116]⟩, .string ⟨#[122]⟩] 31 (0, 0)) from hs10.blk (heap_alloc_new w9 _) id)
  clear hs10 he kF0 kF1 ltF
  have kF0 : w10.cell? ⟨w8.heap.size, 0, none⟩ = some (.string ⟨#[104, 111, 115, 116]⟩) := blk_cell (j := 0) HBF.out
  have kF1 : w10.cell? ⟨w8.heap.size, 1, none⟩ = some (.string ⟨#[122]⟩) := blk_cell (j := 1) HBF.out
  have ltF := blk_lt HBF.out
  have kG0 : w10.cell? ⟨w9.heap.size, 0, none⟩ = some (.string ⟨#[104, 111, 115, 116]⟩) := blk_cell (j := 0) HBG.out
  have kG1 : w10.cell? ⟨w9.heap.size, 1, none⟩ = some (.string ⟨#[122]⟩) := blk_cell (j := 1) HBG.out
  have ltG := blk_lt HBG.out
  go_wp2_with (go_at_call 10; refine stopc ?_)
  refine Stop.go ?_
  refine (of_any (fun _ => False) _ [] _ _ _ _ (Rd.nil _ _ _) (by decide) (by decide) (by decide) (HM.out.step HS10.out)).mono ?_
  rintro e w11 ⟨he, hs11⟩
  obtain rfl : e = .returned (.tuple #[.string ⟨#[]⟩, .int .i64 0, .int .i64 8]) := he.trans (by kernel_rfl)
  have HS11 := Lib.hid (HS10.out.trans hs11)
  replace HBF := Lib.hid (hs11.blk HBF.out id)
  replace HBG := Lib.hid (hs11.blk HBG.out id)
  clear hs11 he kF0 kF1 ltF kG0 kG1 ltG
  have kF0 : w11.cell? ⟨w8.heap.size, 0, none⟩ = some (.string ⟨#[104, 111, 115, 116]⟩) := blk_cell (j := 0) HBF.out
  have kF1 : w11.cell? ⟨w8.heap.size, 1, none⟩ = some (.string ⟨#[122]⟩) := blk_cell (j := 1) HBF.out
  have ltF := blk_lt HBF.out
  have kG0 : w11.cell? ⟨w9.heap.size, 0, none⟩ = some (.string ⟨#[104, 111, 115, 116]⟩) := blk_cell (j := 0) HBG.out
  have kG1 : w11.cell? ⟨w9.heap.size, 1, none⟩ = some (.string ⟨#[122]⟩) := blk_cell (j := 1) HBG.out
  have ltG := blk_lt HBG.out
  go_wp2_with (go_at_call 10; refine stopc ?_)
  refine Stop.go ?_
  refine (of_any (fun _ => False) _ [] _ _ _ _ (Rd.nil _ _ _) (by decide) (by decide) (by decide) (HM.out.step HS11.out)).mono ?_
  rintro e w12 ⟨he, hs12⟩
  obtain rfl : e = .returned (.tuple #[.string ⟨#[]⟩, .int .i64 0, .int .i64 11]) := he.trans (by kernel_rfl)
  have HS12 := Lib.hid (HS11.out.trans hs12)
  replace HBF := Lib.hid (hs12.blk HBF.out id)
  replace HBG := Lib.hid (hs12.blk HBG.out id)
  clear hs12 he kF0 kF1 ltF kG0 kG1 ltG
  have kF0 : w12.cell? ⟨w8.heap.size, 0, none⟩ = some (.string ⟨#[104, 111, 115, 116]⟩) := blk_cell (j := 0) HBF.out
  have kF1 : w12.cell? ⟨w8.heap.size, 1, none⟩ = some (.string ⟨#[122]⟩) := blk_cell (j := 1) HBF.out
  have ltF := blk_lt HBF.out
  have kG0 : w12.cell? ⟨w9.heap.size, 0, none⟩ = some (.string ⟨#[104, 111, 115, 116]⟩) := blk_cell (j := 0) HBG.out
  have kG1 : w12.cell? ⟨w9.heap.size, 1, none⟩ = some (.string ⟨#[122]⟩) := blk_cell (j := 1) HBG.out
  have ltG := blk_lt HBG.out
  go_wp2
  rw [HR.out]
  exact ⟨rfl, HS12.out⟩
end Go.Proofs.YtdamgdmipfoalaaGreatDoor.L
