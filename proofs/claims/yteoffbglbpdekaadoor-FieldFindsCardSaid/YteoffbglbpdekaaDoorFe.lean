/- Layer 12: the small case; the laws. -/
import Derived.Test.YteoffbglbpdekaaDoorFd
import Derived.Test.YteoffbglbpdekaaDoorOn
set_option linter.unusedVariables false
set_option linter.unusedSimpArgs false
namespace Go.Proofs.YteoffbglbpdekaaDoor.L
open Go.RowKit Go.Proofs

theorem Rd.litK {P : Program} {α : Type} {d : Kind α} {M : Nat → Prop} {W : World} {e : Nat} {fr : Nat × Nat} (xs : List α) (cs : Array Value) (hk : Laid d M (W.alloc (.cells cs e fr)) xs cs.toList) (hl : xs.length ≤ 9223372036854775807) (hM : ¬ M W.heap.size) :
    Rd d M (W.alloc (.cells cs e fr)) (.slice (some ⟨W.heap.size, 0, none⟩) xs.length xs.length) xs :=
  ⟨_, xs.length, rfl, Nat.le_refl _, by simpa [maxLen] using hl, fun _ => ⟨_, rfl, hM, fun j p hj => by
    obtain ⟨c, hK, hc⟩ := hk.at_ j p hj
    exact ⟨c, hK, fun i u hu => alloc_at _ _ _ _ _ _ (hc i u hu)⟩⟩⟩
theorem laid_fld (M : Nat → Prop) (W : World) (xs : List (ByteArray × ByteArray)) : Laid fldK M W xs (xs.flatMap fun x => [.string x.1, .string x.2]) := by
  induction xs with
  | nil => exact rfl
  | cons x xs ih => exact ⟨[.string x.1, .string x.2], _, rfl, ⟨[.string x.1], [.string x.2], rfl, rfl, rfl⟩, ih⟩
def TrueV (w : World) (e : Ending) (w' : World) : Prop := e = .returned (.bool true) ∧ Stp (fun _ => False) w w'
theorem fparse_v (s : ByteArray) (w : World) (hs : s.size < 4294967281) (hm : MaxL w) (n t : List UInt8) (e : Int) (h : parseF s.data.toList = (n, t, e)) :
    Calls Tryd.prog 20 #[.string s] w fun e' w' => e' = .returned (.tuple #[.agg #[.string (strB n), .string (strB t)], .int .i64 e]) ∧ Stp (fun _ => False) w w' := by
  have := fparse_any s w hs hm
  rw [h] at this
  exact this

set_option maxRecDepth 100000 in
set_option maxHeartbeats 8000000 in
theorem small12_any (w : World) (hm : MaxL w) : Calls Tryd.prog 19 #[] w (TrueV w) := by
  obtain ⟨R, hR⟩ : ∃ R, R = TrueV w := ⟨_, rfl⟩
  rw [← hR]
  have HR := Lib.hid hR
  have HM := Lib.hid hm
  clear hR hm
  have HS0 := Lib.hid (Stp.refl (fun _ => False) w)
  go_enter Tryd.func19, Tryd.ntmps19
  go_wp2_with (go_at_call 20; refine stopc ?_)
  refine Stop.go ?_
  refine (fparse_v _ _ (by decide) (HM.out.step HS0.out) [104, 111, 115, 116] [97, 32, 98] 0 (by kernel_rfl)).mono ?_
  rintro e w1 ⟨he, hs1⟩
  obtain rfl : e = .returned (.tuple #[.agg #[.string ⟨#[104, 111, 115, 116]⟩, .string ⟨#[97, 32, 98]⟩], .int .i64 0]) := he.trans (rfl)
  have HS1 := Lib.hid (HS0.out.trans hs1)
  clear hs1 he
  go_wp2_with (go_at_call 20; refine stopc ?_)
  refine Stop.go ?_
  refine (fparse_v _ _ (by decide) (HM.out.step (HS1.out.alloc _)) [] [] 9 (by kernel_rfl)).mono ?_
  rintro e w2 ⟨he, hs2⟩
  obtain rfl : e = .returned (.tuple #[.agg #[.string ⟨#[]⟩, .string ⟨#[]⟩], .int .i64 9]) := he.trans (rfl)
  have HS2 := Lib.hid ((HS1.out.alloc _).trans hs2)
  have HBF := Lib.hid (show w2.heap[w1.heap.size]? = some (.cells #[.string ⟨#[104, 111, 115, 116]⟩, .string ⟨#[97, 32, 98]⟩] 24 (0, 0)) from hs2.blk (heap_alloc_new w1 _) id)
  clear hs2 he
  have kF0 : w2.cell? ⟨w1.heap.size, 0, none⟩ = some (.string ⟨#[104, 111, 115, 116]⟩) := blk_cell (j := 0) HBF.out
  have kF1 : w2.cell? ⟨w1.heap.size, 1, none⟩ = some (.string ⟨#[97, 32, 98]⟩) := blk_cell (j := 1) HBF.out
  have ltF := blk_lt HBF.out
  go_wp2_with (go_at_call 20; refine stopc ?_)
  refine Stop.go ?_
  refine (fparse_v _ _ (by decide) (HM.out.step (HS2.out.alloc _)) [] [] 9 (by kernel_rfl)).mono ?_
  rintro e w3 ⟨he, hs3⟩
  obtain rfl : e = .returned (.tuple #[.agg #[.string ⟨#[]⟩, .string ⟨#[]⟩], .int .i64 9]) := he.trans (rfl)
  have HS3 := Lib.hid ((HS2.out.alloc _).trans hs3)
  replace HBF := Lib.hid (hs3.blk (((Stp.refl (fun _ => False) _).alloc _).blk HBF.out id) id)
  have HBG := Lib.hid (show w3.heap[w2.heap.size]? = some (.cells #[.string ⟨#[]⟩, .string ⟨#[]⟩] 24 (0, 0)) from hs3.blk (heap_alloc_new w2 _) id)
  clear hs3 he kF0 kF1 ltF
  have kF0 : w3.cell? ⟨w1.heap.size, 0, none⟩ = some (.string ⟨#[104, 111, 115, 116]⟩) := blk_cell (j := 0) HBF.out
  have kF1 : w3.cell? ⟨w1.heap.size, 1, none⟩ = some (.string ⟨#[97, 32, 98]⟩) := blk_cell (j := 1) HBF.out
  have ltF := blk_lt HBF.out
  have kG0 : w3.cell? ⟨w2.heap.size, 0, none⟩ = some (.string ⟨#[]⟩) := blk_cell (j := 0) HBG.out
  have kG1 : w3.cell? ⟨w2.heap.size, 1, none⟩ = some (.string ⟨#[]⟩) := blk_cell (j := 1) HBG.out
  have ltG := blk_lt HBG.out
  go_wp2_with (go_at_call 20; refine stopc ?_)
  refine Stop.go ?_
  refine (fparse_v _ _ (by decide) (HM.out.step (HS3.out.alloc _)) [] [] 3 (by kernel_rfl)).mono ?_
  rintro e w4 ⟨he, hs4⟩
  obtain rfl : e = .returned (.tuple #[.agg #[.string ⟨#[]⟩, .string ⟨#[]⟩], .int .i64 3]) := he.trans (rfl)
  have HS4 := Lib.hid ((HS3.out.alloc _).trans hs4)
  replace HBF := Lib.hid (hs4.blk (((Stp.refl (fun _ => False) _).alloc _).blk HBF.out id) id)
  replace HBG := Lib.hid (hs4.blk (((Stp.refl (fun _ => False) _).alloc _).blk HBG.out id) id)
  have HBH := Lib.hid (show w4.heap[w3.heap.size]? = some (.cells #[.string ⟨#[]⟩, .string ⟨#[]⟩] 24 (0, 0)) from hs4.blk (heap_alloc_new w3 _) id)
  clear hs4 he kF0 kF1 ltF kG0 kG1 ltG
  have kF0 : w4.cell? ⟨w1.heap.size, 0, none⟩ = some (.string ⟨#[104, 111, 115, 116]⟩) := blk_cell (j := 0) HBF.out
  have kF1 : w4.cell? ⟨w1.heap.size, 1, none⟩ = some (.string ⟨#[97, 32, 98]⟩) := blk_cell (j := 1) HBF.out
  have ltF := blk_lt HBF.out
  have kG0 : w4.cell? ⟨w2.heap.size, 0, none⟩ = some (.string ⟨#[]⟩) := blk_cell (j := 0) HBG.out
  have kG1 : w4.cell? ⟨w2.heap.size, 1, none⟩ = some (.string ⟨#[]⟩) := blk_cell (j := 1) HBG.out
  have ltG := blk_lt HBG.out
  have kH0 : w4.cell? ⟨w3.heap.size, 0, none⟩ = some (.string ⟨#[]⟩) := blk_cell (j := 0) HBH.out
  have kH1 : w4.cell? ⟨w3.heap.size, 1, none⟩ = some (.string ⟨#[]⟩) := blk_cell (j := 1) HBH.out
  have ltH := blk_lt HBH.out
  go_wp2_with (go_at_call 22; refine stopc ?_)
  refine Stop.go ?_
  refine (fprint_any _ _ _ (by decide) (by decide)).mono ?_
  rintro e w5 ⟨he, hs5⟩
  obtain rfl : e = .returned (.tuple #[.string ⟨#[104, 111, 115, 116, 58, 32, 97, 32, 98]⟩, .bool true]) := he.trans (by kernel_rfl)
  have HS5 := Lib.hid ((HS4.out.alloc _).trans hs5)
  replace HBF := Lib.hid (hs5.blk (((Stp.refl (fun _ => False) _).alloc _).blk HBF.out id) id)
  replace HBG := Lib.hid (hs5.blk (((Stp.refl (fun _ => False) _).alloc _).blk HBG.out id) id)
  replace HBH := Lib.hid (hs5.blk (((Stp.refl (fun _ => False) _).alloc _).blk HBH.out id) id)
  have HBI := Lib.hid (show w5.heap[w4.heap.size]? = some (.cells #[.string ⟨#[]⟩, .string ⟨#[]⟩] 24 (0, 0)) from hs5.blk (heap_alloc_new w4 _) id)
  clear hs5 he kF0 kF1 ltF kG0 kG1 ltG kH0 kH1 ltH
  have kF0 : w5.cell? ⟨w1.heap.size, 0, none⟩ = some (.string ⟨#[104, 111, 115, 116]⟩) := blk_cell (j := 0) HBF.out
  have kF1 : w5.cell? ⟨w1.heap.size, 1, none⟩ = some (.string ⟨#[97, 32, 98]⟩) := blk_cell (j := 1) HBF.out
  have ltF := blk_lt HBF.out
  have kG0 : w5.cell? ⟨w2.heap.size, 0, none⟩ = some (.string ⟨#[]⟩) := blk_cell (j := 0) HBG.out
  have kG1 : w5.cell? ⟨w2.heap.size, 1, none⟩ = some (.string ⟨#[]⟩) := blk_cell (j := 1) HBG.out
  have ltG := blk_lt HBG.out
  have kH0 : w5.cell? ⟨w3.heap.size, 0, none⟩ = some (.string ⟨#[]⟩) := blk_cell (j := 0) HBH.out
  have kH1 : w5.cell? ⟨w3.heap.size, 1, none⟩ = some (.string ⟨#[]⟩) := blk_cell (j := 1) HBH.out
  have ltH := blk_lt HBH.out
  have kI0 : w5.cell? ⟨w4.heap.size, 0, none⟩ = some (.string ⟨#[]⟩) := blk_cell (j := 0) HBI.out
  have kI1 : w5.cell? ⟨w4.heap.size, 1, none⟩ = some (.string ⟨#[]⟩) := blk_cell (j := 1) HBI.out
  have ltI := blk_lt HBI.out
  go_wp2_with (go_at_call 22; refine stopc ?_)
  refine Stop.go ?_
  refine (fprint_any _ _ _ (by decide) (by decide)).mono ?_
  rintro e w6 ⟨he, hs6⟩
  obtain rfl : e = .returned (.tuple #[.string ⟨#[]⟩, .bool false]) := he.trans (by kernel_rfl)
  have HS6 := Lib.hid (HS5.out.trans hs6)
  replace HBF := Lib.hid (hs6.blk HBF.out id)
  replace HBG := Lib.hid (hs6.blk HBG.out id)
  replace HBH := Lib.hid (hs6.blk HBH.out id)
  replace HBI := Lib.hid (hs6.blk HBI.out id)
  clear hs6 he kF0 kF1 ltF kG0 kG1 ltG kH0 kH1 ltH kI0 kI1 ltI
  have kF0 : w6.cell? ⟨w1.heap.size, 0, none⟩ = some (.string ⟨#[104, 111, 115, 116]⟩) := blk_cell (j := 0) HBF.out
  have kF1 : w6.cell? ⟨w1.heap.size, 1, none⟩ = some (.string ⟨#[97, 32, 98]⟩) := blk_cell (j := 1) HBF.out
  have ltF := blk_lt HBF.out
  have kG0 : w6.cell? ⟨w2.heap.size, 0, none⟩ = some (.string ⟨#[]⟩) := blk_cell (j := 0) HBG.out
  have kG1 : w6.cell? ⟨w2.heap.size, 1, none⟩ = some (.string ⟨#[]⟩) := blk_cell (j := 1) HBG.out
  have ltG := blk_lt HBG.out
  have kH0 : w6.cell? ⟨w3.heap.size, 0, none⟩ = some (.string ⟨#[]⟩) := blk_cell (j := 0) HBH.out
  have kH1 : w6.cell? ⟨w3.heap.size, 1, none⟩ = some (.string ⟨#[]⟩) := blk_cell (j := 1) HBH.out
  have ltH := blk_lt HBH.out
  have kI0 : w6.cell? ⟨w4.heap.size, 0, none⟩ = some (.string ⟨#[]⟩) := blk_cell (j := 0) HBI.out
  have kI1 : w6.cell? ⟨w4.heap.size, 1, none⟩ = some (.string ⟨#[]⟩) := blk_cell (j := 1) HBI.out
  have ltI := blk_lt HBI.out
  have hrd := Rd.litK (P := Tryd.prog) (d := fldK) (M := fun _ => False) (W := w6) (e := 24) (fr := (0, 0)) [(⟨#[97]⟩, ⟨#[49]⟩), (⟨#[98]⟩, ⟨#[]⟩), (⟨#[97]⟩, ⟨#[50]⟩)] #[.string ⟨#[97]⟩, .string ⟨#[49]⟩, .string ⟨#[98]⟩, .string ⟨#[]⟩, .string ⟨#[97]⟩, .string ⟨#[50]⟩] (laid_fld _ _ _) (by decide) (fun h => h)
  have HRD := Lib.hid hrd
  clear hrd
  go_wp2_with (go_at_call 24; refine stopc ?_)
  refine Stop.go ?_
  refine (find_any _ _ _ ⟨#[65]⟩ _ HRD.out (by decide) (by decide)).mono ?_
  rintro e w7 ⟨he, hs7⟩
  obtain rfl : e = .returned (.tuple #[.string ⟨#[49]⟩, .int .i64 2]) := he.trans (by kernel_rfl)
  have HS7 := Lib.hid ((HS6.out.alloc _).trans hs7)
  replace HBF := Lib.hid (hs7.blk (((Stp.refl (fun _ => False) _).alloc _).blk HBF.out id) id)
  replace HBG := Lib.hid (hs7.blk (((Stp.refl (fun _ => False) _).alloc _).blk HBG.out id) id)
  replace HBH := Lib.hid (hs7.blk (((Stp.refl (fun _ => False) _).alloc _).blk HBH.out id) id)
  replace HBI := Lib.hid (hs7.blk (((Stp.refl (fun _ => False) _).alloc _).blk HBI.out id) id)
  have HBL := Lib.hid (show w7.heap[w6.heap.size]? = some (.cells #[.string ⟨#[97]⟩, .string ⟨#[49]⟩, .string ⟨#[98]⟩, .string ⟨#[]⟩, .string ⟨#[97]⟩, .string ⟨#[50]⟩] 24 (0, 0)) from hs7.blk (heap_alloc_new w6 _) id)
  clear hs7 he kF0 kF1 ltF kG0 kG1 ltG kH0 kH1 ltH kI0 kI1 ltI
  have kF0 : w7.cell? ⟨w1.heap.size, 0, none⟩ = some (.string ⟨#[104, 111, 115, 116]⟩) := blk_cell (j := 0) HBF.out
  have kF1 : w7.cell? ⟨w1.heap.size, 1, none⟩ = some (.string ⟨#[97, 32, 98]⟩) := blk_cell (j := 1) HBF.out
  have ltF := blk_lt HBF.out
  have kG0 : w7.cell? ⟨w2.heap.size, 0, none⟩ = some (.string ⟨#[]⟩) := blk_cell (j := 0) HBG.out
  have kG1 : w7.cell? ⟨w2.heap.size, 1, none⟩ = some (.string ⟨#[]⟩) := blk_cell (j := 1) HBG.out
  have ltG := blk_lt HBG.out
  have kH0 : w7.cell? ⟨w3.heap.size, 0, none⟩ = some (.string ⟨#[]⟩) := blk_cell (j := 0) HBH.out
  have kH1 : w7.cell? ⟨w3.heap.size, 1, none⟩ = some (.string ⟨#[]⟩) := blk_cell (j := 1) HBH.out
  have ltH := blk_lt HBH.out
  have kI0 : w7.cell? ⟨w4.heap.size, 0, none⟩ = some (.string ⟨#[]⟩) := blk_cell (j := 0) HBI.out
  have kI1 : w7.cell? ⟨w4.heap.size, 1, none⟩ = some (.string ⟨#[]⟩) := blk_cell (j := 1) HBI.out
  have ltI := blk_lt HBI.out
  have kL0 : w7.cell? ⟨w6.heap.size, 0, none⟩ = some (.string ⟨#[97]⟩) := blk_cell (j := 0) HBL.out
  have kL1 : w7.cell? ⟨w6.heap.size, 1, none⟩ = some (.string ⟨#[49]⟩) := blk_cell (j := 1) HBL.out
  have kL2 : w7.cell? ⟨w6.heap.size, 2, none⟩ = some (.string ⟨#[98]⟩) := blk_cell (j := 2) HBL.out
  have kL3 : w7.cell? ⟨w6.heap.size, 3, none⟩ = some (.string ⟨#[]⟩) := blk_cell (j := 3) HBL.out
  have kL4 : w7.cell? ⟨w6.heap.size, 4, none⟩ = some (.string ⟨#[97]⟩) := blk_cell (j := 4) HBL.out
  have kL5 : w7.cell? ⟨w6.heap.size, 5, none⟩ = some (.string ⟨#[50]⟩) := blk_cell (j := 5) HBL.out
  have ltL := blk_lt HBL.out
  go_wp2_with (go_at_call 24; refine stopc ?_)
  refine Stop.go ?_
  refine (find_any (fun _ => False) _ [] ⟨#[97]⟩ _ (Rd.nil _ _ _) (by decide) (by decide)).mono ?_
  rintro e w8 ⟨he, hs8⟩
  obtain rfl : e = .returned (.tuple #[.string ⟨#[]⟩, .int .i64 0]) := he.trans (by kernel_rfl)
  have HS8 := Lib.hid (HS7.out.trans hs8)
  replace HBF := Lib.hid (hs8.blk HBF.out id)
  replace HBG := Lib.hid (hs8.blk HBG.out id)
  replace HBH := Lib.hid (hs8.blk HBH.out id)
  replace HBI := Lib.hid (hs8.blk HBI.out id)
  replace HBL := Lib.hid (hs8.blk HBL.out id)
  clear hs8 he kF0 kF1 ltF kG0 kG1 ltG kH0 kH1 ltH kI0 kI1 ltI kL0 kL1 kL2 kL3 kL4 kL5 ltL
  have kF0 : w8.cell? ⟨w1.heap.size, 0, none⟩ = some (.string ⟨#[104, 111, 115, 116]⟩) := blk_cell (j := 0) HBF.out
  have kF1 : w8.cell? ⟨w1.heap.size, 1, none⟩ = some (.string ⟨#[97, 32, 98]⟩) := blk_cell (j := 1) HBF.out
  have ltF := blk_lt HBF.out
  have kG0 : w8.cell? ⟨w2.heap.size, 0, none⟩ = some (.string ⟨#[]⟩) := blk_cell (j := 0) HBG.out
  have kG1 : w8.cell? ⟨w2.heap.size, 1, none⟩ = some (.string ⟨#[]⟩) := blk_cell (j := 1) HBG.out
  have ltG := blk_lt HBG.out
  have kH0 : w8.cell? ⟨w3.heap.size, 0, none⟩ = some (.string ⟨#[]⟩) := blk_cell (j := 0) HBH.out
  have kH1 : w8.cell? ⟨w3.heap.size, 1, none⟩ = some (.string ⟨#[]⟩) := blk_cell (j := 1) HBH.out
  have ltH := blk_lt HBH.out
  have kI0 : w8.cell? ⟨w4.heap.size, 0, none⟩ = some (.string ⟨#[]⟩) := blk_cell (j := 0) HBI.out
  have kI1 : w8.cell? ⟨w4.heap.size, 1, none⟩ = some (.string ⟨#[]⟩) := blk_cell (j := 1) HBI.out
  have ltI := blk_lt HBI.out
  have kL0 : w8.cell? ⟨w6.heap.size, 0, none⟩ = some (.string ⟨#[97]⟩) := blk_cell (j := 0) HBL.out
  have kL1 : w8.cell? ⟨w6.heap.size, 1, none⟩ = some (.string ⟨#[49]⟩) := blk_cell (j := 1) HBL.out
  have kL2 : w8.cell? ⟨w6.heap.size, 2, none⟩ = some (.string ⟨#[98]⟩) := blk_cell (j := 2) HBL.out
  have kL3 : w8.cell? ⟨w6.heap.size, 3, none⟩ = some (.string ⟨#[]⟩) := blk_cell (j := 3) HBL.out
  have kL4 : w8.cell? ⟨w6.heap.size, 4, none⟩ = some (.string ⟨#[97]⟩) := blk_cell (j := 4) HBL.out
  have kL5 : w8.cell? ⟨w6.heap.size, 5, none⟩ = some (.string ⟨#[50]⟩) := blk_cell (j := 5) HBL.out
  have ltL := blk_lt HBL.out
  go_wp2
  rw [HR.out]
  exact ⟨rfl, HS8.out⟩
end Go.Proofs.YteoffbglbpdekaaDoor.L
