/- Layer 22: a state's page. -/
import Derived.Test.YtkpfkdcfakhmjaaDoorCw
import Derived.Test.YtkpfkdcfakhmjaaDoorQa
import Derived.Test.YtkpfkdcfakhmjaaDoorShelf
import Derived.Lib.SmallJoins
import Derived.Lib.LaidTab
set_option linter.unusedVariables false
set_option linter.unusedSimpArgs false
namespace Go.Proofs.YtkpfkdcfakhmjaaDoor.L
open Go.RowKit Go.Proofs

/-- The library's table of powers. -/
def TabP (w : World) : Prop := Lib.TabIs Tryd.prog w "internal/strconv.uint64pow10" .u64 Lib.pow10Tab
theorem gTab : Tryd.prog.globalNamed "internal/strconv.uint64pow10" = some 1 := by kernel_rfl
theorem TabP.step {w w' : World} (h : TabP w) (hs : Stp (fun _ => False) w w') : TabP w' := Joins.tab_stays gTab h hs.below (Nat.le_refl _)
def page400 : List UInt8 := [72, 84, 84, 80, 47, 49, 46, 49, 32, 52, 48, 48, 32, 66, 97, 100, 32, 82, 101, 113, 117, 101, 115, 116, 13, 10, 67, 111, 110, 116, 101, 110, 116, 45, 76, 101, 110, 103, 116, 104, 58, 32, 48, 13, 10, 67, 111, 110, 110, 101, 99, 116, 105, 111, 110, 58, 32, 99, 108, 111, 115, 101, 13, 10, 13, 10]
def page403 : List UInt8 := [72, 84, 84, 80, 47, 49, 46, 49, 32, 52, 48, 51, 32, 70, 111, 114, 98, 105, 100, 100, 101, 110, 13, 10, 67, 111, 110, 116, 101, 110, 116, 45, 76, 101, 110, 103, 116, 104, 58, 32, 48, 13, 10, 67, 111, 110, 110, 101, 99, 116, 105, 111, 110, 58, 32, 99, 108, 111, 115, 101, 13, 10, 13, 10]
/-- A state's page. -/
def pageS (n : Int) : List UInt8 := if n = 400 then page400 else page403
/-- New bytes. -/
def NewR (w : World) (l : List UInt8) (e : Ending) (w' : World) : Prop := ∃ v, e = .returned v ∧ Rd u8 (fun k => k < w.heap.size) w' v l ∧ (0 < l.length → ∃ g c, v = .slice (some ⟨g, 0, none⟩) l.length c ∧ w.heap.size ≤ g ∧ ∀ j, j < l.length → w'.frozen? ⟨g, j, none⟩ = false) ∧ Stp (fun _ => False) w w'

set_option maxRecDepth 100000 in
set_option maxHeartbeats 4000000 in
theorem page400_any (w : World) (ht : TabP w) : Calls Tryd.prog 20 #[.int .i64 400] w (NewR w page400) := by
  obtain ⟨R, hR⟩ : ∃ R, R = NewR w page400 := ⟨_, rfl⟩
  rw [← hR]
  have HR := Lib.hid hR
  clear hR
  go_enter Tryd.func20, Tryd.ntmps20
  go_wp2_with (go_at_call 31; refine stopc ?_)
  refine Stop.go ?_
  refine (Tryd.strconv_Itoa 400 (by decide) (by decide) w ht).mono ?_
  rw [show Lib.itoa 400 = [52, 48, 48] by kernel_rfl]
  rintro e w1 ⟨rfl, k, os, hw1⟩
  have hs1 : Stp (fun _ => False) w w1 := by
    rw [hw1]
    exact ⟨rfl, rfl, rfl, by simp [Sort.grow], fun k hk _ => by simp [Sort.grow, World.drewN, Array.getElem?_append_left hk]⟩
  clear hw1
  have HS1 := Lib.hid hs1
  clear hs1
  obtain ⟨s1, hs1⟩ : ∃ s, s = ((⟨#[72, 84, 84, 80, 47, 49, 46, 49, 32]⟩ ++ ⟨#[52, 48, 48]⟩ ++ ⟨#[32]⟩ ++ ⟨#[66, 97, 100, 32, 82, 101, 113, 117, 101, 115, 116]⟩) : ByteArray) := ⟨_, rfl⟩
  go_wp2_with (go_at_call 32; refine stopc ?_)
  refine Stop.go ?_
  rw [← hs1]
  have hj : Lib.join (([s1, ⟨#[67, 111, 110, 116, 101, 110, 116, 45, 76, 101, 110, 103, 116, 104, 58, 32, 48]⟩, ⟨#[67, 111, 110, 110, 101, 99, 116, 105, 111, 110, 58, 32, 99, 108, 111, 115, 101]⟩, ⟨#[]⟩, ⟨#[]⟩] : List ByteArray).map (·.data.toList)) (⟨#[13, 10]⟩ : ByteArray).data.toList = page400 := by rw [hs1]; kernel_rfl
  have HJ := Lib.hid hj
  clear hj hs1
  have hb := heap_alloc_new w1 (.cells #[.string s1, .string ⟨#[67, 111, 110, 116, 101, 110, 116, 45, 76, 101, 110, 103, 116, 104, 58, 32, 48]⟩, .string ⟨#[67, 111, 110, 110, 101, 99, 116, 105, 111, 110, 58, 32, 99, 108, 111, 115, 101]⟩, .string ⟨#[]⟩, .string ⟨#[]⟩] 9)
  refine (Tryd.strings_Join w1.heap.size 0 5 [s1, ⟨#[67, 111, 110, 116, 101, 110, 116, 45, 76, 101, 110, 103, 116, 104, 58, 32, 48]⟩, ⟨#[67, 111, 110, 110, 101, 99, 116, 105, 111, 110, 58, 32, 99, 108, 111, 115, 101]⟩, ⟨#[]⟩, ⟨#[]⟩] ⟨#[13, 10]⟩ _ (fun j x hx => ?_) (by simp) (by simp) (by simp) (by rw [HJ.out]; decide)).mono ?_
  · match j, hx with
    | 0, hx => injection hx with hx; subst hx; exact blk_cell (j := 0) hb
    | 1, hx => injection hx with hx; subst hx; exact blk_cell (j := 1) hb
    | 2, hx => injection hx with hx; subst hx; exact blk_cell (j := 2) hb
    | 3, hx => injection hx with hx; subst hx; exact blk_cell (j := 3) hb
    | 4, hx => injection hx with hx; subst hx; exact blk_cell (j := 4) hb
  rw [HJ.out]
  rintro e w2 ⟨rfl, hb2⟩
  have HS2 := Lib.hid ((HS1.out.alloc _).trans (Stp.of_below hb2))
  clear hb2 hb HS1 HJ
  go_wp2_with (with_reducible refine stop (N := 16) rfl ?_)
  refine Stop.go ?_
  refine wp_bytesOf rfl 9 34 5 _ rfl Tryd.underlying9 Tryd.underlying34 Tryd.underlying5 (s := ⟨page400.toArray⟩) rfl (by decide) ?_
  rintro v w3 hr hs3 - ⟨c, hv, hc⟩ hf
  have HR3 := Lib.hid hr
  have HV3 := Lib.hid hv
  have HF3 := Lib.hid hf
  have HS3 := Lib.hid (HS2.out.trans hs3)
  clear hr hv hf hs3
  go_wp2
  rw [HR.out]
  exact ⟨_, rfl, HR3.out.weak (by decide) (fun k hk h => by have := HS2.out.size; omega), fun _ => ⟨w2.heap.size, c, HV3.out, HS2.out.size, HF3.out⟩, HS3.out⟩

set_option maxRecDepth 100000 in
set_option maxHeartbeats 4000000 in
theorem page403_any (w : World) (ht : TabP w) : Calls Tryd.prog 20 #[.int .i64 403] w (NewR w page403) := by
  obtain ⟨R, hR⟩ : ∃ R, R = NewR w page403 := ⟨_, rfl⟩
  rw [← hR]
  have HR := Lib.hid hR
  clear hR
  go_enter Tryd.func20, Tryd.ntmps20
  go_wp2_with (go_at_call 31; refine stopc ?_)
  refine Stop.go ?_
  refine (Tryd.strconv_Itoa 403 (by decide) (by decide) w ht).mono ?_
  rw [show Lib.itoa 403 = [52, 48, 51] by kernel_rfl]
  rintro e w1 ⟨rfl, k, os, hw1⟩
  have hs1 : Stp (fun _ => False) w w1 := by
    rw [hw1]
    exact ⟨rfl, rfl, rfl, by simp [Sort.grow], fun k hk _ => by simp [Sort.grow, World.drewN, Array.getElem?_append_left hk]⟩
  clear hw1
  have HS1 := Lib.hid hs1
  clear hs1
  obtain ⟨s1, hs1⟩ : ∃ s, s = ((⟨#[72, 84, 84, 80, 47, 49, 46, 49, 32]⟩ ++ ⟨#[52, 48, 51]⟩ ++ ⟨#[32]⟩ ++ ⟨#[70, 111, 114, 98, 105, 100, 100, 101, 110]⟩) : ByteArray) := ⟨_, rfl⟩
  go_wp2_with (go_at_call 32; refine stopc ?_)
  refine Stop.go ?_
  rw [← hs1]
  have hj : Lib.join (([s1, ⟨#[67, 111, 110, 116, 101, 110, 116, 45, 76, 101, 110, 103, 116, 104, 58, 32, 48]⟩, ⟨#[67, 111, 110, 110, 101, 99, 116, 105, 111, 110, 58, 32, 99, 108, 111, 115, 101]⟩, ⟨#[]⟩, ⟨#[]⟩] : List ByteArray).map (·.data.toList)) (⟨#[13, 10]⟩ : ByteArray).data.toList = page403 := by rw [hs1]; kernel_rfl
  have HJ := Lib.hid hj
  clear hj hs1
  have hb := heap_alloc_new w1 (.cells #[.string s1, .string ⟨#[67, 111, 110, 116, 101, 110, 116, 45, 76, 101, 110, 103, 116, 104, 58, 32, 48]⟩, .string ⟨#[67, 111, 110, 110, 101, 99, 116, 105, 111, 110, 58, 32, 99, 108, 111, 115, 101]⟩, .string ⟨#[]⟩, .string ⟨#[]⟩] 9)
  refine (Tryd.strings_Join w1.heap.size 0 5 [s1, ⟨#[67, 111, 110, 116, 101, 110, 116, 45, 76, 101, 110, 103, 116, 104, 58, 32, 48]⟩, ⟨#[67, 111, 110, 110, 101, 99, 116, 105, 111, 110, 58, 32, 99, 108, 111, 115, 101]⟩, ⟨#[]⟩, ⟨#[]⟩] ⟨#[13, 10]⟩ _ (fun j x hx => ?_) (by simp) (by simp) (by simp) (by rw [HJ.out]; decide)).mono ?_
  · match j, hx with
    | 0, hx => injection hx with hx; subst hx; exact blk_cell (j := 0) hb
    | 1, hx => injection hx with hx; subst hx; exact blk_cell (j := 1) hb
    | 2, hx => injection hx with hx; subst hx; exact blk_cell (j := 2) hb
    | 3, hx => injection hx with hx; subst hx; exact blk_cell (j := 3) hb
    | 4, hx => injection hx with hx; subst hx; exact blk_cell (j := 4) hb
  rw [HJ.out]
  rintro e w2 ⟨rfl, hb2⟩
  have HS2 := Lib.hid ((HS1.out.alloc _).trans (Stp.of_below hb2))
  clear hb2 hb HS1 HJ
  go_wp2_with (with_reducible refine stop (N := 16) rfl ?_)
  refine Stop.go ?_
  refine wp_bytesOf rfl 9 34 5 _ rfl Tryd.underlying9 Tryd.underlying34 Tryd.underlying5 (s := ⟨page403.toArray⟩) rfl (by decide) ?_
  rintro v w3 hr hs3 - ⟨c, hv, hc⟩ hf
  have HR3 := Lib.hid hr
  have HV3 := Lib.hid hv
  have HF3 := Lib.hid hf
  have HS3 := Lib.hid (HS2.out.trans hs3)
  clear hr hv hf hs3
  go_wp2
  rw [HR.out]
  exact ⟨_, rfl, HR3.out.weak (by decide) (fun k hk h => by have := HS2.out.size; omega), fun _ => ⟨w2.heap.size, c, HV3.out, HS2.out.size, HF3.out⟩, HS3.out⟩
end Go.Proofs.YtkpfkdcfakhmjaaDoor.L
