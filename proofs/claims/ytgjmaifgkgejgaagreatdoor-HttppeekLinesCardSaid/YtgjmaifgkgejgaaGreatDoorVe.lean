/- A number's text in base 16: strconv.FormatUint. -/
import Derived.Test.YtgjmaifgkgejgaaGreatDoorVa
import Derived.Laws.Bits64b
set_option linter.unusedVariables false
set_option linter.unusedSimpArgs false
namespace Go.Proofs.YtgjmaifgkgejgaaGreatDoor.L
open Go.RowKit Go.Proofs

/-- The one cell of a table of math/bits that is read. -/
def BruP (w : World) : Prop := w.cell? ⟨8, 15, none⟩ = some (.int .u8 4)
theorem BruP.step {w w' : World} (h : BruP w) (hs : Stp (fun _ => False) w w') : BruP w' := hs.cell h id
theorem pow2_16 (w : World) : Calls Tryz.prog 168 #[.int .i64 16] w fun e w' => e = .returned (.bool true) ∧ w' = w := by
  go_enter Tryz.func168, Tryz.ntmps168
  go_wp2
  go_ret
  exact ⟨rfl, rfl⟩
theorem tz64_16 (w : World) (hb : BruP w) : Calls Tryz.prog 175 #[.int .u64 16] w fun e w' => e = .returned (.int .i64 4) ∧ w' = w := by
  have hc : w.cell? ⟨8, 15, none⟩ = some (.int .u8 4) := hb
  have k0 : IntKind.u64.wrap (-16) = 18446744073709551600 := by decide
  have k1 : bits BinOp.and IntKind.u64 16 18446744073709551600 = 16 := by kernel_rfl
  have k2 : IntKind.u64.wrap 4573923408821661840 = 4573923408821661840 := by decide
  go_enter Tryz.func175, Tryz.ntmps175
  go_wp2
  go_ret
  exact ⟨rfl, rfl⟩
theorem tz_16 (w : World) (hb : BruP w) : Calls Tryz.prog 169 #[.int .u64 16] w fun e w' => e = .returned (.int .i64 4) ∧ w' = w := by
  go_enter Tryz.func169, Tryz.ntmps169
  go_wp2_with (go_at_call 175; refine stopc ?_)
  refine Stop.go ?_
  refine (tz64_16 _ hb).mono ?_
  rintro e w1 ⟨rfl, rfl⟩
  go_wp2
  go_ret
  exact ⟨rfl, rfl⟩
def digits36 : ByteArray := ⟨#[48, 49, 50, 51, 52, 53, 54, 55, 56, 57, 97, 98, 99, 100, 101, 102, 103, 104, 105, 106, 107, 108, 109, 110, 111, 112, 113, 114, 115, 116, 117, 118, 119, 120, 121, 122]⟩
theorem digit_all : ∀ d : Fin 16, ((digits36[d.1]?).map (·.toNat)) = some (hxC d.1).toNat := by decide
theorem digit_idx (d : Nat) (hd : d < 16) (k : IntKind) (W : World) : (Instr.index 9 (.string digits36) (.int k (d : Int))).run Tryz.prog W = .ok (.int .u8 ((hxC d).toNat : Int)) W := by
  have h36 : digits36.size = 36 := rfl
  rw [run_index_string W 9 digits36 k (d : Int) Tryz.underlying9, dif_pos (by omega)]
  have h := digit_all ⟨d, hd⟩
  rw [ByteArray.getElem?_lt' _ _ (show d < digits36.size by omega)] at h
  simp only [Option.map_some, Option.some.injEq] at h
  simp only [Int.toNat_natCast]
  rw [h]
theorem len_65 : Tryz.prog.arrayLen 171 = 65 := by kernel_rfl
theorem elem_65 : Tryz.prog.elem 171 = 5 := by kernel_rfl
theorem slice_65 (g q : Nat) (hq : q < 65) (W : World) : (Instr.sliceAt 171 (.pointer (some ⟨g, 0, none⟩)) (some (.int .i64 (q : Int))) none none).run Tryz.prog W = .ok (.slice (some ⟨g, q, none⟩) (65 - q) (65 - q)) W := by
  rw [run_sliceAt_array_l W 171 ⟨g, 0, none⟩ (by rw [len_65, elem_65]; exact Tryz.underlying171) .i64 (q : Int) (by omega) (by rw [len_65]; omega), len_65, elem_65, Tryz.sizeOf5 W, Result.andThen_ok]
  unfold slicedAt
  rw [Int.toNat_natCast, if_neg (by omega), Nat.mul_one]
  by_cases h2 : q = 0
  · rw [h2, addr_z]
  · rw [addr_nz _ _ h2, Nat.zero_add]
theorem set_drop (l : List UInt8) (q : Nat) (c : UInt8) (hq : q < l.length) : (l.set q c).drop q = c :: l.drop (q + 1) := by
  rw [List.drop_eq_getElem_cons (by simpa using hq)]
  simp [List.drop_set]
theorem and15 (m : Nat) (hm : m < 65536) : bits BinOp.and IntKind.u64 (m : Int) 15 = ((m % 16 : Nat) : Int) := by
  have h := bits_and_u64_nat m 15 (by omega) (by omega)
  have e : m &&& 15 = m % 16 := Nat.and_two_pow_sub_one_eq_mod m 4
  rw [e] at h
  exact h

set_option maxRecDepth 100000 in
set_option maxHeartbeats 8000000 in
theorem fmtbits_any (n : Nat) (hn : n < 65536) (w : World) (hb : BruP w) :
    Calls Tryz.prog 151 #[.slice none 0 0, .int .u64 (n : Int), .int .i64 16, .bool false, .bool false] w fun e w' => e = .returned (.tuple #[.slice none 0 0, .string (strB (hxT n))]) ∧ Stp (fun _ => False) w w' := by
  obtain ⟨R, hR⟩ : ∃ R : Ending → World → Prop, R = fun e w' => e = .returned (.tuple #[.slice none 0 0, .string (strB (hxT n))]) ∧ Stp (fun _ => False) w w' := ⟨_, rfl⟩
  rw [← hR]
  have HR := Lib.hid hR
  have HB := Lib.hid hb
  have HN := Lib.hid hn
  clear hR hb hn
  go_enter Tryz.func151, Tryz.ntmps151
  go_wp2_with (go_at_call 168; refine stopc ?_)
  refine Stop.go ?_
  refine (pow2_16 _).mono ?_
  rintro e w1 ⟨rfl, hw1⟩
  have HA : Hid (Arr w.heap.size 171 (zerosL 65) w1) := Lib.hid (by rw [hw1]; exact arr_new w _ _ (zerosL 65) rfl)
  have HS : Hid (Stp (fun _ => False) w w1) := Lib.hid (by rw [hw1]; exact (Stp.refl _ w).alloc _)
  clear hw1
  go_wp2_with (go_at_call 169; refine stopc ?_)
  refine Stop.go ?_
  refine (tz_16 _ (HB.out.step HS.out)).mono ?_
  rintro e w2 ⟨rfl, rfl⟩
  go_wp2
  go_loopg [1, 13] 3 (fun gf u i wx => ∃ (m p : Nat) (l : List UInt8), p = gf + 62 ∧ u = .int .u64 m ∧ i = .int .i64 p ∧ m < 16 ^ (gf + 1) ∧ hxT n = hxT m ++ l.drop p ∧ l.length = 65 ∧ gf ≤ 3 ∧ Arr w.heap.size 171 l wx ∧ Stp (fun _ => False) w wx)
  case atStart => exact ⟨n, 65, zerosL 65, rfl, rfl, rfl, HN.out, by rw [List.drop_eq_nil_of_le (by simp [zerosL]), List.append_nil], by simp [zerosL], Nat.le_refl _, HA.out, HS.out⟩
  case round =>
    obtain ⟨m, p, l, hp, rfl, rfl, hm, ht, hl, hgf, ha, hst⟩ := hrel
    have HT := Lib.hid ht
    have HL := Lib.hid hl
    have HA1 := Lib.hid ha
    have HS1 := Lib.hid hst
    obtain ⟨q, hq⟩ : ∃ q, p = q + 1 := ⟨p - 1, by omega⟩
    have hq65 : q < l.length := by omega
    have hw1 : IntKind.i64.wrap ((p : Int) - 1) = (q : Int) := by rw [IntWalk.i64_in _ (by omega)]; omega
    have hq0 : (0 : Int) ≤ (q : Int) := by omega
    have hq1 : (q : Int) < 65 := by omega
    have hc : wr.cell? ⟨w.heap.size, q, none⟩ = some (enc8 l[q]) := HA1.out.cell q hq65
    have hf : wr.frozen? ⟨w.heap.size, q, none⟩ = false := HA1.out.free q
    have hm4 : m < 65536 := Nat.lt_of_lt_of_le hm (by rw [show 65536 = 16 ^ 4 from rfl]; exact Nat.pow_le_pow_right (by decide) (by omega))
    have HMG := Lib.hid hm
    have HPQ := Lib.hid hq
    have HPG := Lib.hid hp
    clear ht hl ha hst HA HS hm hq hp
    by_cases h16 : 16 ≤ m
    · have hge : decide ((16 : Int) ≤ (m : Int)) = true := decide_eq_true (by omega)
      have hg1 : 1 ≤ gk := by
        by_cases h : gk = 0
        · have := HMG.out
          rw [h] at this
          omega
        · omega
      obtain ⟨d, hd⟩ : ∃ d, d = m % 16 := ⟨_, rfl⟩
      have hd16 : d < 16 := by omega
      have hand : bits BinOp.and IntKind.u64 (m : Int) 15 = (d : Int) := by rw [hd]; exact and15 m hm4
      have hix := fun k W => digit_idx d hd16 k W
      unfold digits36 at hix
      have HD := Lib.hid hd
      have hgg := hgf
      clear hd
      obtain ⟨gk', rfl⟩ : ∃ g, gk = g + 1 := ⟨gk - 1, by omega⟩
      go_wp2
      go_roundg gk'
      case measure => omega
      case rel =>
        refine ⟨m / 16, q, l.set q (hxC d), ?_, by simp, rfl, ?_, ?_, by simp [HL.out], by omega, HA1.out.set_ q (hxC d), HS1.out.setCell (fun h => absurd h (by simp)) _⟩
        · have := HPG.out
          have := HPQ.out
          omega
        · have := HMG.out
          rw [Nat.pow_succ] at this
          omega
        · rw [HT.out, set_drop l q _ hq65, HPQ.out]
          rw [hxT, dif_neg (by omega), HD.out]
          simp
    · have hge : decide ((16 : Int) ≤ (m : Int)) = false := decide_eq_false (by omega)
      have hm16 : m < 16 := by omega
      have hix := fun k W => digit_idx m hm16 k W
      unfold digits36 at hix
      have HTT : Hid (hxT n = (l.set q (hxC m)).drop q) := Lib.hid (by
        rw [HT.out, set_drop l q _ hq65, HPQ.out, hxT, dif_pos hm16]
        rfl)
      go_wp2_with (with_reducible refine stop (N := 100) rfl ?_)
      refine Stop.go ?_
      refine wpl_gen (fun W => Arr w.heap.size 171 (l.set q (hxC m)) W ∧ Stp (fun _ => False) w W) ⟨HA1.out.set_ q (hxC m), HS1.out.setCell (fun h => absurd h (by simp)) _⟩ ?_
      rintro W2 ⟨hA2, hs2⟩
      have HS2 := Lib.hid hs2
      have hll : (l.set q (hxC m)).length = 65 := by simp [HL.out]
      have hsl := fun W => slice_65 w.heap.size q (by omega) W
      have hrd := hA2.rd (M := fun _ => False) id q (65 - q) (65 - q) (by omega) (Nat.le_refl _) (by unfold maxLen; omega)
      rw [List.take_of_length_le (by rw [List.length_drop]; omega), ← HTT.out] at hrd
      have hcv := conv_of hrd
      unfold convB at hcv
      clear hA2 hs2 hrd hll hix
      go_wp2
      rw [HR.out]
      exact ⟨rfl, HS2.out⟩

theorem fmt16_in (n : Nat) (hn : n < 65536) (w : World) (hb : BruP w) :
    Calls Tryz.prog 121 #[.int .u64 (n : Int), .int .i64 16] w fun e w' => e = .returned (.string (strB (hxT n))) ∧ Stp (fun _ => False) w w' := by
  go_enter Tryz.func121, Tryz.ntmps121
  go_wp2_with (go_at_call 151; refine stopc ?_)
  refine Stop.go ?_
  refine (fmtbits_any n hn _ hb).mono ?_
  rintro e w1 ⟨rfl, hs⟩
  have HS := Lib.hid hs
  clear hs
  go_wp2
  go_ret
  exact ⟨rfl, HS.out⟩
theorem fmt16_any (n : Nat) (hn : n < 65536) (w : World) (hb : BruP w) :
    Calls Tryz.prog 79 #[.int .u64 (n : Int), .int .i64 16] w fun e w' => e = .returned (.string (strB (hxT n))) ∧ Stp (fun _ => False) w w' := by
  go_enter Tryz.func79, Tryz.ntmps79
  go_wp2_with (go_at_call 121; refine stopc ?_)
  refine Stop.go ?_
  refine (fmt16_in n hn _ hb).mono ?_
  rintro e w1 ⟨rfl, hs⟩
  have HS := Lib.hid hs
  clear hs
  go_wp2
  go_ret
  exact ⟨rfl, HS.out⟩
end Go.Proofs.YtgjmaifgkgejgaaGreatDoor.L
