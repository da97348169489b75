/- Layer 2: single bytes, single runes; all. -/
import Derived.Test.YtdamgdmipfoalaaGreatDoorAq
import Derived.Shelf.GgClosure.StringsIndexFunc
import Derived.Shelf.GgClosure.GivesRunes
import Derived.Test.YtdamgdmipfoalaaGreatDoorShelf
set_option linter.unusedVariables false
set_option linter.unusedSimpArgs false
namespace Go.Proofs.YtdamgdmipfoalaaGreatDoor.L
open Go.RowKit Go.Proofs

theorem ret_i8 {a b : Int} (h : a = b) : Ending.returned (.int .u8 a) = .returned (.int .u8 b) := by rw [h]
theorem ret_b {a b : Bool} (h : a = b) : Ending.returned (.bool a) = .returned (.bool b) := by rw [h]

set_option maxHeartbeats 400000 in
theorem small_any (c : UInt8) (w : World) :
    Calls Tryz.prog 67 #[.int .u8 (c.toNat : Int)] w fun e w' => e = .returned (.int .u8 ((lowB c).toNat : Int)) ∧ w' = w := by
  have hc := c.toNat_lt
  obtain ⟨n, hn⟩ : ∃ n : Int, n = ((lowB c).toNat : Int) := ⟨_, rfl⟩
  rw [← hn]
  rw [lowB_nat] at hn
  by_cases h1 : 65 ≤ c.toNat
  · by_cases h2 : c.toNat ≤ 90
    · rw [if_pos ⟨h1, h2⟩] at hn
      have HN := Lib.hid hn
      clear hn
      go_enter Tryz.func67, Tryz.ntmps67
      go_wp2
      go_ret
      refine ⟨ret_i8 ?_, rfl⟩
      rw [HN.out]
      omega
    · rw [if_neg (by omega)] at hn
      have HN := Lib.hid hn
      clear hn
      go_enter Tryz.func67, Tryz.ntmps67
      go_wp2
      go_ret
      exact ⟨ret_i8 HN.out.symm, rfl⟩
  · rw [if_neg (by omega)] at hn
    have HN := Lib.hid hn
    clear hn
    go_enter Tryz.func67, Tryz.ntmps67
    go_wp2
    go_ret
    exact ⟨ret_i8 HN.out.symm, rfl⟩

theorem digit_any (x : Nat) (w : World) : Calls Tryz.prog 35 #[.int .i32 (x : Int)] w fun e w' => e = .returned (.bool (digR x)) ∧ w' = w := by
  obtain ⟨b, hb⟩ : ∃ b, b = digR x := ⟨_, rfl⟩
  rw [← hb]
  have HB := Lib.hid hb
  clear hb
  by_cases h1 : 48 ≤ x
  · by_cases h2 : x ≤ 57
    · go_enter Tryz.func35, Tryz.ntmps35
      go_wp2
      go_ret
      exact ⟨ret_b (by rw [HB.out]; simp [digR, h1, h2]; omega), rfl⟩
    · go_enter Tryz.func35, Tryz.ntmps35
      go_wp2
      go_ret
      exact ⟨ret_b (by rw [HB.out]; simp [digR, h1, h2]; omega), rfl⟩
  · go_enter Tryz.func35, Tryz.ntmps35
    go_wp2
    go_ret
    exact ⟨ret_b (by rw [HB.out]; simp [digR, h1]), rfl⟩

theorem indexByte_contains (l : List UInt8) (c : UInt8) : decide (0 ≤ Lib.indexByte l c) = l.contains c ∧ -1 ≤ Lib.indexByte l c := by
  induction l with
  | nil => exact ⟨rfl, show (-1 : Int) ≤ -1 by decide⟩
  | cons b l ih =>
    obtain ⟨i1, i2⟩ := ih
    unfold Lib.indexByte
    rw [List.contains_cons]
    by_cases h : b = c
    · subst h
      simp
    · have e : (b == c) = false := by simpa using h
      have e2 : (c == b) = false := by simpa using fun x => h x.symm
      rw [e, e2, if_neg (by decide), Bool.false_or, ← i1]
      by_cases h1 : Lib.indexByte l c = -1
      · rw [h1]
        decide
      · have e3 : (Lib.indexByte l c == -1) = false := by simpa using h1
        rw [e3, if_neg (by decide)]
        refine ⟨?_, by omega⟩
        rw [show decide (0 ≤ Lib.indexByte l c + 1) = true by simp; omega, show decide (0 ≤ Lib.indexByte l c) = true by simp; omega]

theorem tok_cases (x : Nat) : (97 ≤ x ∧ x ≤ 122) ∨ (65 ≤ x ∧ x ≤ 90) ∨ (48 ≤ x ∧ x ≤ 57) ∨ x < 48 ∨ (58 ≤ x ∧ x < 65) ∨ (91 ≤ x ∧ x < 97) ∨ (123 ≤ x ∧ x < 128) ∨ 128 ≤ x := by omega
/-- A function value that tells of runes. -/
abbrev Tells (g : Nat) (p : Nat → Bool) : Prop := ∀ (W : World) (x : Nat), x ≤ 1114111 → Calls Tryz.prog g #[.int .i32 (x : Int)] W fun e w' => e = .returned (.bool (p x)) ∧ w' = W

theorem ba_ne_empty (s : ByteArray) (h : s.size ≠ 0) : s.toList ≠ ([] : List UInt8) := by
  intro e
  rw [ByteArray.toList_eq] at e
  exact h (by rw [← size_list, e]; rfl)
theorem Stp.iterAt {S : Nat → Prop} {w w1 : World} (h : Stp S w w1) {k : Nat} (hk : w.heap.size ≤ k) (s : ByteArray) (pos : Nat) : Stp S w (w1.iterAt k s pos) :=
  ⟨h.os, h.tape, h.output, by rw [Lib.iterAt_size]; exact h.size, fun j hj hS => (Lib.iterAt_other w1 k j s pos (by omega)).trans (h.block j hj hS)⟩
theorem allS_false {p : Nat → Bool} {s : ByteArray} {k : Nat} (hk : k < s.size) (h : p (s[k]).toNat = false) : allS p s.data.toList = false := by
  unfold allS
  rw [all_drop_false (get_list s k hk) h, Bool.false_and]
theorem allS_true {p : Nat → Bool} {s : ByteArray} (h : ∀ k (hk : k < s.size), p (s[k]).toNat = true) (h0 : s.size ≠ 0) : allS p s.data.toList = true := by
  unfold allS
  rw [Bool.and_eq_true, List.all_eq_true]
  refine ⟨fun c hc => ?_, ?_⟩
  · obtain ⟨k, hk, rfl⟩ := List.mem_iff_getElem.1 hc
    rw [size_list] at hk
    exact h k hk
  · cases hl : s.data.toList with
    | nil => exact absurd (by rw [← size_list, hl]; rfl) h0
    | cons => rfl
theorem allS_empty {p : Nat → Bool} {s : ByteArray} (h0 : s.size = 0) : allS p s.data.toList = false := by
  have : s.data.toList = [] := List.eq_nil_of_length_eq_zero (by rw [size_list]; exact h0)
  rw [this]
  rfl

set_option maxRecDepth 100000 in
set_option maxHeartbeats 4000000 in
theorem all_any (g : Nat) (p : Nat → Bool) (s : ByteArray) (w : World) (eg : ∀ args w, (callFunc g args).run Tryz.prog w = .ok (.enter g args) w) (hp : Tells g p) (hh : ∀ r, 128 ≤ r → p r = false) (hs : s.size ≤ 9223372036854775807) :
    Calls Tryz.prog 34 #[.string s, .func (.func g) #[] #[]] w fun e w' => e = .returned (.bool (allS p s.data.toList)) ∧ Stp (fun _ => False) w w' := by
  obtain ⟨b, hb⟩ : ∃ b, b = allS p s.data.toList := ⟨_, rfl⟩
  rw [← hb]
  have HB := Lib.hid hb
  clear hb
  go_enter Tryz.func34, Tryz.ntmps34
  go_wp2
  go_loopg [] s.size (fun gf wx => ∃ pos : Nat, wx.heap[w.heap.size]? = some (.stringIter s pos) ∧ Stp (fun _ => False) w wx ∧ (∀ k (hk : k < s.size), k < pos → p (s[k]).toNat = true) ∧ s.size = pos + gf)
  case atStart => exact ⟨0, World.iter_heap w s 0, (Stp.refl _ w).alloc _, fun k hk h => absurd h (by omega), by omega⟩
  case round =>
    obtain ⟨pos, hit, hst, hall, hfu⟩ := hrel
    have HALL := Lib.hid hall
    have HST := Lib.hid hst
    clear hall hst
    by_cases hps : pos < s.size
    · obtain ⟨g', rfl⟩ : ∃ g', gk = g' + 1 := ⟨gk - 1, by omega⟩
      have hnx : ∀ ty, (Instr.next (.pointer (some ⟨w.heap.size, 0, none⟩)) true ty).run Tryz.prog wr = _ := fun ty => Lib.run_next_any_at wr w.heap.size s pos ty hit hps
      by_cases hlow : (s[pos]).toNat < 128
      · rw [decode_low s pos hps hlow] at hnx
        have hit2 := Lib.iterAt_heap wr w.heap.size s pos (pos + 1) hit
        have HST2 := Lib.hid (HST.out.iterAt (Nat.le_refl _) s (pos + 1))
        obtain ⟨W, hWd⟩ : ∃ W, wr.iterAt w.heap.size s (pos + 1) = W := ⟨_, rfl⟩
        rw [hWd] at hnx hit2 HST2
        obtain ⟨c, hc⟩ : ∃ c, c = s[pos] := ⟨_, rfl⟩
        have cS := hp W (s[pos]).toNat (by omega)
        rw [← hc] at cS hnx hlow
        have HC := Lib.hid hc
        clear hc hp
        cases hsp : p c.toNat
        · rw [hsp] at cS
          have HS := Lib.hid hsp
          clear hsp
          go_wp2_with (go_at_fn g; refine cS.mono ?_; rintro e W' ⟨rfl, rfl⟩)
          go_ret
          exact ⟨ret_b (by rw [HB.out]; exact (allS_false hps (by rw [← HC.out]; exact HS.out)).symm), HST2.out⟩
        · rw [hsp] at cS
          have HS := Lib.hid hsp
          clear hsp
          go_wp2_with (go_at_fn g; refine cS.mono ?_; rintro e W' ⟨rfl, rfl⟩)
          go_roundg g'
          case measure => omega
          case rel =>
            refine ⟨pos + 1, hit2, HST2.out, fun k hk hlt => ?_, by omega⟩
            by_cases e : k = pos
            · subst e
              rw [← HC.out]
              exact HS.out
            · exact HALL.out k hk (by omega)
      · have hit2 := Lib.iterAt_heap wr w.heap.size s pos (pos + (Utf8.decode s pos).2) hit
        have HST2 := Lib.hid (HST.out.iterAt (Nat.le_refl _) s (pos + (Utf8.decode s pos).2))
        have hR := decode_high s pos hps hlow
        have hR2 := Lib.rune_le s pos
        obtain ⟨R, hRd⟩ : ∃ R, (Utf8.decode s pos).1 = R := ⟨_, rfl⟩
        obtain ⟨K, hKd⟩ : ∃ K, (Utf8.decode s pos).2 = K := ⟨_, rfl⟩
        rw [hRd] at hR hR2
        rw [hKd] at hit2 HST2
        rw [hRd, hKd] at hnx
        obtain ⟨W, hWd⟩ : ∃ W, wr.iterAt w.heap.size s (pos + K) = W := ⟨_, rfl⟩
        rw [hWd] at hnx hit2 HST2
        have cS := hp W R hR2
        rw [hh R hR] at cS
        have HF := Lib.hid (allS_false hps (hh (s[pos]).toNat (by omega)))
        clear hp hh hRd hKd hWd
        go_wp2_with (go_at_fn g; refine cS.mono ?_; rintro e W' ⟨rfl, rfl⟩)
        go_ret
        exact ⟨ret_b (by rw [HB.out]; exact HF.out.symm), HST2.out⟩
    · have hnx : ∀ ty, (Instr.next (.pointer (some ⟨w.heap.size, 0, none⟩)) true ty).run Tryz.prog wr = _ := fun ty => Lib.run_next_end_at wr w.heap.size s pos ty hit hps
      by_cases h0 : s.size = 0
      · have e1 : s.toList = ([] : List UInt8) := by
          rw [ByteArray.toList_eq]
          exact List.eq_nil_of_length_eq_zero (by rw [size_list]; exact h0)
        have HF := Lib.hid (allS_empty (p := p) h0)
        clear h0 hp hh
        go_wp2
        go_ret
        exact ⟨ret_b (by rw [HB.out, HF.out] <;> simp [e1]), HST.out⟩
      · have e1 := ba_ne_empty s h0
        have HF := Lib.hid (allS_true (p := p) (fun k hk => HALL.out k hk (by omega)) h0)
        clear h0 hp hh
        go_wp2
        go_ret
        exact ⟨ret_b (by rw [HB.out, HF.out] <;> simp [e1]), HST.out⟩
end Go.Proofs.YtdamgdmipfoalaaGreatDoor.L
