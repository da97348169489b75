/- Layer 2: single bytes, single runes; all. -/
import Derived.Test.YtgjmaifgkgejgaaGreatDoorAp
import Derived.Shelf.GgClosure.StringsIndexFunc
import Derived.Shelf.GgClosure.GivesRunes
import Derived.Test.YtgjmaifgkgejgaaGreatDoorShelf
import Derived.Test.YtgjmaifgkgejgaaGreatDoorCw
import Derived.Shelf.Strings.SlTrimAscii
set_option linter.unusedVariables false
set_option linter.unusedSimpArgs false
namespace Go.Proofs.YtgjmaifgkgejgaaGreatDoor.L
open Go.RowKit Go.Proofs

theorem ret_i8 {a b : Int} (h : a = b) : Ending.returned (.int .u8 a) = .returned (.int .u8 b) := by rw [h]
theorem ret_b {a b : Bool} (h : a = b) : Ending.returned (.bool a) = .returned (.bool b) := by rw [h]

set_option maxHeartbeats 400000 in
theorem small_any (c : UInt8) (w : World) :
    Calls Tryz.prog 64 #[.int .u8 (c.toNat : Int)] w fun e w' => e = .returned (.int .u8 ((lowB c).toNat : Int)) ∧ w' = w := by
  have hc := c.toNat_lt
  obtain ⟨n, hn⟩ : ∃ n : Int, n = ((lowB c).toNat : Int) := ⟨_, rfl⟩
  rw [← hn]
  rw [lowB_nat] at hn
  by_cases h1 : 65 ≤ c.toNat
  · by_cases h2 : c.toNat ≤ 90
    · rw [if_pos ⟨h1, h2⟩] at hn
      have HN := Lib.hid hn
      clear hn
      go_enter Tryz.func64, Tryz.ntmps64
      go_wp2
      go_ret
      refine ⟨ret_i8 ?_, rfl⟩
      rw [HN.out]
      omega
    · rw [if_neg (by omega)] at hn
      have HN := Lib.hid hn
      clear hn
      go_enter Tryz.func64, Tryz.ntmps64
      go_wp2
      go_ret
      exact ⟨ret_i8 HN.out.symm, rfl⟩
  · rw [if_neg (by omega)] at hn
    have HN := Lib.hid hn
    clear hn
    go_enter Tryz.func64, Tryz.ntmps64
    go_wp2
    go_ret
    exact ⟨ret_i8 HN.out.symm, rfl⟩

theorem digit_any (x : Nat) (w : World) : Calls Tryz.prog 62 #[.int .i32 (x : Int)] w fun e w' => e = .returned (.bool (digR x)) ∧ w' = w := by
  obtain ⟨b, hb⟩ : ∃ b, b = digR x := ⟨_, rfl⟩
  rw [← hb]
  have HB := Lib.hid hb
  clear hb
  by_cases h1 : 48 ≤ x
  · by_cases h2 : x ≤ 57
    · go_enter Tryz.func62, Tryz.ntmps62
      go_wp2
      go_ret
      exact ⟨ret_b (by rw [HB.out]; simp [digR, h1, h2]; omega), rfl⟩
    · go_enter Tryz.func62, Tryz.ntmps62
      go_wp2
      go_ret
      exact ⟨ret_b (by rw [HB.out]; simp [digR, h1, h2]; omega), rfl⟩
  · go_enter Tryz.func62, Tryz.ntmps62
    go_wp2
    go_ret
    exact ⟨ret_b (by rw [HB.out]; simp [digR, h1]), rfl⟩

theorem indexByte_contains (l : List UInt8) (c : UInt8) : decide (0 ≤ Lib.indexByte l c) = l.contains c ∧ -1 ≤ Lib.indexByte l c := by
  induction l with
  | nil => exact ⟨rfl, show (-1 : Int) ≤ -1 by decide⟩
  | cons b l ih =>
    obtain ⟨i1, i2⟩ := ih
    unfold Lib.indexByte
    rw [List.contains_cons]
    by_cases h : b = c
    · subst h
      simp
    · have e : (b == c) = false := by simpa using h
      have e2 : (c == b) = false := by simpa using fun x => h x.symm
      rw [e, e2, if_neg (by decide), Bool.false_or, ← i1]
      by_cases h1 : Lib.indexByte l c = -1
      · rw [h1]
        decide
      · have e3 : (Lib.indexByte l c == -1) = false := by simpa using h1
        rw [e3, if_neg (by decide)]
        refine ⟨?_, by omega⟩
        rw [show decide (0 ≤ Lib.indexByte l c + 1) = true by simp; omega, show decide (0 ≤ Lib.indexByte l c) = true by simp; omega]

theorem tok_cases (x : Nat) : (97 ≤ x ∧ x ≤ 122) ∨ (65 ≤ x ∧ x ≤ 90) ∨ (48 ≤ x ∧ x ≤ 57) ∨ x < 48 ∨ (58 ≤ x ∧ x < 65) ∨ (91 ≤ x ∧ x < 97) ∨ (123 ≤ x ∧ x < 128) ∨ 128 ≤ x := by omega
set_option maxRecDepth 100000 in
set_option maxHeartbeats 4000000 in
theorem tokf_any (x : Nat) (w : World) : Calls Tryz.prog 61 #[.int .i32 (x : Int)] w fun e w' => e = .returned (.bool (tokR x)) ∧ w' = w := by
  obtain ⟨b, hb⟩ : ∃ b, b = tokR x := ⟨_, rfl⟩
  rw [← hb]
  rcases tok_cases x with ⟨h1, h2⟩ | ⟨h1, h2⟩ | ⟨h1, h2⟩ | h1 | ⟨h1, h2⟩ | ⟨h1, h2⟩ | ⟨h1, h2⟩ | h1
  · have HB := Lib.hid (show b = true by rw [hb, tokR, show decide (97 ≤ x) = true by simpa using h1, show decide (x ≤ 122) = true by simpa using h2]; rfl)
    clear hb
    go_enter Tryz.func61, Tryz.ntmps61
    go_wp2
    go_ret
    exact ⟨ret_b HB.out.symm, rfl⟩
  · have HB := Lib.hid (show b = true by rw [hb, tokR, show decide (65 ≤ x) = true by simpa using h1, show decide (x ≤ 90) = true by simpa using h2]; simp)
    clear hb
    have h3 : x < 97 := by omega
    go_enter Tryz.func61, Tryz.ntmps61
    go_wp2
    go_ret
    exact ⟨ret_b HB.out.symm, rfl⟩
  · have hd : digR x = true := by unfold digR; rw [show decide (48 ≤ x) = true by simpa using h1, show decide (x ≤ 57) = true by simpa using h2]; rfl
    have HB := Lib.hid (show b = true by rw [hb, tokR, hd]; simp)
    clear hb
    have h3 : x < 97 := by omega
    have h4 : x < 65 := by omega
    go_enter Tryz.func61, Tryz.ntmps61
    go_wp2_with (go_at_call 62; refine (digit_any _ _).mono ?_; rintro e w' ⟨rfl, rfl⟩)
    go_ret
    exact ⟨ret_b HB.out.symm, rfl⟩
  all_goals
    have hd : digR x = false := by unfold digR; first | (rw [show decide (48 ≤ x) = false by simpa using by omega]; rfl) | (rw [show decide (x ≤ 57) = false by simpa using by omega, Bool.and_false])
  case' inr.inr.inr.inr.inr.inr.inr =>
    have HB := Lib.hid (show b = false by rw [hb]; exact tokR_high x h1)
    clear hb
    go_enter Tryz.func61, Tryz.ntmps61
    go_wp2_with (go_at_call 62; refine (digit_any _ _).mono ?_; rintro e w' ⟨rfl, rfl⟩)
    go_ret
    exact ⟨ret_b (by rw [HB.out]; simp; omega), rfl⟩
  all_goals
    have h128 : x < 128 := by omega
    obtain ⟨k, hk⟩ : ∃ k, k = Lib.indexByte signsL (UInt8.ofNat x) := ⟨_, rfl⟩
    have hk2 := (indexByte_contains signsL (UInt8.ofNat x)).1
    rw [← hk] at hk2
    have n1 : (decide (97 ≤ x) && decide (x ≤ 122)) = false := by simp; omega
    have n2 : (decide (65 ≤ x) && decide (x ≤ 90)) = false := by simp; omega
    have HB := Lib.hid (show b = decide (0 ≤ k) by rw [hb, tokR, n1, n2, hd, hk2, show decide (x < 128) = true by simpa using h128]; simp)
    have HK := Lib.hid hk
    clear hb hk hk2 n1 n2
    go_enter Tryz.func61, Tryz.ntmps61
    go_wp2_with (first
      | (go_at_call 62; refine (digit_any _ _).mono ?_; rintro e w' ⟨rfl, rfl⟩)
      | (go_at_call 63; refine (Tryz.strings_IndexByte _ _ _).mono ?_; rintro e w' ⟨he, rfl⟩; obtain rfl : e = .returned (.int .i64 k) := he.trans (by rw [HK.out]; rfl)))
    all_goals
      go_ret
      exact ⟨ret_b (by rw [HB.out] <;> first | omega | (simp; try omega)), rfl⟩

/-- A function value that tells of runes. -/
abbrev Tells (g : Nat) (p : Nat → Bool) : Prop := ∀ (W : World) (x : Nat), x ≤ 1114111 → Calls Tryz.prog g #[.int .i32 (x : Int)] W fun e w' => e = .returned (.bool (p x)) ∧ w' = W

theorem ba_ne_empty (s : ByteArray) (h : s.size ≠ 0) : s.toList ≠ ([] : List UInt8) := by
  intro e
  rw [ByteArray.toList_eq] at e
  exact h (by rw [← size_list, e]; rfl)
theorem Stp.iterAt {S : Nat → Prop} {w w1 : World} (h : Stp S w w1) {k : Nat} (hk : w.heap.size ≤ k) (s : ByteArray) (pos : Nat) : Stp S w (w1.iterAt k s pos) :=
  ⟨h.os, h.tape, h.output, by rw [Lib.iterAt_size]; exact h.size, fun j hj hS => (Lib.iterAt_other w1 k j s pos (by omega)).trans (h.block j hj hS)⟩
theorem allS_false {p : Nat → Bool} {s : ByteArray} {k : Nat} (hk : k < s.size) (h : p (s[k]).toNat = false) : allS p s.data.toList = false := by
  unfold allS
  rw [all_drop_false (get_list s k hk) h, Bool.false_and]
theorem allS_true {p : Nat → Bool} {s : ByteArray} (h : ∀ k (hk : k < s.size), p (s[k]).toNat = true) (h0 : s.size ≠ 0) : allS p s.data.toList = true := by
  unfold allS
  rw [Bool.and_eq_true, List.all_eq_true]
  refine ⟨fun c hc => ?_, ?_⟩
  · obtain ⟨k, hk, rfl⟩ := List.mem_iff_getElem.1 hc
    rw [size_list] at hk
    exact h k hk
  · cases hl : s.data.toList with
    | nil => exact absurd (by rw [← size_list, hl]; rfl) h0
    | cons => rfl
theorem allS_empty {p : Nat → Bool} {s : ByteArray} (h0 : s.size = 0) : allS p s.data.toList = false := by
  have : s.data.toList = [] := List.eq_nil_of_length_eq_zero (by rw [size_list]; exact h0)
  rw [this]
  rfl

set_option maxRecDepth 100000 in
set_option maxHeartbeats 4000000 in
theorem all_any (g : Nat) (p : Nat → Bool) (s : ByteArray) (w : World) (eg : ∀ args w, (callFunc g args).run Tryz.prog w = .ok (.enter g args) w) (hp : Tells g p) (hh : ∀ r, 128 ≤ r → p r = false) (hs : s.size ≤ 9223372036854775807) :
    Calls Tryz.prog 60 #[.string s, .func (.func g) #[] #[]] w fun e w' => e = .returned (.bool (allS p s.data.toList)) ∧ Stp (fun _ => False) w w' := by
  obtain ⟨b, hb⟩ : ∃ b, b = allS p s.data.toList := ⟨_, rfl⟩
  rw [← hb]
  have HB := Lib.hid hb
  clear hb
  go_enter Tryz.func60, Tryz.ntmps60
  go_wp2
  go_loopg [] s.size (fun gf wx => ∃ pos : Nat, wx.heap[w.heap.size]? = some (.stringIter s pos) ∧ Stp (fun _ => False) w wx ∧ (∀ k (hk : k < s.size), k < pos → p (s[k]).toNat = true) ∧ s.size = pos + gf)
  case atStart => exact ⟨0, World.iter_heap w s 0, (Stp.refl _ w).alloc _, fun k hk h => absurd h (by omega), by omega⟩
  case round =>
    obtain ⟨pos, hit, hst, hall, hfu⟩ := hrel
    have HALL := Lib.hid hall
    have HST := Lib.hid hst
    clear hall hst
    by_cases hps : pos < s.size
    · obtain ⟨g', rfl⟩ : ∃ g', gk = g' + 1 := ⟨gk - 1, by omega⟩
      have hnx : ∀ ty, (Instr.next (.pointer (some ⟨w.heap.size, 0, none⟩)) true ty).run Tryz.prog wr = _ := fun ty => Lib.run_next_any_at wr w.heap.size s pos ty hit hps
      by_cases hlow : (s[pos]).toNat < 128
      · rw [decode_low s pos hps hlow] at hnx
        have hit2 := Lib.iterAt_heap wr w.heap.size s pos (pos + 1) hit
        have HST2 := Lib.hid (HST.out.iterAt (Nat.le_refl _) s (pos + 1))
        obtain ⟨W, hWd⟩ : ∃ W, wr.iterAt w.heap.size s (pos + 1) = W := ⟨_, rfl⟩
        rw [hWd] at hnx hit2 HST2
        obtain ⟨c, hc⟩ : ∃ c, c = s[pos] := ⟨_, rfl⟩
        have cS := hp W (s[pos]).toNat (by omega)
        rw [← hc] at cS hnx hlow
        have HC := Lib.hid hc
        clear hc hp
        cases hsp : p c.toNat
        · rw [hsp] at cS
          have HS := Lib.hid hsp
          clear hsp
          go_wp2_with (go_at_fn g; refine cS.mono ?_; rintro e W' ⟨rfl, rfl⟩)
          go_ret
          exact ⟨ret_b (by rw [HB.out]; exact (allS_false hps (by rw [← HC.out]; exact HS.out)).symm), HST2.out⟩
        · rw [hsp] at cS
          have HS := Lib.hid hsp
          clear hsp
          go_wp2_with (go_at_fn g; refine cS.mono ?_; rintro e W' ⟨rfl, rfl⟩)
          go_roundg g'
          case measure => omega
          case rel =>
            refine ⟨pos + 1, hit2, HST2.out, fun k hk hlt => ?_, by omega⟩
            by_cases e : k = pos
            · subst e
              rw [← HC.out]
              exact HS.out
            · exact HALL.out k hk (by omega)
      · have hit2 := Lib.iterAt_heap wr w.heap.size s pos (pos + (Utf8.decode s pos).2) hit
        have HST2 := Lib.hid (HST.out.iterAt (Nat.le_refl _) s (pos + (Utf8.decode s pos).2))
        have hR := decode_high s pos hps hlow
        have hR2 := Lib.rune_le s pos
        obtain ⟨R, hRd⟩ : ∃ R, (Utf8.decode s pos).1 = R := ⟨_, rfl⟩
        obtain ⟨K, hKd⟩ : ∃ K, (Utf8.decode s pos).2 = K := ⟨_, rfl⟩
        rw [hRd] at hR hR2
        rw [hKd] at hit2 HST2
        rw [hRd, hKd] at hnx
        obtain ⟨W, hWd⟩ : ∃ W, wr.iterAt w.heap.size s (pos + K) = W := ⟨_, rfl⟩
        rw [hWd] at hnx hit2 HST2
        have cS := hp W R hR2
        rw [hh R hR] at cS
        have HF := Lib.hid (allS_false hps (hh (s[pos]).toNat (by omega)))
        clear hp hh hRd hKd hWd
        go_wp2_with (go_at_fn g; refine cS.mono ?_; rintro e W' ⟨rfl, rfl⟩)
        go_ret
        exact ⟨ret_b (by rw [HB.out]; exact HF.out.symm), HST2.out⟩
    · have hnx : ∀ ty, (Instr.next (.pointer (some ⟨w.heap.size, 0, none⟩)) true ty).run Tryz.prog wr = _ := fun ty => Lib.run_next_end_at wr w.heap.size s pos ty hit hps
      by_cases h0 : s.size = 0
      · have e1 : s.toList = ([] : List UInt8) := by
          rw [ByteArray.toList_eq]
          exact List.eq_nil_of_length_eq_zero (by rw [size_list]; exact h0)
        have HF := Lib.hid (allS_empty (p := p) h0)
        clear h0 hp hh
        go_wp2
        go_ret
        exact ⟨ret_b (by rw [HB.out, HF.out] <;> simp [e1]), HST.out⟩
      · have e1 := ba_ne_empty s h0
        have HF := Lib.hid (allS_true (p := p) (fun k hk => HALL.out k hk (by omega)) h0)
        clear h0 hp hh
        go_wp2
        go_ret
        exact ⟨ret_b (by rw [HB.out, HF.out] <;> simp [e1]), HST.out⟩
end Go.Proofs.YtgjmaifgkgejgaaGreatDoor.L

/-! Layer 2: Token, Lower, Trim. -/
namespace Go.Proofs.YtgjmaifgkgejgaaGreatDoor.L
open Go.RowKit Go.Proofs

theorem ret_s {a b : ByteArray} (h : a = b) : Ending.returned (.string a) = .returned (.string b) := by rw [h]

theorem token_any (s : ByteArray) (w : World) (hs : s.size ≤ 9223372036854775807) :
    Calls Tryz.prog 27 #[.string s] w fun e w' => e = .returned (.bool (allS tokR s.data.toList)) ∧ Stp (fun _ => False) w w' := by
  obtain ⟨b, hb⟩ : ∃ b, b = allS tokR s.data.toList := ⟨_, rfl⟩
  have hc := all_any 61 tokR s w (enters_of Tryz.func61 (by kernel_rfl) rfl) (fun W x _ => tokf_any x W) tokR_high hs
  rw [← hb] at hc ⊢
  clear hb
  go_enter Tryz.func27, Tryz.ntmps27
  go_wp2_with (go_at_call 60; refine hc.mono ?_; rintro e w' ⟨rfl, hs1⟩)
  go_ret
  exact ⟨rfl, hs1⟩

theorem trim_any (s : ByteArray) (w : World) (hs : s.size ≤ 9223372036854775807) :
    Calls Tryz.prog 31 #[.string s] w fun e w' => e = .returned (.string (strB (trimS s.data.toList))) ∧ Stp (fun _ => False) w w' := by
  have hc := Any.strings_Trim_laid Tryz.lays160 (by kernel_rfl) s ⟨#[32, 9]⟩ w hs (by decide) (by
    intro j b hj
    match j, hj with
    | 0, hj => simp at hj; subst hj; decide
    | 1, hj => simp at hj; subst hj; decide)
  obtain ⟨R, hR⟩ : ∃ R : ByteArray, R = strB (trimS s.data.toList) := ⟨_, rfl⟩
  rw [← hR]
  have hc' : Calls Tryz.prog 66 #[.string s, .string ⟨#[32, 9]⟩] w fun e w' => e = .returned (.string R) ∧ Below w.heap.size w w' := by rw [hR]; exact hc
  clear hc hR
  go_enter Tryz.func31, Tryz.ntmps31
  go_wp2_with (go_at_call 66; refine hc'.mono ?_; rintro e w' ⟨rfl, hs1⟩)
  go_ret
  exact ⟨rfl, Stp.of_below hs1⟩

/-- A block of bytes, whatever its marks behind them. -/
def BlkB (W : World) (g n : Nat) (l : List UInt8) : Prop := l.length = n ∧ ∃ (cs : Array Value) (fr : Nat × Nat), W.heap[g]? = some (.cells cs 5 fr) ∧ n ≤ cs.size ∧ n ≤ fr.1 ∧ ∀ (j : Nat) (c : UInt8), l[j]? = some c → cs[j]? = some (enc8 c)
theorem BlkB.cell {W : World} {g n : Nat} {l : List UInt8} (h : BlkB W g n l) {j : Nat} {c : UInt8} (hj : l[j]? = some c) : W.cell? ⟨g, j, none⟩ = some (enc8 c) := by
  obtain ⟨_, cs, fr, hb, hn, _, hc⟩ := h
  simp [World.cell?, hb]
  exact hc j c hj
theorem BlkB.free {W : World} {g n : Nat} {l : List UInt8} (h : BlkB W g n l) {j : Nat} (hj : j < n) : W.frozen? ⟨g, j, none⟩ = false := by
  obtain ⟨_, cs, fr, hb, hn, hf, hc⟩ := h
  simp only [World.frozen?, hb]
  simp
  omega
theorem BlkB.set {W : World} {g n : Nat} {l : List UInt8} (h : BlkB W g n l) (j : Nat) (c : UInt8) : BlkB (W.setCell ⟨g, j, none⟩ (enc8 c)) g n (l.set j c) := by
  obtain ⟨hl, cs, fr, hb, hn, hf, hc⟩ := h
  refine ⟨by rw [List.length_set]; exact hl, _, fr, blk_set hb j (enc8 c), by simpa using hn, hf, fun i d hi => ?_⟩
  rw [Array.getElem?_setIfInBounds]
  by_cases e : j = i
  · subst e
    obtain ⟨hlt, he⟩ := List.getElem?_eq_some_iff.1 hi
    rw [List.getElem_set_self] at he
    rw [List.length_set] at hlt
    rw [if_pos rfl, if_pos (by omega), he]
  · rw [if_neg e]
    rw [List.getElem?_set_ne e] at hi
    exact hc i d hi
theorem BlkB.stp {W W' : World} {g n : Nat} {l : List UInt8} {S : Nat → Prop} (h : BlkB W g n l) (hs : Stp S W W') (hS : ¬ S g) : BlkB W' g n l := by
  obtain ⟨hl, cs, fr, hb, rest⟩ := h
  exact ⟨hl, cs, fr, hs.blk hb hS, rest⟩
theorem BlkB.rd {W : World} {g n c : Nat} {l : List UInt8} (h : BlkB W g n l) (hc : n ≤ c) (hm : c ≤ maxLen) (M : Nat → Prop) (hM : ¬ M g) : Rd u8 M W (.slice (some ⟨g, 0, none⟩) n c) l := by
  obtain rfl := h.1
  refine plain_mk hc hm fun hp => ⟨_, rfl, hM, fun j hj => ?_⟩
  have hadd : (⟨g, 0, none⟩ : Addr).add j = ⟨g, j, none⟩ := by unfold Addr.add; split <;> simp_all
  rw [hadd]
  exact h.cell (List.getElem?_eq_getElem hj)
/-- []byte(s): its block. -/
theorem wp_bytesBlk {P : Program} {ops : Array Oper} {rest : List Oper} {o : Oper} {a : Act} {Q : Exit → Act → World → Prop} {W : World} (hg : o.guard = none) (src dst : TypeId) (x : Operand) (hop : o.op = .convert src dst x) {u : TypeDesc}
    (hs : P.underlying src = some u) (hd : P.underlying dst = some (.slice 5)) (he : P.underlying 5 = some (.int .u8)) {s : ByteArray} (hx : a.eval x = .string s) (hl : s.size ≤ 9223372036854775807)
    (h : ∀ W' c, BlkB W' W.heap.size s.size s.data.toList → s.size ≤ c → c ≤ maxLen → Stp (fun _ => False) W W' → W'.heap.size = W.heap.size + 1 → wpList P ops Q rest (a.put o.dst (.slice (some ⟨W.heap.size, 0, none⟩) s.size c)) W') :
    wpList P ops Q (o :: rest) a W := by
  refine wpList_plain hg fun K hK => ?_
  have hrun := Lib.run_convert_string_bytes (P := P) W src dst 5 s hs hd he
  unfold Oper.wp
  simp [execOp, hop, hx, hrun, Result.andThen]
  refine hK _ _ (h _ _ ⟨by simp, _, _, Lib.bytesWorld_at_new W 5 s, ?_, ?_, fun j c hj => ?_⟩ (grownCap_ge _ _ _ _) (grownCap_le_maxLen _ _ _ _ (by simpa [maxLen] using hl)) ⟨rfl, rfl, rfl, by rw [Lib.bytesWorld_size]; omega, fun k hk _ => Lib.bytesWorld_at_old W 5 s k hk⟩ (Lib.bytesWorld_size W 5 s))
  · simp [Lib.bytesCells]
  · simp [Lib.bytesCells]
  · obtain ⟨hlt, rfl⟩ := List.getElem?_eq_some_iff.1 hj
    have : j < s.data.size := by simpa using hlt
    simp [Lib.bytesCells, Array.getElem?_append, this, enc8]
    rw [if_pos (show j < s.size from this), Array.getElem?_eq_getElem this]
    rfl

set_option maxRecDepth 100000 in
set_option maxHeartbeats 4000000 in
theorem lower_any (s : ByteArray) (w : World) (hs : s.size ≤ 9223372036854775807) :
    Calls Tryz.prog 28 #[.string s] w fun e w' => e = .returned (.string (strB (lowS s.data.toList))) ∧ Stp (fun _ => False) w w' := by
  obtain ⟨R, hR⟩ : ∃ R : ByteArray, R = strB (lowS s.data.toList) := ⟨_, rfl⟩
  rw [← hR]
  have HR := Lib.hid hR
  clear hR
  go_enter Tryz.func28, Tryz.ntmps28
  go_wp2_with (with_reducible refine stop (N := 7) rfl ?_)
  refine Stop.go ?_
  refine wp_bytesBlk rfl _ _ _ rfl Tryz.underlying9 Tryz.underlying22 Tryz.underlying5 rfl hs ?_
  intro w1 c hb hc hm hs1 hz
  have HB := Lib.hid hb
  have HS := Lib.hid hs1
  have HZ := Lib.hid hz
  clear hb hs1 hz
  go_wp2
  go_loopg [10] s.size (fun gf i wr => ∃ k : Nat, k + gf = s.size ∧ i = .int .i64 k ∧ BlkB wr w.heap.size s.size (lowS (s.data.toList.take k) ++ s.data.toList.drop k) ∧ Stp (fun k => k = w.heap.size) w1 wr)
  case atStart => exact ⟨0, by omega, rfl, by simpa [lowS] using HB.out, Stp.refl _ _⟩
  case round =>
    obtain ⟨k, hk, rfl, hb, hst⟩ := hrel
    have HB2 := Lib.hid hb
    have HST := Lib.hid hst
    clear hb hst
    by_cases hlt : k < s.size
    · obtain ⟨g', rfl⟩ : ∃ g', gk = g' + 1 := ⟨gk - 1, by omega⟩
      obtain ⟨d, hd⟩ : ∃ d, d = s[k] := ⟨_, rfl⟩
      have hlen : (lowS (s.data.toList.take k)).length = k := by rw [lowS_len, List.length_take, size_list]; omega
      have hat : (lowS (s.data.toList.take k) ++ s.data.toList.drop k)[k]? = some d := by
        rw [List.getElem?_append_right (by omega), hlen, List.getElem?_drop, hd]
        simpa using get_list s k hlt
      have hcell : wr.cell? ⟨w.heap.size, k, none⟩ = some (.int .u8 (d.toNat : Int)) := HB2.out.cell hat
      have hfree : wr.frozen? ⟨w.heap.size, k, none⟩ = false := HB2.out.free hlt
      have HD := Lib.hid hd
      have HL := Lib.hid hlen
      clear hd hlen hat
      go_wp2_with (go_at_call 64; refine (small_any _ _).mono ?_; rintro e w' ⟨rfl, rfl⟩)
      go_roundg g'
      case measure => omega
      case rel =>
        refine ⟨k + 1, by omega, by go_num, ?_, HST.out.setCell (fun _ => rfl) _⟩
        have := HB2.out.set k (lowB d)
        have e : (lowS (s.data.toList.take k) ++ s.data.toList.drop k).set k (lowB d) = lowS (s.data.toList.take (k + 1)) ++ s.data.toList.drop (k + 1) := by
          have hk2 : k < s.data.toList.length := by rw [size_list]; exact hlt
          rw [List.set_append_right _ _ (by rw [HL.out]; exact Nat.le_refl _), HL.out, Nat.sub_self, List.drop_eq_getElem_cons hk2, List.set_cons_zero, List.take_succ_eq_append_getElem hk2, lowS_append, List.append_assoc]
          rw [HD.out]
          rfl
        rw [e] at this
        exact this
    · have hcv : convB wr (.slice (some ⟨w.heap.size, 0, none⟩) s.size c) (lowS s.data.toList) := by
        have := HB2.out.rd hc hm (fun _ => False) (fun h => h)
        rw [List.take_of_length_le (by rw [size_list]; omega), List.drop_of_length_le (by rw [size_list]; omega), List.append_nil] at this
        exact conv_of this
      have hcv' : (convert 22 9 (.slice (some ⟨w.heap.size, 0, none⟩) s.size c)).run Tryz.prog wr = .ok (.string R) wr := by rw [HR.out]; exact hcv
      clear hcv
      go_wp2
      go_ret
      exact ⟨rfl, HS.out.new HST.out (Nat.le_refl _)⟩
end Go.Proofs.YtgjmaifgkgejgaaGreatDoor.L
