/- Layer 2: hexadecimal digits. -/
import Derived.Test.YtdamgdmipfoalaaGreatDoorAt
import Derived.Laws.BitsLemmas
import Derived.Lib.RabinKarpLaws
set_option linter.unusedVariables false
set_option linter.unusedSimpArgs false
namespace Go.Proofs.YtdamgdmipfoalaaGreatDoor.L
open Go.RowKit Go.Proofs

theorem hexB_low (c : UInt8) : hexB c = if 48 ≤ (lowB c).toNat ∧ (lowB c).toNat ≤ 57 then some ((lowB c).toNat - 48) else if 97 ≤ (lowB c).toNat ∧ (lowB c).toNat ≤ 102 then some ((lowB c).toNat - 87) else none := by
  have key : ∀ n : Fin 256, hexB (UInt8.ofNat n.val) = if 48 ≤ (lowB (UInt8.ofNat n.val)).toNat ∧ (lowB (UInt8.ofNat n.val)).toNat ≤ 57 then some ((lowB (UInt8.ofNat n.val)).toNat - 48) else if 97 ≤ (lowB (UInt8.ofNat n.val)).toNat ∧ (lowB (UInt8.ofNat n.val)).toNat ≤ 102 then some ((lowB (UInt8.ofNat n.val)).toNat - 87) else none := by decide +kernel
  have := key ⟨c.toNat, c.toNat_lt⟩
  simpa using this
theorem hexB_lt (c : UInt8) (d : Nat) (h : hexB c = some d) : d < 16 := by
  unfold hexB at h
  split at h
  · simp at h; omega
  · split at h
    · simp at h; omega
    · split at h
      · simp at h; omega
      · cases h
theorem hexFrom_snoc (l : List UInt8) (k m d : Nat) (c : UInt8) (h : hexFrom 0 (l.take k) = some m) (hc : l[k]? = some c) (hd : hexB c = some d) : hexFrom 0 (l.take (k + 1)) = some (16 * m + d) := by
  obtain ⟨hk, rfl⟩ := List.getElem?_eq_some_iff.1 hc
  rw [List.take_succ_eq_append_getElem hk, hexFrom_append, h]
  simp only [Option.bind_some, hexFrom, hd]
theorem hexFrom_lt (l : List UInt8) (k : Nat) : ∀ m, hexFrom 0 (l.take k) = some m → m < 16 ^ k := by
  induction k with
  | zero =>
    intro m h
    simp [hexFrom] at h
    omega
  | succ k ih =>
    intro m h
    by_cases hk : k < l.length
    · rw [List.take_succ_eq_append_getElem hk, hexFrom_append] at h
      obtain ⟨m', h1, h2⟩ := Option.bind_eq_some_iff.1 h
      have := ih m' h1
      simp only [hexFrom] at h2
      cases hd : hexB l[k] with
      | none => rw [hd] at h2; cases h2
      | some d =>
        rw [hd] at h2
        have := hexB_lt _ d hd
        simp only [Option.some.injEq] at h2
        rw [Nat.pow_succ]
        omega
    · rw [List.take_of_length_le (by omega)] at h
      rw [List.take_of_length_le (by omega)] at ih
      have := ih m h
      rw [Nat.pow_succ]
      omega
theorem hexFrom_none (a : Nat) (l : List UInt8) (k : Nat) (c : UInt8) (hc : l[k]? = some c) (hd : hexB c = none) : hexFrom a l = none := by
  induction l generalizing a k with
  | nil => simp at hc
  | cons b l ih =>
    cases k with
    | zero =>
      simp at hc
      subst hc
      rw [hexFrom, hd]
    | succ k =>
      rw [hexFrom]
      cases hexB b with
      | none => rfl
      | some d => exact ih _ k (by simpa using hc)
theorem hexS_none (l : List UInt8) (h : hexFrom 0 l = none) : hexS l = (0, false) := by
  unfold hexS
  split
  · rfl
  · rw [h]
theorem hexS_empty (l : List UInt8) (h : l.length = 0) : hexS l = (0, false) := by
  unfold hexS
  rw [if_pos (.inl h)]

set_option maxRecDepth 100000 in
set_option maxHeartbeats 4000000 in
theorem hexR_any (s : ByteArray) (w : World) (hs : s.size ≤ 9223372036854775807) :
    Calls Tryz.prog 89 #[.string s] w (NumRet w (hexS s.data.toList)) := by
  obtain ⟨r, hr⟩ : ∃ r, r = hexS s.data.toList := ⟨_, rfl⟩
  rw [← hr]
  by_cases h1 : 1 ≤ s.size
  · by_cases h4 : s.size ≤ 4
    · have h4' : ¬ 4 < s.size := by omega
      have HR := Lib.hid hr
      clear hr
      go_enter Tryz.func89, Tryz.ntmps89
      go_wp2
      go_loopg [4, 5] s.size (fun gf n i wr => ∃ k m : Nat, k + gf = s.size ∧ i = .int .i64 k ∧ n = .int .i64 m ∧ hexFrom 0 (s.data.toList.take k) = some m ∧ wr = w)
      case atStart => exact ⟨0, 0, by omega, rfl, rfl, rfl, rfl⟩
      case round =>
        obtain ⟨k, m, hk, rfl, rfl, hm, rfl⟩ := hrel
        have hb := hexFrom_lt _ k m hm
        have hb2 : m < 65536 := by
          have : 16 ^ k ≤ 16 ^ 4 := Nat.pow_le_pow_right (by decide) (by omega)
          omega
        have HM := Lib.hid hm
        clear hm hb
        by_cases hlt : k < s.size
        · obtain ⟨g', rfl⟩ : ∃ g', gk = g' + 1 := ⟨gk - 1, by omega⟩
          have lc := fun W => lowerR1_any (s[k]) W
          have hx := hexB_low (s[k])
          obtain ⟨c, hc⟩ : ∃ c, c = lowB s[k] := ⟨_, rfl⟩
          rw [← hc] at lc hx
          have hcl := c.toNat_lt
          have HX := Lib.hid hx
          clear hc hx
          by_cases c1 : 48 ≤ c.toNat ∧ c.toNat ≤ 57
          · have HN := Lib.hid (hexFrom_snoc _ k m _ _ HM.out (get_list s k hlt) (HX.out.trans (if_pos c1)))
            obtain ⟨c1, c2⟩ := c1
            go_wp2_with (go_at_call 72; refine stopc ?_)
            refine Stop.go ?_
            refine (lc _).mono ?_
            rintro e w' ⟨rfl, hw⟩
            obtain rfl := hw.symm
            go_wp2
            go_roundg g'
            case measure => omega
            case rel =>
              refine ⟨k + 1, 16 * m + (c.toNat - 48), by omega, by go_num, ?_, HN.out, rfl⟩
              congr 1
              omega
          · by_cases c3 : 97 ≤ c.toNat ∧ c.toNat ≤ 102
            · have HN := Lib.hid (hexFrom_snoc _ k m _ _ HM.out (get_list s k hlt) (HX.out.trans ((if_neg c1).trans (if_pos c3))))
              obtain ⟨c3, c4⟩ := c3
              have c5 : 57 < c.toNat := by omega
              clear c1
              go_wp2_with (go_at_call 72; refine stopc ?_)
              refine Stop.go ?_
              refine (lc _).mono ?_
              rintro e w' ⟨rfl, hw⟩
              obtain rfl := hw.symm
              go_wp2
              go_roundg g'
              case measure => omega
              case rel =>
                refine ⟨k + 1, 16 * m + (c.toNat - 87), by omega, by go_num, ?_, HN.out, rfl⟩
                congr 1
                omega
            · have HN := Lib.hid (hexS_none _ (hexFrom_none 0 _ k _ (get_list s k hlt) (HX.out.trans ((if_neg c1).trans (if_neg c3)))))
              have key : (c.toNat < 48 ∨ (48 ≤ c.toNat ∧ 57 < c.toNat)) ∧ (c.toNat < 97 ∨ (97 ≤ c.toNat ∧ 102 < c.toNat)) := by omega
              clear c1 c3
              obtain ⟨k1 | ⟨k1, k1'⟩, k2 | ⟨k2, k2'⟩⟩ := key
              all_goals
                go_wp2_with (go_at_call 72; refine (lc _).mono ?_; rintro e w' ⟨rfl, hw⟩; obtain rfl := hw.symm)
                all_goals
                  go_ret2
                  exact ⟨by rw [HR.out, HN.out]; rfl, Stp.refl _ _⟩
        · rw [List.take_of_length_le (by rw [size_list]; omega)] at HM
          have HN := Lib.hid (hexS_of _ m (fun e => by have := size_list s; rw [e] at this; simp at this; omega) (by rw [size_list]; exact h4) HM.out)
          go_wp2
          go_ret2
          exact ⟨by rw [HR.out, HN.out]; rfl, Stp.refl _ _⟩
    · rw [hexS_long _ (by rw [size_list]; omega)] at hr
      subst hr
      have h4' : 4 < s.size := by omega
      go_enter Tryz.func89, Tryz.ntmps89
      go_wp2
      go_ret2
      exact ⟨rfl, Stp.refl _ _⟩
  · rw [hexS_empty _ (by rw [size_list]; omega)] at hr
    subst hr
    go_enter Tryz.func89, Tryz.ntmps89
    go_wp2
    go_ret2
    exact ⟨rfl, Stp.refl _ _⟩

theorem two63' : (2 : Int) ^ 63 = 9223372036854775808 := by decide
theorem i64_id (n : Int) (h0 : 0 ≤ n) (h1 : n < 2 ^ 63) : IntKind.i64.wrap n = n := by
  rw [two63'] at h1
  simp only [IntKind.wrap, IntKind.signed, IntKind.bits]
  simp
  omega
theorem or4 (m d : Nat) (hm : m < 1048576) (hd : d < 16) : bits BinOp.or IntKind.i64 ((m : Int) * 16) (d : Int) = ((16 * m + d : Nat) : Int) := by
  have h := bits_join .i64 63 (by decide) i64_id 4 ((m : Int) * 16) (d : Int) (by omega) (by omega) (by rw [two63']; omega) (by omega) (by omega) (by rw [two63']; omega)
  rw [h]
  omega
theorem and20 (n : Nat) (h : n < 1000000000) : bits BinOp.and IntKind.i64 (n : Int) 1048575 = ((n % 1048576 : Nat) : Int) := by
  have h := bits_mask .i64 63 (by decide) i64_id 20 (by decide) (n : Int) (by omega) (by rw [two63']; omega)
  have e : ((2 : Int) ^ 20 - 1) = 1048575 := by decide
  rw [e] at h
  rw [h]
  omega
def digits16 : List UInt8 := [48, 49, 50, 51, 52, 53, 54, 55, 56, 57, 97, 98, 99, 100, 101, 102]
theorem idx_hex (c : UInt8) : Lib.indexByte digits16 (lowB c) = match hexB c with | some d => (d : Int) | none => -1 := by
  have key : ∀ n : Fin 256, Lib.indexByte digits16 (lowB (UInt8.ofNat n.val)) = match hexB (UInt8.ofNat n.val) with | some d => (d : Int) | none => -1 := by decide +kernel
  have := key ⟨c.toNat, c.toNat_lt⟩
  simpa using this

set_option maxRecDepth 100000 in
set_option maxHeartbeats 4000000 in
theorem hex_any (s : ByteArray) (w : World) (hs : s.size ≤ 9223372036854775807) :
    Calls Tryz.prog 78 #[.string s] w (NumRet w (hexS s.data.toList)) := by
  obtain ⟨r, hr⟩ : ∃ r, r = hexS s.data.toList := ⟨_, rfl⟩
  rw [← hr]
  have HR := Lib.hid hr
  clear hr
  go_enter Tryz.func78, Tryz.ntmps78
  go_wp2
  go_loopg [4] s.size (fun gf n wx => ∃ pos m : Nat, wx.heap[w.heap.size]? = some (.stringIter s pos) ∧ Stp (fun _ => False) w wx ∧ n = .int .i64 m ∧ m < 1048576 ∧ (∃ x, hexFrom 0 (s.data.toList.take pos) = some x ∧ (pos ≤ 4 → x = m)) ∧ s.size = pos + gf)
  case atStart => exact ⟨0, 0, World.iter_heap w s 0, (Stp.refl _ w).alloc _, rfl, by omega, ⟨0, rfl, fun _ => rfl⟩, by omega⟩
  case round =>
    obtain ⟨pos, m, hit, hst, rfl, hm, hx, hfu⟩ := hrel
    have HX := Lib.hid hx
    have HST := Lib.hid hst
    clear hx hst
    by_cases hps : pos < s.size
    · obtain ⟨g', rfl⟩ : ∃ g', gk = g' + 1 := ⟨gk - 1, by omega⟩
      have hnx : ∀ ty, (Instr.next (.pointer (some ⟨w.heap.size, 0, none⟩)) true ty).run Tryz.prog wr = _ := fun ty => Lib.run_next_any_at wr w.heap.size s pos ty hit hps
      by_cases hlow : (s[pos]).toNat < 128
      · rw [decode_low s pos hps hlow] at hnx
        have hit2 := Lib.iterAt_heap wr w.heap.size s pos (pos + 1) hit
        have HST2 := Lib.hid (HST.out.iterAt (Nat.le_refl _) s (pos + 1))
        obtain ⟨W, hWd⟩ : ∃ W, wr.iterAt w.heap.size s (pos + 1) = W := ⟨_, rfl⟩
        rw [hWd] at hnx hit2 HST2
        clear hWd
        obtain ⟨c, hc⟩ : ∃ c, c = s[pos] := ⟨_, rfl⟩
        rw [← hc] at hnx hlow
        have HC := Lib.hid hc
        clear hc
        have sc := fun W => small_any c W
        have hix := idx_hex c
        obtain ⟨l, hl⟩ : ∃ l, l = lowB c := ⟨_, rfl⟩
        have hll : l.toNat < 128 := by rw [hl, lowB_nat]; split <;> omega
        rw [← hl] at sc hix
        clear hl
        go_wp2_with (go_at_call 67; refine stopc ?_)
        refine Stop.go ?_
        rw [show min (c.toNat : Int) 127 = c.toNat by omega]
        refine (sc _).mono ?_
        rintro e w' ⟨rfl, hw⟩
        obtain rfl := hw.symm
        clear hw
        cases hd : hexB c with
        | some d =>
          rw [hd] at hix
          have HIX := Lib.hid hix
          have hd16 := hexB_lt c d hd
          have HD := Lib.hid hd
          clear hix hd
          go_wp2_with (go_at_call 68; refine stopc ?_)
          refine Stop.go ?_
          refine (Tryz.strings_IndexRune_ascii _ _ _ (by omega) (by omega)).mono ?_
          rintro e w' ⟨he, hw⟩
          obtain rfl := hw.symm
          obtain rfl : e = .returned (.int .i64 (d : Int)) := he.trans (by rw [← HIX.out]; simp; rfl)
          clear hw he
          go_wp2
          go_roundg g'
          case measure => omega
          case rel =>
            refine ⟨pos + 1, (16 * m + d) % 1048576, hit2, HST2.out, by rw [or4 m d hm hd16, and20 _ (by omega)], Nat.mod_lt _ (by decide), ?_, by omega⟩
            obtain ⟨x, hx1, hx2⟩ := HX.out
            refine ⟨16 * x + d, hexFrom_snoc _ pos x d c hx1 (by rw [HC.out]; exact get_list s pos hps) HD.out, fun h4 => ?_⟩
            obtain rfl := hx2 (by omega)
            have := hexFrom_lt _ pos x hx1
            have : 16 ^ pos ≤ 16 ^ 3 := Nat.pow_le_pow_right (by decide) (by omega)
            rw [Nat.mod_eq_of_lt (by omega)]
        | none =>
          rw [hd] at hix
          have HIX := Lib.hid hix
          have HN := Lib.hid (hexS_none _ (hexFrom_none 0 _ pos c (by rw [HC.out]; exact get_list s pos hps) hd))
          clear hix hd
          go_wp2_with (go_at_call 68; refine stopc ?_)
          refine Stop.go ?_
          refine (Tryz.strings_IndexRune_ascii _ _ _ (by omega) (by omega)).mono ?_
          rintro e w' ⟨he, hw⟩
          obtain rfl := hw.symm
          obtain rfl : e = .returned (.int .i64 (-1)) := he.trans (by rw [← HIX.out]; simp; rfl)
          clear hw he
          go_wp2
          go_ret2
          exact ⟨by rw [HR.out, HN.out]; rfl, HST2.out⟩
      · have hit2 := Lib.iterAt_heap wr w.heap.size s pos (pos + (Utf8.decode s pos).2) hit
        have HST2 := Lib.hid (HST.out.iterAt (Nat.le_refl _) s (pos + (Utf8.decode s pos).2))
        have hR := decode_high s pos hps hlow
        obtain ⟨R, hRd⟩ : ∃ R, (Utf8.decode s pos).1 = R := ⟨_, rfl⟩
        obtain ⟨K, hKd⟩ : ∃ K, (Utf8.decode s pos).2 = K := ⟨_, rfl⟩
        rw [hRd] at hR
        rw [hKd] at hit2 HST2
        rw [hRd, hKd] at hnx
        obtain ⟨W, hWd⟩ : ∃ W, wr.iterAt w.heap.size s (pos + K) = W := ⟨_, rfl⟩
        rw [hWd] at hnx hit2 HST2
        have hno : hexB s[pos] = none := by
          unfold hexB
          rw [if_neg (by omega), if_neg (by omega), if_neg (by omega)]
        have HN := Lib.hid (hexS_none _ (hexFrom_none 0 _ pos _ (get_list s pos hps) hno))
        clear hRd hKd hWd hno
        go_wp2_with (go_at_call 67; refine stopc ?_)
        refine Stop.go ?_
        rw [show min (R : Int) 127 = ((127 : UInt8).toNat : Int) by have : (127 : UInt8).toNat = 127 := rfl; omega]
        refine (small_any _ _).mono ?_
        rintro e w' ⟨rfl, hw⟩
        obtain rfl := hw.symm
        clear hw
        rw [show ((lowB 127).toNat : Int) = 127 from rfl]
        go_wp2_with (go_at_call 68; refine stopc ?_)
        refine Stop.go ?_
        refine (Tryz.strings_IndexRune_ascii _ _ _ (by omega) (by omega)).mono ?_
        rintro e w' ⟨he, hw⟩
        obtain rfl := hw.symm
        obtain rfl : e = .returned (.int .i64 (-1)) := he.trans (by rfl)
        clear hw he
        go_wp2
        go_ret2
        exact ⟨by rw [HR.out, HN.out]; rfl, HST2.out⟩
    · have hnx : ∀ ty, (Instr.next (.pointer (some ⟨w.heap.size, 0, none⟩)) true ty).run Tryz.prog wr = _ := fun ty => Lib.run_next_end_at wr w.heap.size s pos ty hit hps
      obtain ⟨hpe, hpe2⟩ : s.size ≤ pos ∧ pos ≤ s.size := by omega
      clear hfu
      by_cases h0 : s.size = 0
      · have e1 : s.toList = ([] : List UInt8) := by
          rw [ByteArray.toList_eq]
          exact List.eq_nil_of_length_eq_zero (by rw [size_list]; exact h0)
        have HN := Lib.hid (hexS_empty s.data.toList (by rw [size_list]; exact h0))
        have e2 : s.toList.isEmpty = true := by rw [e1]; rfl
        clear h0
        go_wp2
        go_ret2
        exact ⟨by rw [HR.out, HN.out]; rfl, HST.out⟩
      · have e1 := ba_ne_empty s h0
        have e2 : s.toList.isEmpty = false := by simpa using e1
        by_cases h4 : s.size ≤ 4
        · have HN := Lib.hid (show hexS s.data.toList = ((m : Int), true) by
            obtain ⟨x, hx1, hx2⟩ := HX.out
            obtain rfl := hx2 (by omega)
            rw [List.take_of_length_le (by rw [size_list]; omega)] at hx1
            exact hexS_of _ x (fun e => by have := size_list s; rw [e] at this; simp at this; omega) (by rw [size_list]; exact h4) hx1)
          have h4' : ¬ 4 < s.size := by omega
          clear h0
          go_wp2
          go_ret2
          exact ⟨by rw [HR.out, HN.out]; rfl, HST.out⟩
        · have HN := Lib.hid (hexS_long s.data.toList (by rw [size_list]; omega))
          have h4' : 4 < s.size := by omega
          clear h0
          go_wp2
          go_ret2
          exact ⟨by rw [HR.out, HN.out]; rfl, HST.out⟩
end Go.Proofs.YtdamgdmipfoalaaGreatDoor.L
