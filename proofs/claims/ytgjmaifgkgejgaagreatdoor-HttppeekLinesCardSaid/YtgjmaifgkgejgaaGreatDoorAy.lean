/- Layer 2: Same, Visible; the reference's Lower, Token, Visible. -/
import Derived.Test.YtgjmaifgkgejgaaGreatDoorAw
set_option linter.unusedVariables false
set_option linter.unusedSimpArgs false
namespace Go.Proofs.YtgjmaifgkgejgaaGreatDoor.L
open Go.RowKit Go.Proofs

theorem visf_any (x : Nat) (w : World) : Calls Tryz.prog 98 #[.int .i32 (x : Int)] w fun e w' => e = .returned (.bool (visR x)) ∧ w' = w := by
  obtain ⟨b, hb⟩ : ∃ b, b = visR x := ⟨_, rfl⟩
  rw [← hb]
  have HB := Lib.hid hb
  clear hb
  by_cases h1 : 32 < x
  · by_cases h2 : x ≤ 126
    · go_enter Tryz.func98, Tryz.ntmps98
      go_wp2
      go_ret
      exact ⟨ret_b (by rw [HB.out]; simp [visR, h1, h2]; omega), rfl⟩
    · go_enter Tryz.func98, Tryz.ntmps98
      go_wp2
      go_ret
      exact ⟨ret_b (by rw [HB.out]; simp [visR, h1, h2]; omega), rfl⟩
  · go_enter Tryz.func98, Tryz.ntmps98
    go_wp2
    go_ret
    exact ⟨ret_b (by rw [HB.out]; simp [visR, h1]), rfl⟩

theorem visible_any (s : ByteArray) (w : World) (hs : s.size ≤ 9223372036854775807) :
    Calls Tryz.prog 56 #[.string s] w fun e w' => e = .returned (.bool (allS visR s.data.toList)) ∧ Stp (fun _ => False) w w' := by
  obtain ⟨b, hb⟩ : ∃ b, b = allS visR s.data.toList := ⟨_, rfl⟩
  have hc := all_any 98 visR s w (enters_of Tryz.func98 (by kernel_rfl) rfl) (fun W x _ => visf_any x W) visR_high hs
  rw [← hb] at hc ⊢
  clear hb
  go_enter Tryz.func56, Tryz.ntmps56
  go_wp2_with (go_at_call 60; refine hc.mono ?_; rintro e w' ⟨rfl, hs1⟩)
  go_ret
  exact ⟨rfl, hs1⟩

theorem beq_strB (x y : List UInt8) : ((strB x).toList == (strB y).toList) = decide (x = y) := by
  rw [ByteArray.toList_eq, ByteArray.toList_eq, Bool.eq_iff_iff]
  simp [strB]
theorem same_any (s t : ByteArray) (w : World) (hs : s.size ≤ 9223372036854775807) (ht : t.size ≤ 9223372036854775807) :
    Calls Tryz.prog 68 #[.string s, .string t] w fun e w' => e = .returned (.bool (decide (lowS s.data.toList = lowS t.data.toList))) ∧ Stp (fun _ => False) w w' := by
  obtain ⟨b, hb⟩ : ∃ b, b = decide (lowS s.data.toList = lowS t.data.toList) := ⟨_, rfl⟩
  obtain ⟨x, hx⟩ : ∃ x, x = lowS s.data.toList := ⟨_, rfl⟩
  obtain ⟨y, hy⟩ : ∃ y, y = lowS t.data.toList := ⟨_, rfl⟩
  have l1 := fun W => lower_any s W hs
  have l2 := fun W => lower_any t W ht
  rw [← hb]
  rw [← hx] at l1 hb
  rw [← hy] at l2 hb
  have HB := Lib.hid hb
  clear hb hx hy
  go_enter Tryz.func68, Tryz.ntmps68
  go_wp2_with (go_at_call 28; refine stopc ?_)
  refine Stop.go ?_
  refine (l1 _).mono ?_
  rintro e w1 ⟨rfl, hs1⟩
  have HS1 := Lib.hid hs1
  clear hs1
  go_wp2_with (go_at_call 28; refine stopc ?_)
  refine Stop.go ?_
  refine (l2 _).mono ?_
  rintro e w2 ⟨rfl, hs2⟩
  have HS2 := Lib.hid hs2
  clear hs2
  go_wp2
  go_ret
  exact ⟨ret_b (by rw [HB.out]; exact beq_strB x y), HS1.out.trans HS2.out⟩

theorem lowerR1_any (c : UInt8) (w : World) :
    Calls Tryz.prog 95 #[.int .u8 (c.toNat : Int)] w fun e w' => e = .returned (.int .u8 ((lowB c).toNat : Int)) ∧ w' = w := by
  have hc := c.toNat_lt
  obtain ⟨n, hn⟩ : ∃ n : Int, n = ((lowB c).toNat : Int) := ⟨_, rfl⟩
  rw [← hn]
  rw [lowB_nat] at hn
  by_cases h1 : 65 ≤ c.toNat
  · by_cases h2 : c.toNat ≤ 90
    · rw [if_pos ⟨h1, h2⟩] at hn
      have HN := Lib.hid hn
      clear hn
      go_enter Tryz.func95, Tryz.ntmps95
      go_wp2
      go_ret
      refine ⟨ret_i8 ?_, rfl⟩
      rw [HN.out]
      omega
    · rw [if_neg (by omega)] at hn
      have HN := Lib.hid hn
      clear hn
      go_enter Tryz.func95, Tryz.ntmps95
      go_wp2
      go_ret
      exact ⟨ret_i8 HN.out.symm, rfl⟩
  · rw [if_neg (by omega)] at hn
    have HN := Lib.hid hn
    clear hn
    go_enter Tryz.func95, Tryz.ntmps95
    go_wp2
    go_ret
    exact ⟨ret_i8 HN.out.symm, rfl⟩

set_option maxRecDepth 100000 in
set_option maxHeartbeats 4000000 in
theorem lowerR_any (s : ByteArray) (w : World) (hs : s.size ≤ 9223372036854775807) :
    Calls Tryz.prog 51 #[.string s] w fun e w' => e = .returned (.string (strB (lowS s.data.toList))) ∧ Stp (fun _ => False) w w' := by
  obtain ⟨R, hR⟩ : ∃ R : ByteArray, R = strB (lowS s.data.toList) := ⟨_, rfl⟩
  rw [← hR]
  have HR := Lib.hid hR
  clear hR
  go_enter Tryz.func51, Tryz.ntmps51
  go_wp2_with (with_reducible refine stop (N := 6) rfl ?_)
  refine Stop.go ?_
  refine wp_bytesBlk rfl _ _ _ rfl Tryz.underlying9 Tryz.underlying22 Tryz.underlying5 rfl hs ?_
  intro w1 c hb hc hm hs1 hz
  have HB := Lib.hid hb
  have HS := Lib.hid hs1
  have HZ := Lib.hid hz
  clear hb hs1 hz
  go_wp2
  go_loopg [4] s.size (fun gf i wr => ∃ k : Nat, k + gf = s.size ∧ i = .int .i64 k ∧ BlkB wr w.heap.size s.size (lowS (s.data.toList.take k) ++ s.data.toList.drop k) ∧ Stp (fun k => k = w.heap.size) w1 wr)
  case atStart => exact ⟨0, by omega, rfl, by simpa [lowS] using HB.out, Stp.refl _ _⟩
  case round =>
    obtain ⟨k, hk, rfl, hb, hst⟩ := hrel
    have HB2 := Lib.hid hb
    have HST := Lib.hid hst
    clear hb hst
    by_cases hlt : k < s.size
    · obtain ⟨g', rfl⟩ : ∃ g', gk = g' + 1 := ⟨gk - 1, by omega⟩
      obtain ⟨d, hd⟩ : ∃ d, d = s[k] := ⟨_, rfl⟩
      have hlen : (lowS (s.data.toList.take k)).length = k := by rw [lowS_len, List.length_take, size_list]; omega
      have hat : (lowS (s.data.toList.take k) ++ s.data.toList.drop k)[k]? = some d := by
        rw [List.getElem?_append_right (by omega), hlen, List.getElem?_drop, hd]
        simpa using get_list s k hlt
      have hcell : wr.cell? ⟨w.heap.size, k, none⟩ = some (.int .u8 (d.toNat : Int)) := HB2.out.cell hat
      have hfree : wr.frozen? ⟨w.heap.size, k, none⟩ = false := HB2.out.free hlt
      have HD := Lib.hid hd
      have HL := Lib.hid hlen
      clear hd hlen hat
      go_wp2_with (go_at_call 95; refine (lowerR1_any _ _).mono ?_; rintro e w' ⟨rfl, rfl⟩)
      go_roundg g'
      case measure => omega
      case rel =>
        refine ⟨k + 1, by omega, by go_num, ?_, HST.out.setCell (fun _ => rfl) _⟩
        have := HB2.out.set k (lowB d)
        have e : (lowS (s.data.toList.take k) ++ s.data.toList.drop k).set k (lowB d) = lowS (s.data.toList.take (k + 1)) ++ s.data.toList.drop (k + 1) := by
          have hk2 : k < s.data.toList.length := by rw [size_list]; exact hlt
          rw [List.set_append_right _ _ (by rw [HL.out]; exact Nat.le_refl _), HL.out, Nat.sub_self, List.drop_eq_getElem_cons hk2, List.set_cons_zero, List.take_succ_eq_append_getElem hk2, lowS_append, List.append_assoc]
          rw [HD.out]
          rfl
        rw [e] at this
        exact this
    · have hcv : convB wr (.slice (some ⟨w.heap.size, 0, none⟩) s.size c) (lowS s.data.toList) := by
        have := HB2.out.rd hc hm (fun _ => False) (fun h => h)
        rw [List.take_of_length_le (by rw [size_list]; omega), List.drop_of_length_le (by rw [size_list]; omega), List.append_nil] at this
        exact conv_of this
      have hcv' : (convert 22 9 (.slice (some ⟨w.heap.size, 0, none⟩) s.size c)).run Tryz.prog wr = .ok (.string R) wr := by rw [HR.out]; exact hcv
      clear hcv
      go_wp2
      go_ret
      exact ⟨rfl, HS.out.new HST.out (Nat.le_refl _)⟩

theorem sign_yes {c d : UInt8} {k : Nat} (h : signsL[k]? = some d) (e : d = c) : (decide (c.toNat < 128) && signsL.contains (UInt8.ofNat c.toNat)) = true := by
  subst e
  have hm : d ∈ signsL := List.mem_of_getElem? h
  have h128 : ∀ x ∈ signsL, x.toNat < 128 := by decide
  rw [show decide (d.toNat < 128) = true by simpa using h128 d hm]
  simpa using hm
theorem sign_no {c : UInt8} (h : ∀ (j : Nat) (d : UInt8), signsL[j]? = some d → d ≠ c) : (decide (c.toNat < 128) && signsL.contains (UInt8.ofNat c.toNat)) = false := by
  rw [Bool.and_eq_false_iff]
  right
  rw [UInt8.ofNat_toNat]
  cases hc : signsL.contains c with
  | false => rfl
  | true =>
    obtain ⟨j, hj⟩ := List.mem_iff_getElem?.1 (show c ∈ signsL by simpa using hc)
    exact absurd rfl (h j c hj)
set_option maxRecDepth 100000 in
set_option maxHeartbeats 4000000 in
theorem tokenR1_any (c : UInt8) (w : World) :
    Calls Tryz.prog 86 #[.int .u8 (c.toNat : Int)] w fun e w' => e = .returned (.bool (tokR c.toNat)) ∧ Stp (fun _ => False) w w' := by
  have hc := c.toNat_lt
  obtain ⟨b, hb⟩ : ∃ b, b = tokR c.toNat := ⟨_, rfl⟩
  rw [← hb]
  obtain ⟨l, hl⟩ : ∃ l : UInt8, l = lowB c := ⟨_, rfl⟩
  have lc := fun W => lowerR1_any c W
  rw [← hl] at lc
  have hln := congrArg UInt8.toNat hl
  rw [lowB_nat] at hln
  by_cases h1 : 97 ≤ l.toNat ∧ l.toNat ≤ 122
  · have HB := Lib.hid (show b = true by
      rw [hb, tokR]
      split at hln
      · rename_i h
        rw [show decide (65 ≤ c.toNat) = true by simpa using h.1, show decide (c.toNat ≤ 90) = true by simpa using h.2]
        simp
      · rw [show decide (97 ≤ c.toNat) = true by simp; omega, show decide (c.toNat ≤ 122) = true by simp; omega]
        simp)
    obtain ⟨h1, h2⟩ := h1
    clear hb hl hln
    go_enter Tryz.func86, Tryz.ntmps86
    go_wp2_with (go_at_call 95; refine (lc _).mono ?_; rintro e w' ⟨rfl, rfl⟩)
    go_ret
    exact ⟨ret_b HB.out.symm, Stp.refl _ _⟩
  · by_cases h2 : 48 ≤ c.toNat ∧ c.toNat ≤ 57
    · have HB := Lib.hid (show b = true by
        rw [hb, tokR, digR, show decide (48 ≤ c.toNat) = true by simpa using h2.1, show decide (c.toNat ≤ 57) = true by simpa using h2.2]
        simp)
      obtain ⟨h3, h4⟩ := h2
      have h5 : l.toNat < 97 := by rw [hln]; split <;> omega
      clear hb hl hln h1
      go_enter Tryz.func86, Tryz.ntmps86
      go_wp2_with (go_at_call 95; refine (lc _).mono ?_; rintro e w' ⟨rfl, rfl⟩)
      go_ret
      exact ⟨ret_b HB.out.symm, Stp.refl _ _⟩
    · have HB := Lib.hid (show b = (decide (c.toNat < 128) && signsL.contains (UInt8.ofNat c.toNat)) by
        rw [hb, tokR, digR]
        have e1 : (decide (97 ≤ c.toNat) && decide (c.toNat ≤ 122)) = false := by
          simp
          split at hln <;> omega
        have e2 : (decide (65 ≤ c.toNat) && decide (c.toNat ≤ 90)) = false := by
          simp
          split at hln <;> omega
        have e3 : (decide (48 ≤ c.toNat) && decide (c.toNat ≤ 57)) = false := by
          simp
          omega
        rw [e1, e2, e3]
        simp)
      have hcv : (convert 22 9 (.slice (some ⟨w.heap.size, 0, none⟩) 1 1)).run Tryz.prog (w.alloc (.cells #[.int .u8 96] 5)) = .ok (.string ⟨#[96]⟩) (w.alloc (.cells #[.int .u8 96] 5)) :=
        conv_of (Rd.lit (M := fun _ => False) (h1 := fun _ => rfl) (enc := enc8) [96] #[.int .u8 96] rfl (by decide) (fun h => h))
      clear hb hl hln
      have key : (l.toNat < 97 ∨ (97 ≤ l.toNat ∧ 122 < l.toNat)) ∧ (c.toNat < 48 ∨ (48 ≤ c.toNat ∧ 57 < c.toNat)) := by omega
      clear h1 h2
      obtain ⟨k1 | ⟨k1, k1'⟩, k2 | ⟨k2, k2'⟩⟩ := key
      all_goals
        go_enter Tryz.func86, Tryz.ntmps86
        go_wp2_with (go_at_call 95; refine (lc _).mono ?_; rintro e w' ⟨rfl, hw⟩; obtain rfl := hw.symm)
        generalize hG : (({ data := #[33, 35, 36, 37, 38, 39, 42, 43, 45, 46, 94, 95] } : ByteArray) ++ { data := #[96] } ++ { data := #[124, 126] }) = G
        have HG := Lib.hid (show G = ⟨#[33, 35, 36, 37, 38, 39, 42, 43, 45, 46, 94, 95, 96, 124, 126]⟩ by rw [← hG]; rfl)
        clear hG
        go_loopg [5] 15 (fun gf i wr => ∃ k : Nat, k + gf = 15 ∧ i = .int .i64 k ∧ (∀ j d, j < k → signsL[j]? = some d → d ≠ c) ∧ Stp (fun _ => False) w wr)
        case atStart => exact ⟨0, by omega, rfl, fun j d hj => absurd hj (by omega), (Stp.refl _ _).alloc _⟩
        case round =>
          obtain ⟨k, hk, rfl, hno, hst⟩ := hrel
          have HN := Lib.hid hno
          have HST := Lib.hid hst
          clear hno hst
          have hsz : G.size ≤ 15 ∧ 15 ≤ G.size := by rw [HG.out]; decide
          obtain ⟨hsz1, hsz2⟩ := hsz
          by_cases hlt : k < 15
          · obtain ⟨g', rfl⟩ : ∃ g', gk = g' + 1 := ⟨gk - 1, by omega⟩
            have hlt2 : k < G.size := by omega
            obtain ⟨d, hd⟩ : ∃ d, d = G[k] := ⟨_, rfl⟩
            have hd2 : signsL[k]? = some d := by
              have := get_list G k hlt2
              rw [← hd] at this
              rw [← this, HG.out]
              rfl
            have HD2 := Lib.hid hd2
            clear hd2
            by_cases he : d = c
            · have e1 : ((G[k].toNat : Int) == (c.toNat : Int)) = true := by rw [← hd, he]; simp
              have HE := Lib.hid he
              clear he hd lc
              go_wp2
              go_ret
              refine ⟨ret_b ?_, HST.out⟩
              rw [HB.out]
              exact (sign_yes HD2.out HE.out).symm
            · have e1 : ((G[k].toNat : Int) == (c.toNat : Int)) = false := by rw [← hd]; simpa using fun h => he (UInt8.toNat_inj.1 (by omega))
              have HE := Lib.hid he
              clear he hd lc
              go_wp2
              go_roundg g'
              case measure => omega
              case rel =>
                refine ⟨k + 1, by omega, by go_num, fun j x hj hx => ?_, HST.out⟩
                by_cases e : j = k
                · subst e
                  obtain rfl := Option.some.inj (hx.symm.trans HD2.out)
                  exact HE.out
                · exact HN.out j x (by omega) hx
          · clear lc
            go_wp2
            go_ret
            refine ⟨ret_b ?_, HST.out⟩
            rw [HB.out]
            exact (sign_no fun j x hx => HN.out j x (by have := (List.getElem?_eq_some_iff.1 hx).1; have e15 : signsL.length = 15 := rfl; omega) hx).symm

set_option maxRecDepth 100000 in
set_option maxHeartbeats 4000000 in
theorem tokenR_any (s : ByteArray) (w : World) (hs : s.size ≤ 9223372036854775807) :
    Calls Tryz.prog 46 #[.string s] w fun e w' => e = .returned (.bool (allS tokR s.data.toList)) ∧ Stp (fun _ => False) w w' := by
  obtain ⟨b, hb⟩ : ∃ b, b = allS tokR s.data.toList := ⟨_, rfl⟩
  rw [← hb]
  have HB := Lib.hid hb
  clear hb
  go_enter Tryz.func46, Tryz.ntmps46
  go_wp2
  go_loopg [3] s.size (fun gf i wr => ∃ k : Nat, k + gf = s.size ∧ i = .int .i64 k ∧ (∀ j (hj : j < s.size), j < k → tokR (s[j]).toNat = true) ∧ Stp (fun _ => False) w wr)
  case atStart => exact ⟨0, by omega, rfl, fun j hj h => absurd h (by omega), Stp.refl _ _⟩
  case round =>
    obtain ⟨k, hk, rfl, hall, hst⟩ := hrel
    have HALL := Lib.hid hall
    have HST := Lib.hid hst
    clear hall hst
    by_cases hlt : k < s.size
    · obtain ⟨g', rfl⟩ : ∃ g', gk = g' + 1 := ⟨gk - 1, by omega⟩
      cases hsp : tokR (s[k]).toNat
      · have HSP := Lib.hid hsp
        go_wp2_with (go_at_call 86; refine stopc ?_)
        refine Stop.go ?_
        refine (tokenR1_any _ _).mono ?_
        rintro e w1 ⟨he, hs1⟩
        obtain rfl : e = .returned (.bool false) := he.trans (by rw [HSP.out])
        have HST2 := Lib.hid (HST.out.trans hs1)
        clear hs1 he hsp
        go_wp2
        go_ret
        exact ⟨ret_b (by rw [HB.out]; exact (allS_false hlt HSP.out).symm), HST2.out⟩
      · have HSP := Lib.hid hsp
        go_wp2_with (go_at_call 86; refine stopc ?_)
        refine Stop.go ?_
        refine (tokenR1_any _ _).mono ?_
        rintro e w1 ⟨he, hs1⟩
        obtain rfl : e = .returned (.bool true) := he.trans (by rw [HSP.out])
        have HST2 := Lib.hid (HST.out.trans hs1)
        clear hs1 he hsp
        go_wp2
        go_roundg g'
        case measure => omega
        case rel =>
          refine ⟨k + 1, by omega, by go_num, fun j hj hx => ?_, HST2.out⟩
          by_cases e : j = k
          · subst e
            exact HSP.out
          · exact HALL.out j hj (by omega)
    · by_cases h0 : s.size = 0
      · have e1 : s.toList = ([] : List UInt8) := by
          rw [ByteArray.toList_eq]
          exact List.eq_nil_of_length_eq_zero (by rw [size_list]; exact h0)
        have HF := Lib.hid (allS_empty (p := tokR) h0)
        clear h0
        go_wp2
        go_ret
        exact ⟨ret_b (by rw [HB.out, HF.out] <;> simp [e1]), HST.out⟩
      · have e1 := ba_ne_empty s h0
        have HF := Lib.hid (allS_true (p := tokR) (fun k hk => HALL.out k hk (by omega)) h0)
        clear h0
        go_wp2
        go_ret
        exact ⟨ret_b (by rw [HB.out, HF.out] <;> simp [e1]), HST.out⟩

set_option maxRecDepth 100000 in
set_option maxHeartbeats 4000000 in
theorem visibleR_any (s : ByteArray) (w : World) (hs : s.size ≤ 9223372036854775807) :
    Calls Tryz.prog 47 #[.string s] w fun e w' => e = .returned (.bool (allS visR s.data.toList)) ∧ Stp (fun _ => False) w w' := by
  obtain ⟨b, hb⟩ : ∃ b, b = allS visR s.data.toList := ⟨_, rfl⟩
  rw [← hb]
  have HB := Lib.hid hb
  clear hb
  go_enter Tryz.func47, Tryz.ntmps47
  go_wp2
  go_loopg [3] s.size (fun gf i wr => ∃ k : Nat, k + gf = s.size ∧ i = .int .i64 k ∧ (∀ j (hj : j < s.size), j < k → visR (s[j]).toNat = true) ∧ Stp (fun _ => False) w wr)
  case atStart => exact ⟨0, by omega, rfl, fun j hj h => absurd h (by omega), Stp.refl _ _⟩
  case round =>
    obtain ⟨k, hk, rfl, hall, hst⟩ := hrel
    have HALL := Lib.hid hall
    have HST := Lib.hid hst
    clear hall hst
    by_cases hlt : k < s.size
    · obtain ⟨g', rfl⟩ : ∃ g', gk = g' + 1 := ⟨gk - 1, by omega⟩
      have HST2 := HST
      by_cases h1 : (s[k]).toNat < 33
      · have HSP := Lib.hid (show visR (s[k]).toNat = false by unfold visR; rw [show decide (32 < (s[k]).toNat) = false by simp; omega]; rfl)
        go_wp2
        go_ret
        exact ⟨ret_b (by rw [HB.out]; exact (allS_false hlt HSP.out).symm), HST2.out⟩
      · by_cases h2 : (s[k]).toNat ≤ 126
        · have HSP := Lib.hid (show visR (s[k]).toNat = true by unfold visR; rw [show decide (32 < (s[k]).toNat) = true by simp; omega, show decide ((s[k]).toNat ≤ 126) = true by simpa using h2]; rfl)
          go_wp2
          go_roundg g'
          case measure => omega
          case rel =>
            refine ⟨k + 1, by omega, by go_num, fun j hj hx => ?_, HST2.out⟩
            by_cases e : j = k
            · subst e
              exact HSP.out
            · exact HALL.out j hj (by omega)
        · have HSP := Lib.hid (show visR (s[k]).toNat = false by unfold visR; rw [show decide ((s[k]).toNat ≤ 126) = false by simpa using h2, Bool.and_false])
          go_wp2
          go_ret
          exact ⟨ret_b (by rw [HB.out]; exact (allS_false hlt HSP.out).symm), HST2.out⟩
    · by_cases h0 : s.size = 0
      · have e1 : s.toList = ([] : List UInt8) := by
          rw [ByteArray.toList_eq]
          exact List.eq_nil_of_length_eq_zero (by rw [size_list]; exact h0)
        have HF := Lib.hid (allS_empty (p := visR) h0)
        clear h0
        go_wp2
        go_ret
        exact ⟨ret_b (by rw [HB.out, HF.out] <;> simp [e1]), HST.out⟩
      · have e1 := ba_ne_empty s h0
        have HF := Lib.hid (allS_true (p := visR) (fun k hk => HALL.out k hk (by omega)) h0)
        clear h0
        go_wp2
        go_ret
        exact ⟨ret_b (by rw [HB.out, HF.out] <;> simp [e1]), HST.out⟩
end Go.Proofs.YtgjmaifgkgejgaaGreatDoor.L
