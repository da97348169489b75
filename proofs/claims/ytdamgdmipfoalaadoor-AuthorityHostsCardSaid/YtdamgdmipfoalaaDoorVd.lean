/- Layer 3: an address of a text. -/
import Derived.Test.YtdamgdmipfoalaaDoorVc
import Derived.Test.YtdamgdmipfoalaaDoorVr
set_option linter.unusedVariables false
set_option linter.unusedSimpArgs false
namespace Go.Proofs.YtdamgdmipfoalaaDoor.L
open Go.RowKit Go.Proofs

theorem index_gap (l : List UInt8) : Lib.index l [58, 58] = match gapS l with
    | some (x, y) => (x.length : Int)
    | none => -1 := by
  induction l with
  | nil => rfl
  | cons c r ih =>
    rw [Lib.index, gapS]
    by_cases h : c = 58 ∧ r[0]? = some 58
    · rw [if_pos h, if_pos]
      · rfl
      · obtain ⟨rfl, h2⟩ := h
        cases r with
        | nil => simp at h2
        | cons d r =>
          simp at h2
          simp [h2, List.isPrefixOf]
    · rw [if_neg h, if_neg, ih]
      · cases gapS r with
        | none => rfl
        | some p => simp
      · intro hp
        apply h
        cases r with
        | nil => simp [List.isPrefixOf] at hp
        | cons d r =>
          simp [List.isPrefixOf] at hp
          exact ⟨hp.1.symm, by simp [hp.2]⟩
def cut2 (l : List UInt8) : List UInt8 × List UInt8 × Bool := match gapS l with
  | some (x, y) => (x, y, true)
  | none => (l, [], false)
theorem cut_gap (l : List UInt8) : Lib.cut l [58, 58] = cut2 l := by
  unfold Lib.cut cut2
  rw [index_gap]
  cases h : gapS l with
  | none => simp
  | some p =>
    obtain ⟨x, y⟩ := p
    have := gapS_inv l x y h
    simp only
    rw [if_pos (by omega), this]
    simp
theorem cut2_call (s : ByteArray) (w : World) (hs : s.size < 4294967281) (hm : MaxL w) :
    Calls Tryd.prog 30 #[.string s, .string ⟨#[58, 58]⟩] w fun e w' => e = .returned (.tuple #[.string (strB (cut2 s.data.toList).1), .string (strB (cut2 s.data.toList).2.1), .bool (cut2 s.data.toList).2.2]) ∧ Stp (fun _ => False) w w' := by
  obtain ⟨m, hm⟩ := hm
  refine (Tryd.strings_Cut s ⟨#[58, 58]⟩ m w hs hm).mono fun e w' ⟨h1, n, h2⟩ => ⟨?_, h2 ▸ stp_drewN w n⟩
  rw [h1]
  rw [show (⟨#[58, 58]⟩ : ByteArray).data.toList = [58, 58] from rfl, cut_gap]
  rfl
theorem gapS_len (l x y : List UInt8) (h : gapS l = some (x, y)) : x.length + y.length + 2 = l.length := by
  rw [gapS_inv l x y h]
  simp
  omega
/-- What an address's text gives: sixteen bytes, and whether it is one. -/
def AdrP (w : World) (l : List UInt8) (e : Ending) (w' : World) : Prop :=
  ∃ a : List UInt8, e = .returned (.tuple #[.agg (cellsA a), .bool (parseA l).isSome]) ∧ a.length = 16 ∧ (∀ a', parseA l = some a' → a' = a) ∧ (parseA l = none → a = zerosL 16) ∧ Stp (fun _ => False) w w'
theorem over_two (x y : List UInt8) (h : x.length + y.length ≤ 14) : over (over (zerosL 16) 0 x) (16 - y.length) y = x ++ zerosL (16 - x.length - y.length) ++ y := by
  have e1 : over (zerosL 16) 0 x = x ++ zerosL (16 - x.length) := by
    unfold over zerosL
    rw [List.take_zero, List.nil_append, Nat.zero_add, List.drop_replicate]
  have e2 : zerosL (16 - x.length) = zerosL (16 - x.length - y.length) ++ zerosL y.length := by
    unfold zerosL
    rw [List.replicate_append_replicate]
    congr 1
    omega
  have hz : ∀ n, (zerosL n).length = n := fun n => by simp [zerosL]
  have e3 : over (zerosL 16) 0 x = (x ++ zerosL (16 - x.length - y.length)) ++ zerosL y.length := by rw [e1, e2, List.append_assoc]
  show (over (zerosL 16) 0 x).take (16 - y.length) ++ (y ++ (over (zerosL 16) 0 x).drop (16 - y.length + y.length)) = _
  rw [e3, List.take_append_of_le_length (by simp [hz]; omega), List.take_of_length_le (by simp [hz]; omega), List.drop_eq_nil_of_le (by simp [hz]; omega), List.append_nil]
def offT (n : Nat) : Nat := if n = 0 then 0 else 16 - n
theorem over_tail (x y : List UInt8) (h : x.length + y.length ≤ 14) : over (over (zerosL 16) 0 x) (offT y.length) y = x ++ zerosL (16 - x.length - y.length) ++ y := by
  unfold offT
  split
  · rename_i h0
    obtain rfl : y = [] := List.eq_nil_of_length_eq_zero h0
    rw [← over_two x [] h]
    have e : ∀ (z : List UInt8) (k : Nat), over z k [] = z := fun z k => by simp [over]
    rw [e, e]
  · exact over_two x y h
theorem len_addr : Tryd.prog.arrayLen 62 = 16 := by kernel_rfl
theorem elem_addr : Tryd.prog.elem 62 = 5 := by kernel_rfl
theorem slice_tail (g n : Nat) (hn : n ≤ 16) (W : World) : (Instr.sliceAt 62 (.pointer (some ⟨g, 0, none⟩)) (some (.int .i64 (16 - (n : Int)))) none none).run Tryd.prog W = .ok (.slice (some ⟨g, offT n, none⟩) n n) W := by
  rw [run_sliceAt_array_l W 62 ⟨g, 0, none⟩ (by rw [len_addr, elem_addr]; exact Tryd.underlying62) .i64 (16 - (n : Int)) (by omega) (by rw [len_addr]; omega), len_addr, elem_addr, Tryd.sizeOf5 W, Result.andThen_ok]
  unfold slicedAt offT
  have e : (16 - (n : Int)).toNat = 16 - n := by omega
  rw [e]
  by_cases h : n = 0
  · subst h
    rfl
  · rw [if_neg (by omega), if_neg h, show 16 - (16 - n) = n by omega, Nat.mul_one]
    by_cases h2 : 16 - n = 0
    · rw [h2, addr_z]
    · rw [addr_nz _ _ h2, Nat.zero_add]
theorem over_all (x : List UInt8) (h : x.length = 16) : over (zerosL 16) 0 x = x := by
  unfold over zerosL
  rw [List.take_zero, List.nil_append, List.drop_eq_nil_of_le (by simp; omega), List.append_nil]

set_option maxRecDepth 100000 in
set_option maxHeartbeats 4000000 in
theorem aparse_any (s : ByteArray) (w : World) (hs : s.size < 4294967281) (hm : MaxL w) (hh : AheadP w) : Calls Tryd.prog 31 #[.string s] w (AdrP w s.data.toList) := by
  obtain ⟨R, hR⟩ : ∃ R, R = AdrP w s.data.toList := ⟨_, rfl⟩
  rw [← hR]
  have HR := Lib.hid hR
  have HM := Lib.hid hm
  have HH := Lib.hid hh
  clear hR hm hh
  have cd := fun W hW => dotted_any s W hs hW
  go_enter Tryd.func31, Tryd.ntmps31
  go_wp2_with (go_at_call 48; refine stopc ?_)
  refine Stop.go ?_
  refine (cd _ (HM.out.step ((Stp.refl _ w).alloc _))).mono ?_
  rintro e w1 ⟨d, rfl, hdl, hd, hs1⟩
  have HS1 := Lib.hid (((Stp.refl (fun _ => False) w).alloc _).trans hs1)
  have HA1 := Lib.hid ((arr_new w w.heap.size 62 (zerosL 16) rfl).step hs1 id)
  have HDL := Lib.hid hdl
  have HDD := Lib.hid hd
  obtain ⟨D, hDv⟩ : ∃ D, D = (dotS s.data.toList).isSome := ⟨_, rfl⟩
  rw [← hDv]
  have HDV := Lib.hid hDv
  clear hs1 hdl hd hDv
  go_wp2_with (refine wp_storeA rfl _ _ _ rfl rfl rfl (arr_new _ _ _ (zerosL 4) rfl) size_four HDL.out rfl ?_; intro w2 hA2 hs2; refine stopw ?_)
  refine Stop.go ?_
  have hsz1 := HS1.out.size
  have hgl : w.heap.size < w1.heap.size := HA1.out.lt
  have HA2 := Lib.hid hA2
  have HR2 := Lib.hid ((HA1.out.alloc _).step hs2 (by omega))
  have HS2 := Lib.hid ((HS1.out.alloc _).then_ hs2 (fun k hk h => absurd h (by omega)))
  have hdl := HDL.out
  clear hA2 hs2
  cases D with
  | true =>
    have HD4 : Hid (parseA s.data.toList = some (aheadL ++ d)) := Lib.hid (by
      unfold parseA
      cases hq : dotS s.data.toList with
      | none => have := HDV.out; rw [hq] at this; cases this
      | some y => rw [HDD.out y hq])
    have hl16 : (aheadL ++ d).length = 16 := by simp [hdl, aheadL]
    go_wp2_with (with_reducible refine stop (N := 22) rfl ?_)
    refine Stop.go ?_
    refine wp_loadA rfl _ _ rfl rfl HA2.out Tryd.underlying77 size_four hdl ?_
    go_wp2_with (go_at_call 49; refine stopc ?_)
    refine Stop.go ?_
    refine (of4_any d hdl _ (HH.out.step HS2.out)).mono ?_
    rintro e w3 ⟨rfl, hs3⟩
    have HR3 := Lib.hid (HR2.out.step hs3 id)
    have HS3 := Lib.hid (HS2.out.trans hs3)
    clear hs3
    go_wp2_with (refine wp_storeA rfl _ _ _ rfl rfl rfl HR3.out size_addr hl16 rfl ?_; intro w4 hA4 hs4; refine stopw ?_)
    refine Stop.go ?_
    have HA4 := Lib.hid hA4
    have HS4 := Lib.hid (HS3.out.then_ hs4 (fun k hk h => absurd h (by omega)))
    clear hA4 hs4
    go_wp2
    refine bodyPost_ret (results_row_tmp rfl _ _ w.heap.size _ _ _ _ rfl HA4.out Tryd.underlying62 rfl (by rw [cellsA_size, hl16]; exact size_addr)) rfl ?_
    rw [HR.out]
    unfold AdrP
    rw [HD4.out]
    exact ⟨_, rfl, hl16, (fun a' h => by injection h with h; exact h.symm), (fun h => by cases h), HS4.out⟩
  | false =>
    have HD4 : Hid (dotS s.data.toList = none) := Lib.hid (by
      cases hq : dotS s.data.toList with
      | none => rfl
      | some y => have := HDV.out; rw [hq] at this; cases this)
    clear HDD HDV HDL HA2 hdl
    have hgl2 : w.heap.size < w2.heap.size := HR2.out.lt
    have cc := fun W hW => cut2_call s W hs hW
    go_wp2_with (go_at_call 30; refine stopc ?_)
    refine Stop.go ?_
    refine (cc _ (HM.out.step (HS2.out.alloc _))).mono ?_
    rintro e w3 ⟨rfl, hs3⟩
    have HR3 := Lib.hid ((HR2.out.alloc _).step hs3 id)
    have HA3 := Lib.hid ((arr_new w2 w2.heap.size 62 (zerosL 16) rfl).step hs3 id)
    have HS3 := Lib.hid ((HS2.out.alloc _).trans hs3)
    clear hs3 cc
    cases hg : gapS s.data.toList with
    | none =>
      have hcut : cut2 s.data.toList = (s.data.toList, [], false) := by unfold cut2; rw [hg]
      have HPA : Hid (parseA s.data.toList = match readS true s.data.toList with
        | some b => if b.length = 16 then some b else none
        | none => none) := Lib.hid (by unfold parseA; rw [HD4.out]; simp only [hg]; rfl)
      rw [hcut]
      clear hcut hg
      have cr := fun W hW => read3_any s true W hs hW
      go_wp2_with (go_at_call 50; refine stopc ?_)
      refine Stop.go ?_
      refine (cr _ (HM.out.step HS3.out)).mono ?_
      rintro e w4 ⟨v, out, rfl, hown, hro, hle, hs4⟩
      have HR4 := Lib.hid (HR3.out.step hs4 id)
      have HA4 := Lib.hid (HA3.out.step hs4 id)
      have HS4 := Lib.hid (HS3.out.trans hs4)
      have HOW := Lib.hid hown
      have HRO := Lib.hid hro
      have hsl := size_list s
      obtain ⟨A, c, rfl, hlc⟩ := HOW.out.form
      obtain ⟨O, hOv⟩ : ∃ O, O = (readS true s.data.toList).isSome := ⟨_, rfl⟩
      rw [← hOv]
      have HOV := Lib.hid hOv
      clear hs4 hown hro hOv
      have HNO : Hid ((O = false ∨ out.length ≠ 16) → parseA s.data.toList = none) := Lib.hid (by
        intro h
        rw [HPA.out]
        cases hq : readS true s.data.toList with
        | none => rfl
        | some b =>
          rcases h with h | h
          · have := HOV.out
            rw [hq, h] at this
            cases this
          · rw [HRO.out b hq]
            simp only
            rw [if_neg h])
      by_cases hbad : O = false ∨ out.length ≠ 16
      · have HN2 := Lib.hid (HNO.out hbad)
        clear HNO
        have key : ∀ p : Prop, p → p := fun _ h => h
        cases O with
        | false =>
          clear hbad
          go_wp2_with (with_reducible refine stop (N := 44) rfl ?_)
          refine Stop.go ?_
          refine wp_loadA rfl _ _ rfl rfl HA4.out Tryd.underlying62 size_addr rfl ?_
          refine wp_storeA rfl _ _ _ rfl rfl rfl HR4.out size_addr rfl rfl ?_
          intro w5 hA5 hs5
          have HA5 := Lib.hid hA5
          have HS5 := Lib.hid (HS4.out.then_ hs5 (fun k hk h => absurd h (by omega)))
          clear hA5 hs5
          go_wp2
          refine bodyPost_ret (results_row_tmp rfl _ _ w.heap.size _ _ _ _ rfl HA5.out Tryd.underlying62 rfl (by rw [cellsA_size]; exact size_addr)) rfl ?_
          rw [HR.out]
          unfold AdrP
          rw [HN2.out]
          exact ⟨_, rfl, rfl, (fun a' h => by cases h), (fun _ => rfl), HS5.out⟩
        | true =>
          have hne : ((out.length : Int) != 16) = true := by
            rcases hbad with h | h
            · cases h
            · simp; omega
          clear hbad
          go_wp2_with (with_reducible refine stop (N := 44) rfl ?_)
          refine Stop.go ?_
          refine wp_loadA rfl _ _ rfl rfl HA4.out Tryd.underlying62 size_addr rfl ?_
          refine wp_storeA rfl _ _ _ rfl rfl rfl HR4.out size_addr rfl rfl ?_
          intro w5 hA5 hs5
          have HA5 := Lib.hid hA5
          have HS5 := Lib.hid (HS4.out.then_ hs5 (fun k hk h => absurd h (by omega)))
          clear hA5 hs5
          go_wp2
          refine bodyPost_ret (results_row_tmp rfl _ _ w.heap.size _ _ _ _ rfl HA5.out Tryd.underlying62 rfl (by rw [cellsA_size]; exact size_addr)) rfl ?_
          rw [HR.out]
          unfold AdrP
          rw [HN2.out]
          exact ⟨_, rfl, rfl, (fun a' h => by cases h), (fun _ => rfl), HS5.out⟩
      · rw [not_or] at hbad
        obtain ⟨hO, h16⟩ := hbad
        have hO : O = true := by simpa using hO
        subst hO
        have h16 : out.length = 16 := Decidable.of_not_not h16
        have hne : ((out.length : Int) != 16) = false := by simp; omega
        have HPO : Hid (parseA s.data.toList = some out) := Lib.hid (by
          rw [HPA.out]
          cases hq : readS true s.data.toList with
          | none => have := HOV.out; rw [hq] at this; cases this
          | some b => rw [HRO.out b hq]; simp only; rw [if_pos h16])
        have hown : ∀ k, (Value.slice A out.length c).ownBlock = some k → w3.heap.size ≤ k := fun k hk => (HOW.out.lt k hk).1
        have hrd := HOW.out.rd (h1 := fun _ => rfl) (M := fun _ => False) (fun _ _ => id)
        rw [h16] at hrd
        have HRD := Lib.hid hrd
        clear hrd
        go_wp2_with (with_reducible refine stop (N := 47) rfl ?_)
        refine Stop.go ?_
        refine wp_copyA rfl _ _ _ _ rfl 5 Tryd.underlying38 size_u8 HA4.out HRD.out rfl rfl (by decide) (by omega) ?_
        intro w5 hA5 hs5
        have HA5 := Lib.hid (over_all out h16 ▸ hA5)
        have HR5 := Lib.hid (HR4.out.step hs5 (by omega))
        have HS5 := Lib.hid (HS4.out.then_ hs5 (fun k hk h => absurd h (by omega)))
        clear hA5 hs5
        go_wp2_with (with_reducible refine stop (N := 48) rfl ?_)
        refine Stop.go ?_
        refine wp_loadA rfl _ _ rfl rfl HA5.out Tryd.underlying62 size_addr h16 ?_
        refine wp_storeA rfl _ _ _ rfl rfl rfl HR5.out size_addr h16 rfl ?_
        intro w6 hA6 hs6
        have HA6 := Lib.hid hA6
        have HS6 := Lib.hid (HS5.out.then_ hs6 (fun k hk h => absurd h (by omega)))
        clear hA6 hs6
        go_wp2
        refine bodyPost_ret (results_row_tmp rfl _ _ w.heap.size _ _ _ _ rfl HA6.out Tryd.underlying62 rfl (by rw [cellsA_size, h16]; exact size_addr)) rfl ?_
        rw [HR.out]
        unfold AdrP
        rw [HPO.out]
        exact ⟨_, rfl, h16, (fun a' h => by injection h with h; exact h.symm), (fun h => by cases h), HS6.out⟩
    | some p =>
      obtain ⟨x, y⟩ := p
      have hcut : cut2 s.data.toList = (x, y, true) := by unfold cut2; rw [hg]
      have hlen := gapS_len _ x y hg
      have hsl := size_list s
      have HPA : Hid (parseA s.data.toList = match readS false x, readS true y with
        | some a, some b => if a.length + b.length ≤ 14 then some (a ++ zerosL (16 - a.length - b.length) ++ b) else none
        | _, _ => none) := Lib.hid (by unfold parseA; rw [HD4.out]; simp only [hg]; rfl)
      rw [hcut]
      clear hcut hg
      obtain ⟨xs, hxs⟩ : ∃ xs, xs = strB x := ⟨_, rfl⟩
      obtain ⟨ys, hys⟩ : ∃ ys, ys = strB y := ⟨_, rfl⟩
      have hxl : xs.size = x.length := by rw [hxs, strB_size]
      have hyl : ys.size = y.length := by rw [hys, strB_size]
      have hxd : xs.data.toList = x := by rw [hxs]; simp [strB]
      have hyd : ys.data.toList = y := by rw [hys]; simp [strB]
      have cx := fun W hW => read3_any xs false W (by omega) hW
      have cy := fun W hW => read3_any ys true W (by omega) hW
      rw [hxd] at cx
      rw [hyd] at cy
      rw [← hxs, ← hys]
      clear hxs hys hxd hyd hxl hyl
      go_wp2_with (go_at_call 50; refine stopc ?_)
      refine Stop.go ?_
      refine (cx _ (HM.out.step HS3.out)).mono ?_
      rintro e w4 ⟨v, xo, rfl, hown, hro, hle, hs4⟩
      have HR4 := Lib.hid (HR3.out.step hs4 id)
      have HA4 := Lib.hid (HA3.out.step hs4 id)
      have HS4 := Lib.hid (HS3.out.trans hs4)
      have HOX := Lib.hid hown
      have HRX := Lib.hid hro
      obtain ⟨A, c, rfl, hlc⟩ := HOX.out.form
      obtain ⟨O, hOv⟩ : ∃ O, O = (readS false x).isSome := ⟨_, rfl⟩
      rw [← hOv]
      have HOV := Lib.hid hOv
      clear hs4 hown hro hOv
      go_wp2_with (go_at_call 50; refine stopc ?_)
      refine Stop.go ?_
      refine (cy _ (HM.out.step HS4.out)).mono ?_
      rintro e w5 ⟨v, yo, rfl, hown, hro, hle2, hs5⟩
      have HR5 := Lib.hid (HR4.out.step hs5 id)
      have HA5 := Lib.hid (HA4.out.step hs5 id)
      have HS5 := Lib.hid (HS4.out.trans hs5)
      have HOX5 := Lib.hid (HOX.out.stp0 hs5)
      have HOY := Lib.hid hown
      have HRY := Lib.hid hro
      obtain ⟨A2, c2, rfl, hlc2⟩ := HOY.out.form
      obtain ⟨O2, hOv⟩ : ∃ O, O = (readS true y).isSome := ⟨_, rfl⟩
      rw [← hOv]
      have HOV2 := Lib.hid hOv
      clear hs5 hown hro hOv HOX
      have HNO : Hid ((O = false ∨ O2 = false ∨ ¬ xo.length + yo.length ≤ 14) → parseA s.data.toList = none) := Lib.hid (by
        intro h
        rw [HPA.out]
        cases hq : readS false x with
        | none => rfl
        | some a =>
          cases hq2 : readS true y with
          | none => rfl
          | some b =>
            rcases h with h | h | h
            · have := HOV.out
              rw [hq, h] at this
              cases this
            · have := HOV2.out
              rw [hq2, h] at this
              cases this
            · rw [HRX.out a hq, HRY.out b hq2]
              simp only
              rw [if_neg h])
      have hww : IntKind.i64.wrap ((xo.length : Int) + (yo.length : Int)) = (xo.length : Int) + (yo.length : Int) := IntWalk.i64_in _ (by omega)
      cases O with
      | false =>
        have HN2 := Lib.hid (HNO.out (Or.inl rfl))
        clear HNO
        go_wp2_with (with_reducible refine stop (N := 73) rfl ?_)
        refine Stop.go ?_
        refine wp_loadA rfl _ _ rfl rfl HA5.out Tryd.underlying62 size_addr rfl ?_
        refine wp_storeA rfl _ _ _ rfl rfl rfl HR5.out size_addr rfl rfl ?_
        intro w6 hA6 hs6
        have HA6 := Lib.hid hA6
        have HS6 := Lib.hid (HS5.out.then_ hs6 (fun k hk h => absurd h (by omega)))
        clear hA6 hs6
        go_wp2
        refine bodyPost_ret (results_row_tmp rfl _ _ w.heap.size _ _ _ _ rfl HA6.out Tryd.underlying62 rfl (by rw [cellsA_size]; exact size_addr)) rfl ?_
        rw [HR.out]
        unfold AdrP
        rw [HN2.out]
        exact ⟨_, rfl, rfl, (fun a' h => by cases h), (fun _ => rfl), HS6.out⟩
      | true =>
        cases O2 with
        | false =>
          have HN2 := Lib.hid (HNO.out (Or.inr (Or.inl rfl)))
          clear HNO
          go_wp2_with (with_reducible refine stop (N := 73) rfl ?_)
          refine Stop.go ?_
          refine wp_loadA rfl _ _ rfl rfl HA5.out Tryd.underlying62 size_addr rfl ?_
          refine wp_storeA rfl _ _ _ rfl rfl rfl HR5.out size_addr rfl rfl ?_
          intro w6 hA6 hs6
          have HA6 := Lib.hid hA6
          have HS6 := Lib.hid (HS5.out.then_ hs6 (fun k hk h => absurd h (by omega)))
          clear hA6 hs6
          go_wp2
          refine bodyPost_ret (results_row_tmp rfl _ _ w.heap.size _ _ _ _ rfl HA6.out Tryd.underlying62 rfl (by rw [cellsA_size]; exact size_addr)) rfl ?_
          rw [HR.out]
          unfold AdrP
          rw [HN2.out]
          exact ⟨_, rfl, rfl, (fun a' h => by cases h), (fun _ => rfl), HS6.out⟩
        | true =>
          by_cases h14 : xo.length + yo.length ≤ 14
          · have hdd : decide ((14 : Int) < (xo.length : Int) + (yo.length : Int)) = false := decide_eq_false (by omega)
            have HPO : Hid (parseA s.data.toList = some (xo ++ zerosL (16 - xo.length - yo.length) ++ yo)) := Lib.hid (by
              rw [HPA.out]
              cases hq : readS false x with
              | none => have := HOV.out; rw [hq] at this; cases this
              | some a =>
                cases hq2 : readS true y with
                | none => have := HOV2.out; rw [hq2] at this; cases this
                | some b =>
                  rw [HRX.out a hq, HRY.out b hq2]
                  simp only
                  rw [if_pos h14])
            have hlt4 := HA4.out.lt
            have HRDX := Lib.hid (HOX5.out.rd (h1 := fun _ => rfl) (M := fun _ => False) (fun _ _ => id))
            have HRDY := Lib.hid (HOY.out.rd (h1 := fun _ => rfl) (M := fun k => k = w2.heap.size) (fun k hk h => by have := (HOY.out.lt k hk).1; omega))
            have hl16 : (xo ++ zerosL (16 - xo.length - yo.length) ++ yo).length = 16 := by simp [zerosL]; omega
            have hw1 : IntKind.i64.wrap (16 - (yo.length : Int)) = 16 - (yo.length : Int) := IntWalk.i64_in _ (by omega)
            have hw2 := fun W => slice_tail w2.heap.size yo.length (by omega) W
            clear HNO
            go_wp2_with (with_reducible refine stop (N := 76) rfl ?_)
            refine Stop.go ?_
            refine wp_copyA rfl _ _ _ _ rfl 5 Tryd.underlying38 size_u8 HA5.out HRDX.out rfl rfl (by decide) (by omega) ?_
            intro w6 hA6 hs6
            have HA6 := Lib.hid hA6
            have HR6 := Lib.hid (HR5.out.step hs6 (by omega))
            have HRDY6 := Lib.hid (HRDY.out.stp hs6)
            have HS6 := Lib.hid (HS5.out.then_ hs6 (fun k hk h => absurd h (by omega)))
            clear hA6 hs6
            go_wp2_with (with_reducible refine stop (N := 82) rfl ?_)
            refine Stop.go ?_
            refine wp_copyA rfl _ _ _ _ rfl 5 Tryd.underlying38 size_u8 HA6.out HRDY6.out rfl rfl (by rw [over_len _ _ _ (by simp [zerosL]; omega)]; unfold offT; simp [zerosL]; split <;> omega) (Nat.le_refl _) ?_
            intro w7 hA7 hs7
            rw [over_tail xo yo h14] at hA7
            have HA7 := Lib.hid hA7
            have HR7 := Lib.hid (HR6.out.step hs7 (by omega))
            have HS7 := Lib.hid (HS6.out.then_ hs7 (fun k hk h => absurd h (by omega)))
            clear hA7 hs7
            go_wp2_with (with_reducible refine stop (N := 83) rfl ?_)
            refine Stop.go ?_
            refine wp_loadA rfl _ _ rfl rfl HA7.out Tryd.underlying62 size_addr hl16 ?_
            refine wp_storeA rfl _ _ _ rfl rfl rfl HR7.out size_addr hl16 rfl ?_
            intro w8 hA8 hs8
            have HA8 := Lib.hid hA8
            have HS8 := Lib.hid (HS7.out.then_ hs8 (fun k hk h => absurd h (by omega)))
            clear hA8 hs8
            go_wp2
            refine bodyPost_ret (results_row_tmp rfl _ _ w.heap.size _ _ _ _ rfl HA8.out Tryd.underlying62 rfl (by rw [cellsA_size, hl16]; exact size_addr)) rfl ?_
            rw [HR.out]
            unfold AdrP
            rw [HPO.out]
            exact ⟨_, rfl, hl16, (fun a' h => by injection h with h; exact h.symm), (fun h => by cases h), HS8.out⟩
          · have hdd : decide ((14 : Int) < (xo.length : Int) + (yo.length : Int)) = true := decide_eq_true (by omega)
            have HN2 := Lib.hid (HNO.out (Or.inr (Or.inr h14)))
            clear HNO
            go_wp2_with (with_reducible refine stop (N := 73) rfl ?_)
            refine Stop.go ?_
            refine wp_loadA rfl _ _ rfl rfl HA5.out Tryd.underlying62 size_addr rfl ?_
            refine wp_storeA rfl _ _ _ rfl rfl rfl HR5.out size_addr rfl rfl ?_
            intro w6 hA6 hs6
            have HA6 := Lib.hid hA6
            have HS6 := Lib.hid (HS5.out.then_ hs6 (fun k hk h => absurd h (by omega)))
            clear hA6 hs6
            go_wp2
            refine bodyPost_ret (results_row_tmp rfl _ _ w.heap.size _ _ _ _ rfl HA6.out Tryd.underlying62 rfl (by rw [cellsA_size]; exact size_addr)) rfl ?_
            rw [HR.out]
            unfold AdrP
            rw [HN2.out]
            exact ⟨_, rfl, rfl, (fun a' h => by cases h), (fun _ => rfl), HS6.out⟩
end Go.Proofs.YtdamgdmipfoalaaDoor.L
