/- Layer 13: the document's split of an authority. -/
import Derived.Test.YtgjmaifgkgejgaaGreatDoorWe
import Derived.Test.YtgjmaifgkgejgaaGreatDoorAy
set_option linter.unusedVariables false
set_option linter.unusedSimpArgs false
namespace Go.Proofs.YtgjmaifgkgejgaaGreatDoor.L
open Go.RowKit Go.Proofs

theorem byte_is (b : UInt8) (c : UInt8) (n : Int) (hn : (c.toNat : Int) = n) : ((b.toNat : Int) == n) = decide (b = c) := by
  rw [Bool.eq_iff_iff, beq_iff_eq, decide_eq_true_eq, ← UInt8.toNat_inj]
  omega

set_option maxRecDepth 100000 in
set_option maxHeartbeats 8000000 in
theorem splitR_any (s : ByteArray) (w : World) (hs : s.size < 4294967280) : Calls Tryz.prog 125 #[.string s] w (SplP w (splitH s.data.toList)) := by
  obtain ⟨R, hR⟩ : ∃ R, R = SplP w (splitH s.data.toList) := ⟨_, rfl⟩
  rw [← hR]
  have HR := Lib.hid hR
  clear hR
  have hsl := size_list s
  have cv := fun W => visibleR_any s W (by omega)
  have ca := fun W => hasR_any s 64 W (by omega)
  obtain ⟨vis, hvis⟩ : ∃ b, b = allS visR s.data.toList := ⟨_, rfl⟩
  rw [← hvis] at cv
  obtain ⟨m64, hm64⟩ : ∃ b, b = decide ((64 : UInt8) ∈ s.data.toList) := ⟨_, rfl⟩
  rw [← hm64] at ca
  have HV := Lib.hid hvis
  have HM := Lib.hid hm64
  clear hvis hm64
  go_enter Tryz.func125, Tryz.ntmps125
  go_wp2_with (go_at_call 47; refine stopc ?_)
  refine Stop.go ?_
  refine (cv _).mono ?_
  rintro e w1 ⟨rfl, hs1⟩
  have HS1 := Lib.hid hs1
  clear hs1 cv
  go_wp2_with (go_at_call 154; refine stopc ?_)
  refine Stop.go ?_
  refine (ca _).mono ?_
  rintro e w2 ⟨rfl, rfl⟩
  by_cases h0 : s.data.toList = []
  · have ht : (s.toList == []) = true := by rw [list_eqb]; simp [h0]
    have HD : Hid (splitH s.data.toList = ([], [], 8)) := Lib.hid (by unfold splitH; rw [if_pos (Or.inl h0)])
    clear h0 ca
    go_wp2
    go_ret3
    rw [HR.out, HD.out]
    exact ⟨rfl, HS1.out⟩
  have ht : (s.toList == []) = false := by rw [list_eqb]; simp [h0]
  have hp : 0 < s.size := by
    rw [← hsl]
    exact List.length_pos_iff.2 h0
  have hp2 : (0 : Int) < (s.size : Int) := by omega
  have g0 := get_list s 0 hp
  have b1 := byte_is s[0] 58 58 rfl
  have b2 : (((s[0]).toNat : Int) != 91) = !decide (s[0] = 91) := by rw [bne, byte_is s[0] 91 91 rfl]
  have h58i : s.data.toList[0]? = some 58 ↔ s[0] = 58 := by rw [g0]; simp
  have h91i : s.data.toList[0]? = some 91 ↔ s[0] = 91 := by rw [g0]; simp
  by_cases h58 : s[0] = 58
  · rw [decide_eq_true h58] at b1
    have HD : Hid (splitH s.data.toList = ([], [], 8)) := Lib.hid (by unfold splitH; rw [if_pos (Or.inr (h58i.2 h58))])
    clear h0 h58 ca b2 g0 h58i h91i
    go_wp2
    go_ret3
    rw [HR.out, HD.out]
    exact ⟨rfl, HS1.out⟩
  rw [decide_eq_false h58] at b1
  have n0 : ¬ (s.data.toList = [] ∨ s.data.toList[0]? = some 58) := by rw [not_or]; exact ⟨h0, fun h => h58 (h58i.1 h)⟩
  cases vis with
  | false =>
    have HD : Hid (splitH s.data.toList = ([], [], 3)) := Lib.hid (by unfold splitH; rw [if_neg n0, if_pos (Or.inl HV.out.symm)])
    clear h0 h58 ca b2 g0 h58i h91i n0
    go_wp2
    go_ret3
    rw [HR.out, HD.out]
    exact ⟨rfl, HS1.out⟩
  | true =>
    cases m64 with
    | true =>
      have HD : Hid (splitH s.data.toList = ([], [], 3)) := Lib.hid (by unfold splitH; rw [if_neg n0, if_pos (Or.inr (of_decide_eq_true HM.out.symm))])
      clear h0 h58 ca b2 g0 h58i h91i n0
      go_wp2
      go_ret3
      rw [HR.out, HD.out]
      exact ⟨rfl, HS1.out⟩
    | false =>
      have hdn : splitH s.data.toList = if s.data.toList[0]? ≠ some 91 then ((untilC 58 s.data.toList).1, (untilC 58 s.data.toList).2, (0 : Int))
          else match parseA (untilC 93 (s.data.toList.drop 1)).1 with
            | some a => if (untilC 93 (s.data.toList.drop 1)).2 = [] ∨ (58 : UInt8) ∉ (untilC 93 (s.data.toList.drop 1)).1 then ([], [], 3) else (printA a, (untilC 93 (s.data.toList.drop 1)).2.drop 1, 0)
            | none => ([], [], 3) := by
        conv => lhs; unfold splitH
        rw [if_neg n0, if_neg (by rw [not_or, ← HV.out]; exact ⟨by decide, of_decide_eq_false HM.out.symm⟩)]
        rfl
      by_cases h91 : s[0] = 91
      · rw [decide_eq_true h91] at b2
        rw [if_neg (fun h => h (h91i.2 h91))] at hdn
        have b2' : (((s[0]).toNat : Int) != 91) = false := b2
        have hp1 : (1 : Int) ≤ (s.size : Int) := by omega
        obtain ⟨t, htt⟩ : ∃ t, t = strB (s.data.toList.drop 1) := ⟨_, rfl⟩
        have hex : s.extract 1 s.size = t := by rw [htt, ext_from]
        have htl : t.data.toList = s.data.toList.drop 1 := by rw [htt]; simp [strB]
        have hts : t.size ≤ s.size := by rw [htt, strB_size, List.length_drop, size_list]; omega
        have cu := fun W => untilR_any t 93 W (by omega)
        rw [htl] at cu
        obtain ⟨q, hq⟩ : ∃ q, q = untilC 93 (s.data.toList.drop 1) := ⟨_, rfl⟩
        rw [← hq] at cu hdn
        have hql : q.1.length ≤ s.size ∧ (q.2 = [] ∨ ∃ y, q.2 = 93 :: y) := by
          rw [hq]
          rcases untilC_cases 93 (s.data.toList.drop 1) with ⟨hno, hu⟩ | ⟨x, y, hxy, hno, hu⟩
          · rw [hu]
            exact ⟨by simp <;> omega, Or.inl rfl⟩
          · rw [hu]
            refine ⟨?_, Or.inr ⟨y, rfl⟩⟩
            have := congrArg List.length hxy
            simp at this ⊢
            omega
        obtain ⟨x, r⟩ := q
        simp only at cu hdn hql
        obtain ⟨xs, hx⟩ : ∃ xs, xs = strB x := ⟨_, rfl⟩
        obtain ⟨rs, hr⟩ : ∃ rs, rs = strB r := ⟨_, rfl⟩
        have hxs : xs.size < 4294967281 := by rw [hx, strB_size]; omega
        have hxd : xs.data.toList = x := by rw [hx]; simp [strB]
        have hrd : rs.data.toList = r := by rw [hr]; simp [strB]
        rw [← hx, ← hr] at cu
        have cA := fun W => aparseR_any xs W hxs
        have cC := fun W => hasR_any xs 58 W (by omega)
        rw [hxd] at cA cC
        obtain ⟨O, hO⟩ : ∃ O, O = (parseA x).isSome := ⟨_, rfl⟩
        unfold AdrP at cA
        simp only [← hO] at cA
        obtain ⟨cl, hcl⟩ : ∃ b, b = decide ((58 : UInt8) ∈ x) := ⟨_, rfl⟩
        rw [← hcl] at cC
        have HOV := Lib.hid hO
        have HDN := Lib.hid hdn
        have HCL := Lib.hid hcl
        have HRD := Lib.hid hrd
        have HQL := Lib.hid hql.2
        have htr : (rs.toList == []) = decide (r = []) := by rw [list_eqb, hrd]
        have HRX : Hid (rs.extract 1 rs.size = strB (r.drop 1)) := Lib.hid (by rw [ext_from, hrd])
        have hrs1 : r ≠ [] → 1 ≤ rs.size := fun h => by
          rw [hr, strB_size]
          exact List.length_pos_iff.2 h
        clear h0 h58 h91 ca g0 h58i h91i n0 hdn hq hx hxd hO hcl hr hrd hql htt htl hts b2
        go_wp2_with (go_at_call 155; refine stopc ?_)
        refine Stop.go ?_
        refine (cu _).mono ?_
        rintro e w3 ⟨rfl, hs3⟩
        have HS3 := Lib.hid (HS1.out.trans hs3)
        clear hs3
        go_wp2_with (go_at_call 91; refine stopc ?_)
        refine Stop.go ?_
        refine (cA _).mono ?_
        rintro e w4 ⟨a, rfl, hal, hsome, -, hs4⟩
        have HS4 := Lib.hid (HS3.out.trans hs4)
        have HAL := Lib.hid hal
        have HSO := Lib.hid hsome
        clear hs4 hal hsome
        go_wp2_with (refine wp_storeA rfl _ _ _ rfl rfl rfl (arr_new _ _ _ (zerosL 16) rfl) size_addr HAL.out rfl ?_; intro w5 hA5 hs5; refine stopw ?_)
        refine Stop.go ?_
        have HS5 := Lib.hid ((HS4.out.alloc _).then_ hs5 (fun k hk h => absurd h (by have := HS4.out.size; omega)))
        have HA5 := Lib.hid hA5
        clear hs5 hA5
        go_wp2_with (go_at_call 154; refine stopc ?_)
        refine Stop.go ?_
        refine (cC _).mono ?_
        rintro e w6 ⟨rfl, rfl⟩
        have HNO : Hid ((r = [] ∨ O = false ∨ cl = false) → splitH s.data.toList = ([], [], 3)) := Lib.hid (by
          intro h
          rw [HDN.out]
          cases hq : parseA x with
          | none => rfl
          | some b =>
            simp only
            rw [if_pos]
            rcases h with h | h | h
            · exact Or.inl h
            · have := HOV.out
              rw [hq, h] at this
              cases this
            · exact Or.inr (of_decide_eq_false (by rw [← HCL.out]; exact h)))
        by_cases hr0 : r = []
        · rw [decide_eq_true hr0] at htr
          have HD := Lib.hid (HNO.out (Or.inl hr0))
          clear hr0 HNO hrs1
          go_wp2
          go_ret3
          rw [HR.out, HD.out]
          exact ⟨rfl, HS5.out⟩
        · rw [decide_eq_false hr0] at htr
          have hr1 := hrs1 hr0
          have hr2 : (1 : Int) ≤ (rs.size : Int) := by omega
          cases O with
          | false =>
            have HD := Lib.hid (HNO.out (Or.inr (Or.inl rfl)))
            clear hr0 HNO hrs1
            go_wp2
            go_ret3
            rw [HR.out, HD.out]
            exact ⟨rfl, HS5.out⟩
          | true =>
            cases cl with
            | false =>
              have HD := Lib.hid (HNO.out (Or.inr (Or.inr rfl)))
              clear hr0 HNO hrs1
              go_wp2
              go_ret3
              rw [HR.out, HD.out]
              exact ⟨rfl, HS5.out⟩
            | true =>
              have hpa : parseA x = some a := by
                cases hq : parseA x with
                | none => have := HOV.out; rw [hq] at this; cases this
                | some b => rw [HSO.out b hq]
              have HD : Hid (splitH s.data.toList = (printA a, r.drop 1, 0)) := Lib.hid (by
                rw [HDN.out, hpa]
                simp only
                rw [if_neg (by rw [not_or]; exact ⟨hr0, fun h => h (of_decide_eq_true HCL.out.symm)⟩)])
              clear hr0 HNO hrs1 hpa
              go_wp2
              refine wp_region_held_drew (S := Arr w4.heap.size 76 a) (by kernel_rfl) (HA5.out.drew) (fun hHeld => ?_)
              try (change wpAnyH _ _ _ _ _ _ _ _ (World.drew _))
              refine rg_take (i := 0) (o := { dst := some 63, op := Op.load 76 (Operand.tmp 11), type := 76, pos := "ref.go:51", after := #[], guard := none }) (v := (.agg (cellsA a))) rfl (by kernel_rfl) (by kernel_rfl) (by kernel_rfl) (fun _ _ _ h => h) (by rfl) (fun w hSw => exec_loadC _ _ (by rfl) (by rfl) _ Tryz.underlying76 size_addr HAL.out (fun j hj => hSw.cell j hj)) hHeld ?_
              try simp only [Act.put, List.setIfInBounds_toArray, List.set_cons_zero, List.set_cons_succ]
              refine rg_take (i := 2) (o := { dst := some 65, op := Op.move (Operand.tmp 10), type := 9, pos := "ref.go:51", after := #[], guard := none }) (v := ?rgv2) rfl (by kernel_rfl) (by kernel_rfl) (by kernel_rfl) (fun _ _ _ h => h) (by rfl) (fun w hSw => ?rgy2) hHeld ?_
              case rgy2 => (try dsimp only at hSw); first | (go_simp; done) | (go_simp; with_reducible rfl)
              try simp only [Act.put, List.setIfInBounds_toArray, List.set_cons_zero, List.set_cons_succ]
              refine rg_take (i := 3) (o := { dst := some 66, op := Op.slice 9 (Operand.tmp 65) (some (Operand.const (Value.int IntKind.i64 1))) none none, type := 9, pos := "ref.go:51", after := #[{ on := 2, ground := Ground.data }], guard := none }) (v := ?rgv3) rfl (by kernel_rfl) (by kernel_rfl) (by kernel_rfl) (fun _ _ _ h => h) (by rfl) (fun w hSw => ?rgy3) hHeld ?_
              case rgy3 => (try dsimp only at hSw); first | (go_simp; done) | (go_simp; with_reducible rfl)
              try simp only [Act.put, List.setIfInBounds_toArray, List.set_cons_zero, List.set_cons_succ]
              refine wpAnyH_ready (rs := [1]) (by kernel_rfl) (by simp) ?_
              refine (AllReadyH.cons (o := { dst := some 64, op := Op.call { callee := Callee.value (Operand.func 92), args := #[Operand.tmp 63], argTypes := #[76] }, type := 9, pos := "ref.go:51", after := #[{ on := 0, ground := Ground.data }], guard := none }) rfl (fun K hK => ?_) AllReadyH.nil)
              go_simp
              refine (aprintR_any a HAL.out _).mono ?_
              rintro e w7 ⟨rfl, hs7⟩
              have HA7 := Lib.hid (HA5.out.drew.step hs7 id)
              have HS7 := Lib.hid (HS5.out.drew.trans hs7)
              clear hs7
              show K _ _
              clear hHeld
              refine hK.out _ _ (HA7.out) (fun hHeld => ?_)
              clear hK K
              try simp only [Act.put, List.setIfInBounds_toArray, List.set_cons_zero, List.set_cons_succ]
              refine rg_take (i := 4) (o := { dst := some 2, op := Op.assign (Operand.tmp 64), type := 9, pos := "ref.go:51", after := #[{ on := 1, ground := Ground.data }, { on := 1, ground := Ground.chain }, { on := 0, ground := Ground.phase }, { on := 1, ground := Ground.phase }, { on := 2, ground := Ground.textOnly Departure.lateStores }, { on := 3, ground := Ground.textOnly Departure.lateStoresUnsure }], guard := none }) (v := ?rgv4) rfl (by kernel_rfl) (by kernel_rfl) (by kernel_rfl) (fun _ _ _ h => h) (by rfl) (fun w hSw => ?rgy4) hHeld ?_
              case rgy4 => (try dsimp only at hSw); first | (go_simp; done) | (go_simp; with_reducible rfl)
              try simp only [Act.put, List.setIfInBounds_toArray, List.set_cons_zero, List.set_cons_succ]
              refine rg_take (i := 5) (o := { dst := some 3, op := Op.assign (Operand.tmp 66), type := 9, pos := "ref.go:51", after := #[{ on := 3, ground := Ground.data }, { on := 4, ground := Ground.chain }, { on := 0, ground := Ground.phase }, { on := 1, ground := Ground.phase }, { on := 2, ground := Ground.phase }, { on := 3, ground := Ground.phase }, { on := 4, ground := Ground.phase }], guard := none }) (v := ?rgv5) rfl (by kernel_rfl) (by kernel_rfl) (by kernel_rfl) (fun _ _ _ h => h) (by rfl) (fun w hSw => ?rgy5) hHeld ?_
              case rgy5 => (try dsimp only at hSw); first | (go_simp; done) | (go_simp; with_reducible rfl)
              try simp only [Act.put, List.setIfInBounds_toArray, List.set_cons_zero, List.set_cons_succ]
              refine rg_take (i := 6) (o := { dst := some 4, op := Op.assign (Operand.const (Value.int IntKind.i64 0)), type := 25, pos := "ref.go:51", after := #[{ on := 5, ground := Ground.chain }, { on := 0, ground := Ground.phase }, { on := 1, ground := Ground.phase }, { on := 2, ground := Ground.phase }, { on := 3, ground := Ground.phase }, { on := 4, ground := Ground.phase }, { on := 5, ground := Ground.phase }], guard := none }) (v := ?rgv6) rfl (by kernel_rfl) (by kernel_rfl) (by kernel_rfl) (fun _ _ _ h => h) (by rfl) (fun w hSw => ?rgy6) hHeld ?_
              case rgy6 => (try dsimp only at hSw); first | (go_simp; done) | (go_simp; with_reducible rfl)
              try simp only [Act.put, List.setIfInBounds_toArray, List.set_cons_zero, List.set_cons_succ]
              clear hHeld
              refine wpAnyH_done (by kernel_rfl) ?_ _
              skip
              go_wp2
              go_ret3
              rw [HR.out, HD.out, HRX.out]
              exact ⟨rfl, HS7.out⟩
      · rw [decide_eq_false h91] at b2
        rw [if_pos (fun h => h91 (h91i.1 h))] at hdn
        have b2' : (((s[0]).toNat : Int) != 91) = true := b2
        have cu := fun W => untilR_any s 58 W (by omega)
        obtain ⟨q, hq⟩ : ∃ q, q = untilC 58 s.data.toList := ⟨_, rfl⟩
        rw [← hq] at cu hdn
        have HD := Lib.hid hdn
        clear h0 h58 h91 ca g0 h58i h91i n0 hdn hq b2
        go_wp2_with (go_at_call 155; refine stopc ?_)
        refine Stop.go ?_
        refine (cu _).mono ?_
        rintro e w3 ⟨rfl, hs3⟩
        have HS3 := Lib.hid (HS1.out.trans hs3)
        clear hs3
        go_wp2
        go_ret3
        rw [HR.out, HD.out]
        exact ⟨rfl, HS3.out⟩
end Go.Proofs.YtgjmaifgkgejgaaGreatDoor.L

/-! Layer 13: the document's Parse, Print, Of. -/
namespace Go.Proofs.YtgjmaifgkgejgaaGreatDoor.L
open Go.RowKit Go.Proofs

set_option maxRecDepth 100000 in
set_option maxHeartbeats 4000000 in
theorem hparseR_any (s : ByteArray) (w : World) (hs : s.size < 4294967280) : Calls Tryz.prog 90 #[.string s] w (HpP w (hpS s.data.toList)) := by
  obtain ⟨R, hR⟩ : ∃ R, R = HpP w (hpS s.data.toList) := ⟨_, rfl⟩
  rw [← hR]
  have HR := Lib.hid hR
  have hsl := size_list s
  have cs := fun W => splitR_any s W hs
  have hlen := split_len s.data.toList
  obtain ⟨H, hH⟩ : ∃ H, H = (splitH s.data.toList).1 := ⟨_, rfl⟩
  obtain ⟨r, hr⟩ : ∃ r, r = (splitH s.data.toList).2.1 := ⟨_, rfl⟩
  obtain ⟨q, hq⟩ : ∃ q, q = (splitH s.data.toList).2.2 := ⟨_, rfl⟩
  unfold SplP at cs
  rw [← hr] at hlen
  simp only [← hH, ← hr, ← hq] at cs
  have HD : Hid (hpS s.data.toList = if q ≠ 0 then ([], 0, q) else tailH H r) := Lib.hid (by unfold hpS; rw [← hH, ← hr, ← hq])
  obtain ⟨hb, hhb⟩ : ∃ hb, hb = strB H := ⟨_, rfl⟩
  obtain ⟨rb, hrb⟩ : ∃ rb, rb = strB r := ⟨_, rfl⟩
  have hrd : rb.data.toList = r := by rw [hrb]; simp [strB]
  have hrs : rb.size < 4294967280 := by rw [hrb, strB_size]; omega
  simp only [← hhb, ← hrb] at cs
  have HHB := Lib.hid hhb
  clear hR hH hr hq hhb hrb
  by_cases hq0 : q = 0
  · have hqq : (q != 0) = false := by rw [hq0]; rfl
    have HT : Hid (hpS s.data.toList = tailH H r) := Lib.hid (by rw [HD.out, if_neg (fun h => h hq0)])
    clear hq0 HD
    by_cases hr0 : r = []
    · have ht : (rb.toList == []) = true := by rw [list_eqb, hrd]; simp [hr0]
      have HD : Hid (hpS s.data.toList = (H, 0, 0)) := Lib.hid (by rw [HT.out]; unfold tailH; rw [if_pos hr0])
      clear hr0 hrd
      go_enter Tryz.func90, Tryz.ntmps90
      go_wp2_with (go_at_call 125; refine stopc ?_)
      refine Stop.go ?_
      refine (cs _).mono ?_
      rintro e w1 ⟨rfl, hs1⟩
      have HS1 := Lib.hid hs1
      clear hs1
      go_wp2
      go_ret3
      rw [HR.out, HD.out, HHB.out]
      exact ⟨rfl, HS1.out⟩
    · have ht : (rb.toList == []) = false := by rw [list_eqb, hrd]; simp [hr0]
      have hp0 : 0 < rb.size := by
        rw [← size_list, hrd]
        exact List.length_pos_iff.2 hr0
      have g0 := get_list rb 0 hp0
      rw [hrd] at g0
      have hp00 : (0 : Int) < (rb.size : Int) := by omega
      have b1 : (((rb[0]).toNat : Int) != 58) = !decide (r[0]? = some 58) := by
        rw [bne, byte_is rb[0] 58 58 rfl, g0]
        simp
      by_cases h58 : r[0]? = some 58
      · rw [decide_eq_true h58] at b1
        have b1' : (((rb[0]).toNat : Int) != 58) = false := b1
        have hp1 : 1 ≤ rb.size := len_pos rb 58 (by rw [hrd]; exact h58)
        have hp2 : (1 : Int) ≤ (rb.size : Int) := by omega
        obtain ⟨t, htt⟩ : ∃ t, t = strB (r.drop 1) := ⟨_, rfl⟩
        have hx : rb.extract 1 rb.size = t := by rw [htt, ext_from, hrd]
        have htd : t.data.toList = r.drop 1 := by rw [htt]; simp [strB]
        have hts : t.size ≤ rb.size := by rw [htt, strB_size, List.length_drop, ← hrd, size_list]; omega
        have cn := fun W => numberR_any t 65535 W (by omega)
        rw [htd] at cn
        unfold NumRet at cn
        have HX := Lib.hid hx
        have HD : Hid (hpS s.data.toList = if (numS (r.drop 1) 65535).2 = false ∨ (numS (r.drop 1) 65535).1 = 0 then ([], 0, 10) else (H, (numS (r.drop 1) 65535).1, 0)) := Lib.hid (by rw [HT.out]; unfold tailH; rw [if_neg hr0, if_neg (fun h => h h58)])
        obtain ⟨n, hn⟩ : ∃ n, n = (numS (r.drop 1) 65535).1 := ⟨_, rfl⟩
        obtain ⟨ok, hok⟩ : ∃ ok, ok = (numS (r.drop 1) 65535).2 := ⟨_, rfl⟩
        rw [← hn, ← hok] at HD
        simp only [← hn, ← hok] at cn
        clear hr0 h58 hp1 htt htd hx hn hok HT hrd hts g0 b1
        have key : ∀ (w1 : World) (R' : Prop), R' → R' := fun _ _ h => h
        cases ok with
        | false =>
          have HDD : Hid (hpS s.data.toList = ([], 0, 10)) := Lib.hid (by rw [HD.out, if_pos (Or.inl rfl)])
          clear HD key
          go_enter Tryz.func90, Tryz.ntmps90
          go_wp2_with (go_at_call 125; refine stopc ?_)
          refine Stop.go ?_
          refine (cs _).mono ?_
          rintro e w1 ⟨rfl, hs1⟩
          have HS1 := Lib.hid hs1
          clear hs1
          go_wp2_with (go_at_call 126; refine stopc ?_)
          refine Stop.go ?_
          rw [HX.out]
          refine (cn _).mono ?_
          rintro e w3 ⟨rfl, hs3⟩
          have HS3 := Lib.hid (HS1.out.trans hs3)
          clear hs3
          go_wp2
          go_ret3
          rw [HR.out, HDD.out]
          exact ⟨rfl, HS3.out⟩
        | true =>
          by_cases hn0 : n = 0
          · have hnn : (n == 0) = true := by rw [hn0]; rfl
            have HDD : Hid (hpS s.data.toList = ([], 0, 10)) := Lib.hid (by rw [HD.out, if_pos (Or.inr hn0)])
            clear HD key hn0
            go_enter Tryz.func90, Tryz.ntmps90
            go_wp2_with (go_at_call 125; refine stopc ?_)
            refine Stop.go ?_
            refine (cs _).mono ?_
            rintro e w1 ⟨rfl, hs1⟩
            have HS1 := Lib.hid hs1
            clear hs1
            go_wp2_with (go_at_call 126; refine stopc ?_)
            refine Stop.go ?_
            rw [HX.out]
            refine (cn _).mono ?_
            rintro e w3 ⟨rfl, hs3⟩
            have HS3 := Lib.hid (HS1.out.trans hs3)
            clear hs3
            go_wp2
            go_ret3
            rw [HR.out, HDD.out]
            exact ⟨rfl, HS3.out⟩
          · have hnn : (n == 0) = false := by simpa using hn0
            have HDD : Hid (hpS s.data.toList = (H, n, 0)) := Lib.hid (by rw [HD.out, if_neg (by rw [not_or]; exact ⟨by decide, hn0⟩)])
            clear HD key hn0
            go_enter Tryz.func90, Tryz.ntmps90
            go_wp2_with (go_at_call 125; refine stopc ?_)
            refine Stop.go ?_
            refine (cs _).mono ?_
            rintro e w1 ⟨rfl, hs1⟩
            have HS1 := Lib.hid hs1
            clear hs1
            go_wp2_with (go_at_call 126; refine stopc ?_)
            refine Stop.go ?_
            rw [HX.out]
            refine (cn _).mono ?_
            rintro e w3 ⟨rfl, hs3⟩
            have HS3 := Lib.hid (HS1.out.trans hs3)
            clear hs3
            go_wp2
            go_ret3
            rw [HR.out, HDD.out, HHB.out]
            exact ⟨rfl, HS3.out⟩
      · rw [decide_eq_false h58] at b1
        have b1' : (((rb[0]).toNat : Int) != 58) = true := b1
        have HD : Hid (hpS s.data.toList = ([], 0, 3)) := Lib.hid (by rw [HT.out]; unfold tailH; rw [if_neg hr0, if_pos h58])
        clear hr0 h58 hrd g0 b1
        go_enter Tryz.func90, Tryz.ntmps90
        go_wp2_with (go_at_call 125; refine stopc ?_)
        refine Stop.go ?_
        refine (cs _).mono ?_
        rintro e w1 ⟨rfl, hs1⟩
        have HS1 := Lib.hid hs1
        clear hs1
        go_wp2
        go_ret3
        rw [HR.out, HD.out]
        exact ⟨rfl, HS1.out⟩
  · have hqq : (q != 0) = true := by simpa using hq0
    have HDD : Hid (hpS s.data.toList = ([], 0, q)) := Lib.hid (by rw [HD.out, if_pos hq0])
    clear hq0 HD hrd
    go_enter Tryz.func90, Tryz.ntmps90
    go_wp2_with (go_at_call 125; refine stopc ?_)
    refine Stop.go ?_
    refine (cs _).mono ?_
    rintro e w1 ⟨rfl, hs1⟩
    have HS1 := Lib.hid hs1
    clear hs1
    go_wp2
    go_ret3
    rw [HR.out, HDD.out]
    exact ⟨rfl, HS1.out⟩

set_option maxRecDepth 100000 in
set_option maxHeartbeats 4000000 in
theorem ofR_any (M : Nat → Prop) (v : Value) (xs : List (ByteArray × ByteArray)) (m t : ByteArray) (n : Int) (w : World) (hx : Rd fldK M w v xs) (hl : xs.length ≤ 1000000000) (hz : (findF hostL (flS xs)).1.length < 4294967280) (ht : t.size < 4294967280) :
    Calls Tryz.prog 48 #[.agg #[.string m, .string t, .int .i64 n], v] w (HpP w (ofS m.data.toList t.data.toList (flS xs))) := by
  obtain ⟨R, hR⟩ : ∃ R, R = HpP w (ofS m.data.toList t.data.toList (flS xs)) := ⟨_, rfl⟩
  rw [← hR]
  have HR := Lib.hid hR
  have HX := Lib.hid hx
  obtain ⟨A, c, rfl, hle⟩ := hx.form
  have cf := fun W hW => findR_any M (.slice A xs.length c) xs hostB W hW (by decide) (by omega)
  have hlow : lowS hostB.data.toList = hostL := by decide
  unfold hostB at cf hlow
  unfold FindV at cf
  rw [hlow] at cf
  obtain ⟨q, hq⟩ : ∃ q, q = findF hostL (flS xs) := ⟨_, rfl⟩
  have hql : q.1.length < 4294967280 := by
    rw [hq]
    exact hz
  have hqn : q.2 ≤ xs.length := by
    rw [hq]
    have := findF_len hostL (flS xs)
    simpa [flS] using this
  have hof : ofS m.data.toList t.data.toList (flS xs) = if formS m.data.toList t.data.toList = 4 then ([], 0, 11) else if formS m.data.toList t.data.toList = 0 then ([], 0, 3) else if 1 < q.2 then ([], 0, 7)
      else if formS m.data.toList t.data.toList = 2 then hpS (authS t.data.toList).1 else if q.2 = 0 then ([], 0, 8) else hpS q.1 := by rw [hq]; rfl
  simp only [← hq] at cf
  have cF := fun W => formR_any m t n W (by omega)
  have hvals := form_vals m.data.toList t.data.toList
  obtain ⟨f, hf⟩ : ∃ f, f = formS m.data.toList t.data.toList := ⟨_, rfl⟩
  rw [← hf] at cF hof hvals
  have cA := fun W => authR_any t W (by omega)
  have hal : (authS t.data.toList).1.length ≤ t.size := by
    unfold authS
    split
    · have := List.takeWhile_sublist (fun c => !isEnd c) (l := t.data.toList.drop 7)
      have := this.length_le
      rw [List.length_drop, size_list] at this
      show (uptoEnd _).length ≤ _
      unfold uptoEnd
      omega
    · simp
  obtain ⟨S, hS⟩ : ∃ S, S = strB q.1 := ⟨_, rfl⟩
  obtain ⟨U, hU⟩ : ∃ U, U = strB (authS t.data.toList).1 := ⟨_, rfl⟩
  obtain ⟨ub, hub⟩ : ∃ ub, ub = (authS t.data.toList).2 := ⟨_, rfl⟩
  simp only [← hU, ← hub] at cA
  have hSd : S.data.toList = q.1 := by rw [hS]; simp [strB]
  have hUd : U.data.toList = (authS t.data.toList).1 := by rw [hU]; simp [strB]
  have cS := fun W => hparseR_any S W (by rw [hS, strB_size]; exact hql)
  have cU := fun W => hparseR_any U W (by rw [hU, strB_size]; omega)
  rw [hSd] at cS
  rw [hUd] at cU
  unfold HpP at cS cU
  rw [← hS] at cf
  obtain ⟨k, hk⟩ : ∃ k, k = q.2 := ⟨_, rfl⟩
  rw [← hk] at cf hof hqn
  have HOF := Lib.hid hof
  clear hR hx hlow hq hql hof hf hal hS hU hub hSd hUd hk
  rcases hvals with rfl | rfl | rfl | rfl | rfl
  · have HD : Hid (ofS m.data.toList t.data.toList (flS xs) = ([], 0, 3)) := Lib.hid (by rw [HOF.out, if_neg (by decide), if_pos rfl])
    go_enter Tryz.func48, Tryz.ntmps48
    go_wp2_with (go_at_call 87; refine stopc ?_)
    refine Stop.go ?_
    refine (cf _ (HX.out.stp0 ((Stp.refl _ _).alloc _))).mono ?_
    rintro e w1 ⟨rfl, hs1⟩
    have HB := Lib.hid (hs1.blk (heap_alloc_new w (.cells #[.string m, .string t, .int .i64 n] 40)) id)
    have HS1 := Lib.hid (((Stp.refl (fun _ => False) w).alloc _).trans hs1)
    clear hs1
    have hcq : w1.cell? ⟨w.heap.size, 1, none⟩ = some (.string t) := blk_cell (j := 1) HB.out
    go_wp2_with (go_at_call 88; refine stopc ?_)
    refine Stop.go ?_
    refine (cA _).mono ?_
    rintro e wa ⟨rfl, hsa⟩
    have HBa := Lib.hid (hsa.blk HB.out id)
    have HSa := Lib.hid (HS1.out.trans hsa)
    clear hsa hcq
    go_wp2_with (with_reducible refine stop (N := 23) rfl ?_)
    refine Stop.go ?_
    refine wpList_load_row rfl _ _ rfl _ rfl _ _ (0, 0) _ HBa.out Tryz.underlying40 rfl (by kernel_rfl) ?_
    go_wp2_with (go_at_call 89; refine stopc ?_)
    refine Stop.go ?_
    refine (cF _).mono ?_
    rintro e w2 ⟨rfl, hs2⟩
    have HB2 := Lib.hid (hs2.blk HBa.out id)
    have HS2 := Lib.hid (HSa.out.trans hs2)
    clear hs2 HB HS1 HBa HSa
    go_wp2
    go_ret3
    rw [HR.out, HD.out]
    exact ⟨rfl, HS2.out⟩
  · skip
    by_cases k1 : 1 < k
    · have kk : decide ((1 : Int) < (k : Int)) = true := decide_eq_true (by omega)
      have HD : Hid (ofS m.data.toList t.data.toList (flS xs) = ([], 0, 7)) := Lib.hid (by rw [HOF.out, if_neg (by decide), if_neg (by decide), if_pos k1])
      clear k1
      go_enter Tryz.func48, Tryz.ntmps48
      go_wp2_with (go_at_call 87; refine stopc ?_)
      refine Stop.go ?_
      refine (cf _ (HX.out.stp0 ((Stp.refl _ _).alloc _))).mono ?_
      rintro e w1 ⟨rfl, hs1⟩
      have HB := Lib.hid (hs1.blk (heap_alloc_new w (.cells #[.string m, .string t, .int .i64 n] 40)) id)
      have HS1 := Lib.hid (((Stp.refl (fun _ => False) w).alloc _).trans hs1)
      clear hs1
      have hcq : w1.cell? ⟨w.heap.size, 1, none⟩ = some (.string t) := blk_cell (j := 1) HB.out
      go_wp2_with (go_at_call 88; refine stopc ?_)
      refine Stop.go ?_
      refine (cA _).mono ?_
      rintro e wa ⟨rfl, hsa⟩
      have HBa := Lib.hid (hsa.blk HB.out id)
      have HSa := Lib.hid (HS1.out.trans hsa)
      clear hsa hcq
      go_wp2_with (with_reducible refine stop (N := 23) rfl ?_)
      refine Stop.go ?_
      refine wpList_load_row rfl _ _ rfl _ rfl _ _ (0, 0) _ HBa.out Tryz.underlying40 rfl (by kernel_rfl) ?_
      go_wp2_with (go_at_call 89; refine stopc ?_)
      refine Stop.go ?_
      refine (cF _).mono ?_
      rintro e w2 ⟨rfl, hs2⟩
      have HB2 := Lib.hid (hs2.blk HBa.out id)
      have HS2 := Lib.hid (HSa.out.trans hs2)
      clear hs2 HB HS1 HBa HSa
      go_wp2
      go_ret3
      rw [HR.out, HD.out]
      exact ⟨rfl, HS2.out⟩
    · have kk : decide ((1 : Int) < (k : Int)) = false := decide_eq_false (by omega)
      by_cases k0 : k = 0
      · have HD : Hid (ofS m.data.toList t.data.toList (flS xs) = ([], 0, 8)) := Lib.hid (by rw [HOF.out, if_neg (by decide), if_neg (by decide), if_neg k1, if_neg (by decide), if_pos k0])
        subst k0
        clear k1
        go_enter Tryz.func48, Tryz.ntmps48
        go_wp2_with (go_at_call 87; refine stopc ?_)
        refine Stop.go ?_
        refine (cf _ (HX.out.stp0 ((Stp.refl _ _).alloc _))).mono ?_
        rintro e w1 ⟨rfl, hs1⟩
        have HB := Lib.hid (hs1.blk (heap_alloc_new w (.cells #[.string m, .string t, .int .i64 n] 40)) id)
        have HS1 := Lib.hid (((Stp.refl (fun _ => False) w).alloc _).trans hs1)
        clear hs1
        have hcq : w1.cell? ⟨w.heap.size, 1, none⟩ = some (.string t) := blk_cell (j := 1) HB.out
        go_wp2_with (go_at_call 88; refine stopc ?_)
        refine Stop.go ?_
        refine (cA _).mono ?_
        rintro e wa ⟨rfl, hsa⟩
        have HBa := Lib.hid (hsa.blk HB.out id)
        have HSa := Lib.hid (HS1.out.trans hsa)
        clear hsa hcq
        go_wp2_with (with_reducible refine stop (N := 23) rfl ?_)
        refine Stop.go ?_
        refine wpList_load_row rfl _ _ rfl _ rfl _ _ (0, 0) _ HBa.out Tryz.underlying40 rfl (by kernel_rfl) ?_
        go_wp2_with (go_at_call 89; refine stopc ?_)
        refine Stop.go ?_
        refine (cF _).mono ?_
        rintro e w2 ⟨rfl, hs2⟩
        have HB2 := Lib.hid (hs2.blk HBa.out id)
        have HS2 := Lib.hid (HSa.out.trans hs2)
        clear hs2 HB HS1 HBa HSa
        go_wp2
        go_ret3
        rw [HR.out, HD.out]
        exact ⟨rfl, HS2.out⟩
      · have kz : ((k : Int) == 0) = false := by simp; omega
        have HD : Hid (ofS m.data.toList t.data.toList (flS xs) = hpS q.1) := Lib.hid (by rw [HOF.out, if_neg (by decide), if_neg (by decide), if_neg k1, if_neg (by decide), if_neg k0])
        clear k1 k0
        go_enter Tryz.func48, Tryz.ntmps48
        go_wp2_with (go_at_call 87; refine stopc ?_)
        refine Stop.go ?_
        refine (cf _ (HX.out.stp0 ((Stp.refl _ _).alloc _))).mono ?_
        rintro e w1 ⟨rfl, hs1⟩
        have HB := Lib.hid (hs1.blk (heap_alloc_new w (.cells #[.string m, .string t, .int .i64 n] 40)) id)
        have HS1 := Lib.hid (((Stp.refl (fun _ => False) w).alloc _).trans hs1)
        clear hs1
        have hcq : w1.cell? ⟨w.heap.size, 1, none⟩ = some (.string t) := blk_cell (j := 1) HB.out
        go_wp2_with (go_at_call 88; refine stopc ?_)
        refine Stop.go ?_
        refine (cA _).mono ?_
        rintro e wa ⟨rfl, hsa⟩
        have HBa := Lib.hid (hsa.blk HB.out id)
        have HSa := Lib.hid (HS1.out.trans hsa)
        clear hsa hcq
        go_wp2_with (with_reducible refine stop (N := 23) rfl ?_)
        refine Stop.go ?_
        refine wpList_load_row rfl _ _ rfl _ rfl _ _ (0, 0) _ HBa.out Tryz.underlying40 rfl (by kernel_rfl) ?_
        go_wp2_with (go_at_call 89; refine stopc ?_)
        refine Stop.go ?_
        refine (cF _).mono ?_
        rintro e w2 ⟨rfl, hs2⟩
        have HB2 := Lib.hid (hs2.blk HBa.out id)
        have HS2 := Lib.hid (HSa.out.trans hs2)
        clear hs2 HB HS1 HBa HSa
        go_wp2_with (go_at_call 90; refine stopc ?_)
        refine Stop.go ?_
        refine (cS _).mono ?_
        rintro e w3 ⟨rfl, hs3⟩
        have HS3 := Lib.hid (HS2.out.trans hs3)
        clear hs3
        go_wp2
        go_ret3
        rw [HR.out, HD.out]
        exact ⟨rfl, HS3.out⟩
  · skip
    by_cases k1 : 1 < k
    · have kk : decide ((1 : Int) < (k : Int)) = true := decide_eq_true (by omega)
      have HD : Hid (ofS m.data.toList t.data.toList (flS xs) = ([], 0, 7)) := Lib.hid (by rw [HOF.out, if_neg (by decide), if_neg (by decide), if_pos k1])
      clear k1
      go_enter Tryz.func48, Tryz.ntmps48
      go_wp2_with (go_at_call 87; refine stopc ?_)
      refine Stop.go ?_
      refine (cf _ (HX.out.stp0 ((Stp.refl _ _).alloc _))).mono ?_
      rintro e w1 ⟨rfl, hs1⟩
      have HB := Lib.hid (hs1.blk (heap_alloc_new w (.cells #[.string m, .string t, .int .i64 n] 40)) id)
      have HS1 := Lib.hid (((Stp.refl (fun _ => False) w).alloc _).trans hs1)
      clear hs1
      have hcq : w1.cell? ⟨w.heap.size, 1, none⟩ = some (.string t) := blk_cell (j := 1) HB.out
      go_wp2_with (go_at_call 88; refine stopc ?_)
      refine Stop.go ?_
      refine (cA _).mono ?_
      rintro e wa ⟨rfl, hsa⟩
      have HBa := Lib.hid (hsa.blk HB.out id)
      have HSa := Lib.hid (HS1.out.trans hsa)
      clear hsa hcq
      go_wp2_with (with_reducible refine stop (N := 23) rfl ?_)
      refine Stop.go ?_
      refine wpList_load_row rfl _ _ rfl _ rfl _ _ (0, 0) _ HBa.out Tryz.underlying40 rfl (by kernel_rfl) ?_
      go_wp2_with (go_at_call 89; refine stopc ?_)
      refine Stop.go ?_
      refine (cF _).mono ?_
      rintro e w2 ⟨rfl, hs2⟩
      have HB2 := Lib.hid (hs2.blk HBa.out id)
      have HS2 := Lib.hid (HSa.out.trans hs2)
      clear hs2 HB HS1 HBa HSa
      go_wp2
      go_ret3
      rw [HR.out, HD.out]
      exact ⟨rfl, HS2.out⟩
    · have kk : decide ((1 : Int) < (k : Int)) = false := decide_eq_false (by omega)
      have HD : Hid (ofS m.data.toList t.data.toList (flS xs) = hpS (authS t.data.toList).1) := Lib.hid (by rw [HOF.out, if_neg (by decide), if_neg (by decide), if_neg k1, if_pos rfl])
      clear k1
      go_enter Tryz.func48, Tryz.ntmps48
      go_wp2_with (go_at_call 87; refine stopc ?_)
      refine Stop.go ?_
      refine (cf _ (HX.out.stp0 ((Stp.refl _ _).alloc _))).mono ?_
      rintro e w1 ⟨rfl, hs1⟩
      have HB := Lib.hid (hs1.blk (heap_alloc_new w (.cells #[.string m, .string t, .int .i64 n] 40)) id)
      have HS1 := Lib.hid (((Stp.refl (fun _ => False) w).alloc _).trans hs1)
      clear hs1
      have hcq : w1.cell? ⟨w.heap.size, 1, none⟩ = some (.string t) := blk_cell (j := 1) HB.out
      go_wp2_with (go_at_call 88; refine stopc ?_)
      refine Stop.go ?_
      refine (cA _).mono ?_
      rintro e wa ⟨rfl, hsa⟩
      have HBa := Lib.hid (hsa.blk HB.out id)
      have HSa := Lib.hid (HS1.out.trans hsa)
      clear hsa hcq
      go_wp2_with (with_reducible refine stop (N := 23) rfl ?_)
      refine Stop.go ?_
      refine wpList_load_row rfl _ _ rfl _ rfl _ _ (0, 0) _ HBa.out Tryz.underlying40 rfl (by kernel_rfl) ?_
      go_wp2_with (go_at_call 89; refine stopc ?_)
      refine Stop.go ?_
      refine (cF _).mono ?_
      rintro e w2 ⟨rfl, hs2⟩
      have HB2 := Lib.hid (hs2.blk HBa.out id)
      have HS2 := Lib.hid (HSa.out.trans hs2)
      clear hs2 HB HS1 HBa HSa
      have HS3 := HS2
      go_wp2_with (go_at_call 90; refine stopc ?_)
      refine Stop.go ?_
      refine (cU _).mono ?_
      rintro e w4 ⟨rfl, hs4⟩
      have HS4 := Lib.hid (HS3.out.trans hs4)
      clear hs4
      go_wp2
      go_ret3
      rw [HR.out, HD.out]
      exact ⟨rfl, HS4.out⟩
  · skip
    by_cases k1 : 1 < k
    · have kk : decide ((1 : Int) < (k : Int)) = true := decide_eq_true (by omega)
      have HD : Hid (ofS m.data.toList t.data.toList (flS xs) = ([], 0, 7)) := Lib.hid (by rw [HOF.out, if_neg (by decide), if_neg (by decide), if_pos k1])
      clear k1
      go_enter Tryz.func48, Tryz.ntmps48
      go_wp2_with (go_at_call 87; refine stopc ?_)
      refine Stop.go ?_
      refine (cf _ (HX.out.stp0 ((Stp.refl _ _).alloc _))).mono ?_
      rintro e w1 ⟨rfl, hs1⟩
      have HB := Lib.hid (hs1.blk (heap_alloc_new w (.cells #[.string m, .string t, .int .i64 n] 40)) id)
      have HS1 := Lib.hid (((Stp.refl (fun _ => False) w).alloc _).trans hs1)
      clear hs1
      have hcq : w1.cell? ⟨w.heap.size, 1, none⟩ = some (.string t) := blk_cell (j := 1) HB.out
      go_wp2_with (go_at_call 88; refine stopc ?_)
      refine Stop.go ?_
      refine (cA _).mono ?_
      rintro e wa ⟨rfl, hsa⟩
      have HBa := Lib.hid (hsa.blk HB.out id)
      have HSa := Lib.hid (HS1.out.trans hsa)
      clear hsa hcq
      go_wp2_with (with_reducible refine stop (N := 23) rfl ?_)
      refine Stop.go ?_
      refine wpList_load_row rfl _ _ rfl _ rfl _ _ (0, 0) _ HBa.out Tryz.underlying40 rfl (by kernel_rfl) ?_
      go_wp2_with (go_at_call 89; refine stopc ?_)
      refine Stop.go ?_
      refine (cF _).mono ?_
      rintro e w2 ⟨rfl, hs2⟩
      have HB2 := Lib.hid (hs2.blk HBa.out id)
      have HS2 := Lib.hid (HSa.out.trans hs2)
      clear hs2 HB HS1 HBa HSa
      go_wp2
      go_ret3
      rw [HR.out, HD.out]
      exact ⟨rfl, HS2.out⟩
    · have kk : decide ((1 : Int) < (k : Int)) = false := decide_eq_false (by omega)
      by_cases k0 : k = 0
      · have HD : Hid (ofS m.data.toList t.data.toList (flS xs) = ([], 0, 8)) := Lib.hid (by rw [HOF.out, if_neg (by decide), if_neg (by decide), if_neg k1, if_neg (by decide), if_pos k0])
        subst k0
        clear k1
        go_enter Tryz.func48, Tryz.ntmps48
        go_wp2_with (go_at_call 87; refine stopc ?_)
        refine Stop.go ?_
        refine (cf _ (HX.out.stp0 ((Stp.refl _ _).alloc _))).mono ?_
        rintro e w1 ⟨rfl, hs1⟩
        have HB := Lib.hid (hs1.blk (heap_alloc_new w (.cells #[.string m, .string t, .int .i64 n] 40)) id)
        have HS1 := Lib.hid (((Stp.refl (fun _ => False) w).alloc _).trans hs1)
        clear hs1
        have hcq : w1.cell? ⟨w.heap.size, 1, none⟩ = some (.string t) := blk_cell (j := 1) HB.out
        go_wp2_with (go_at_call 88; refine stopc ?_)
        refine Stop.go ?_
        refine (cA _).mono ?_
        rintro e wa ⟨rfl, hsa⟩
        have HBa := Lib.hid (hsa.blk HB.out id)
        have HSa := Lib.hid (HS1.out.trans hsa)
        clear hsa hcq
        go_wp2_with (with_reducible refine stop (N := 23) rfl ?_)
        refine Stop.go ?_
        refine wpList_load_row rfl _ _ rfl _ rfl _ _ (0, 0) _ HBa.out Tryz.underlying40 rfl (by kernel_rfl) ?_
        go_wp2_with (go_at_call 89; refine stopc ?_)
        refine Stop.go ?_
        refine (cF _).mono ?_
        rintro e w2 ⟨rfl, hs2⟩
        have HB2 := Lib.hid (hs2.blk HBa.out id)
        have HS2 := Lib.hid (HSa.out.trans hs2)
        clear hs2 HB HS1 HBa HSa
        go_wp2
        go_ret3
        rw [HR.out, HD.out]
        exact ⟨rfl, HS2.out⟩
      · have kz : ((k : Int) == 0) = false := by simp; omega
        have HD : Hid (ofS m.data.toList t.data.toList (flS xs) = hpS q.1) := Lib.hid (by rw [HOF.out, if_neg (by decide), if_neg (by decide), if_neg k1, if_neg (by decide), if_neg k0])
        clear k1 k0
        go_enter Tryz.func48, Tryz.ntmps48
        go_wp2_with (go_at_call 87; refine stopc ?_)
        refine Stop.go ?_
        refine (cf _ (HX.out.stp0 ((Stp.refl _ _).alloc _))).mono ?_
        rintro e w1 ⟨rfl, hs1⟩
        have HB := Lib.hid (hs1.blk (heap_alloc_new w (.cells #[.string m, .string t, .int .i64 n] 40)) id)
        have HS1 := Lib.hid (((Stp.refl (fun _ => False) w).alloc _).trans hs1)
        clear hs1
        have hcq : w1.cell? ⟨w.heap.size, 1, none⟩ = some (.string t) := blk_cell (j := 1) HB.out
        go_wp2_with (go_at_call 88; refine stopc ?_)
        refine Stop.go ?_
        refine (cA _).mono ?_
        rintro e wa ⟨rfl, hsa⟩
        have HBa := Lib.hid (hsa.blk HB.out id)
        have HSa := Lib.hid (HS1.out.trans hsa)
        clear hsa hcq
        go_wp2_with (with_reducible refine stop (N := 23) rfl ?_)
        refine Stop.go ?_
        refine wpList_load_row rfl _ _ rfl _ rfl _ _ (0, 0) _ HBa.out Tryz.underlying40 rfl (by kernel_rfl) ?_
        go_wp2_with (go_at_call 89; refine stopc ?_)
        refine Stop.go ?_
        refine (cF _).mono ?_
        rintro e w2 ⟨rfl, hs2⟩
        have HB2 := Lib.hid (hs2.blk HBa.out id)
        have HS2 := Lib.hid (HSa.out.trans hs2)
        clear hs2 HB HS1 HBa HSa
        go_wp2_with (go_at_call 90; refine stopc ?_)
        refine Stop.go ?_
        refine (cS _).mono ?_
        rintro e w3 ⟨rfl, hs3⟩
        have HS3 := Lib.hid (HS2.out.trans hs3)
        clear hs3
        go_wp2
        go_ret3
        rw [HR.out, HD.out]
        exact ⟨rfl, HS3.out⟩
  · have HD : Hid (ofS m.data.toList t.data.toList (flS xs) = ([], 0, 11)) := Lib.hid (by rw [HOF.out, if_pos rfl])
    go_enter Tryz.func48, Tryz.ntmps48
    go_wp2_with (go_at_call 87; refine stopc ?_)
    refine Stop.go ?_
    refine (cf _ (HX.out.stp0 ((Stp.refl _ _).alloc _))).mono ?_
    rintro e w1 ⟨rfl, hs1⟩
    have HB := Lib.hid (hs1.blk (heap_alloc_new w (.cells #[.string m, .string t, .int .i64 n] 40)) id)
    have HS1 := Lib.hid (((Stp.refl (fun _ => False) w).alloc _).trans hs1)
    clear hs1
    have hcq : w1.cell? ⟨w.heap.size, 1, none⟩ = some (.string t) := blk_cell (j := 1) HB.out
    go_wp2_with (go_at_call 88; refine stopc ?_)
    refine Stop.go ?_
    refine (cA _).mono ?_
    rintro e wa ⟨rfl, hsa⟩
    have HBa := Lib.hid (hsa.blk HB.out id)
    have HSa := Lib.hid (HS1.out.trans hsa)
    clear hsa hcq
    go_wp2_with (with_reducible refine stop (N := 23) rfl ?_)
    refine Stop.go ?_
    refine wpList_load_row rfl _ _ rfl _ rfl _ _ (0, 0) _ HBa.out Tryz.underlying40 rfl (by kernel_rfl) ?_
    go_wp2_with (go_at_call 89; refine stopc ?_)
    refine Stop.go ?_
    refine (cF _).mono ?_
    rintro e w2 ⟨rfl, hs2⟩
    have HB2 := Lib.hid (hs2.blk HBa.out id)
    have HS2 := Lib.hid (HSa.out.trans hs2)
    clear hs2 HB HS1 HBa HSa
    go_wp2
    go_ret3
    rw [HR.out, HD.out]
    exact ⟨rfl, HS2.out⟩
end Go.Proofs.YtgjmaifgkgejgaaGreatDoor.L
