/- Layer 3: rows of groups. -/
import Derived.Test.YtdamgdmipfoalaaDoorVb
set_option linter.unusedVariables false
set_option linter.unusedSimpArgs false
namespace Go.Proofs.YtdamgdmipfoalaaDoor.L
open Go.RowKit Go.Proofs

theorem hexS_lt {l : List UInt8} {n : Int} (h : hexS l = (n, true)) : ∃ m : Nat, n = m ∧ m < 65536 := by
  unfold hexS at h
  split at h
  · cases h
  · rename_i hl
    rw [not_or] at hl
    split at h
    · rename_i m hm
      injection h with h1 h2
      refine ⟨m, h1.symm, ?_⟩
      have := hexFrom_lt l l.length m (by rw [List.take_length]; exact hm)
      have h3 : 16 ^ l.length ≤ 16 ^ 4 := Nat.pow_le_pow_right (by decide) (by omega)
      have h4 : 16 ^ 4 = 65536 := rfl
      omega
    · cases h
def ReadP (w : World) (may : Bool) (l : List UInt8) (e : Ending) (w' : World) : Prop :=
  ∃ v out, e = .returned (.tuple #[v, .bool (readS may l).isSome]) ∧ Own enc8 5 w.heap.size w' v out ∧ (∀ o, readS may l = some o → o = out) ∧ out.length ≤ 4 * (l.length + 1) ∧ Stp (fun _ => False) w w'

set_option maxRecDepth 100000 in
set_option maxHeartbeats 4000000 in
theorem read3_any (s : ByteArray) (may : Bool) (w : World) (hs : s.size < 4294967281) (hm : MaxL w) : Calls Tryd.prog 50 #[.string s, .bool may] w (ReadP w may s.data.toList) := by
  obtain ⟨R, hR⟩ : ∃ R, R = ReadP w may s.data.toList := ⟨_, rfl⟩
  rw [← hR]
  have HR := Lib.hid hR
  clear hR
  by_cases h0 : s.data.toList = []
  · have ht : (s.toList == []) = true := by rw [list_eqb]; simp [h0]
    have HD : Hid (readS may s.data.toList = some []) := Lib.hid (by rw [h0]; rfl)
    clear h0
    go_enter Tryd.func50, Tryd.ntmps50
    go_wp2
    rw [HR.out]
    unfold ReadP
    rw [HD.out]
    exact ⟨_, [], rfl, Own.nil _ _ _ _, (fun o h => by injection h with h; exact h.symm), Nat.zero_le _, Stp.refl _ _⟩
  · have ht : (s.toList == []) = false := by rw [list_eqb]; simp [h0]
    obtain ⟨X, hX, cs⟩ := splitc_call 58 s hs
    have HX := Lib.hid hX
    have HL : Hid (X.length = (splitC 58 s.data.toList).length) := Lib.hid (by rw [← hX, List.length_map])
    have HM := Lib.hid hm
    have HZ : Hid (∀ x ∈ X, x.size ≤ s.size) := Lib.hid (fun x hx => by
      have := splitc_le 58 s.data.toList x.data.toList (by rw [← hX]; exact List.mem_map_of_mem hx)
      simpa using this)
    have HD : Hid (readS may s.data.toList = grpsA may [] (splitC 58 s.data.toList)) := Lib.hid (by unfold readS; rw [if_neg h0])
    have hXl : X.length ≤ s.size + 1 := by
      rw [HL.out, splitC_len]
      have := List.count_le_length (a := (58 : UInt8)) (l := s.data.toList)
      rw [size_list] at this
      omega
    clear hX hm h0
    go_enter Tryd.func50, Tryd.ntmps50
    go_wp2_with (go_at_call 23; refine stopc ?_)
    refine Stop.go ?_
    refine (cs _ HM.out).mono ?_
    rintro e w1 ⟨G, rfl, hG, hs1, hb1⟩
    have HG := Lib.hid hG
    have HB1 := Lib.hid hb1
    have HS := Lib.hid hs1
    obtain ⟨B, hB⟩ : ∃ B, B = w1.heap.size := ⟨_, rfl⟩
    have HBG : Hid (G < B ∧ w.heap.size ≤ B) := Lib.hid (by rw [hB]; exact ⟨blk_lt hb1, hs1.size⟩)
    have HBW : Hid (B ≤ w1.heap.size) := Lib.hid (by omega)
    clear hs1 hb1 hG hB
    go_wp2
    go_loopg [6, 20] X.length (fun gf v i wx => ∃ (k : Nat) (acc : List UInt8), k + gf = X.length ∧ i = .int .i64 k ∧ Own enc8 5 B wx v acc ∧ B ≤ wx.heap.size ∧ grpsA may [] (splitC 58 s.data.toList) = grpsA may acc ((splitC 58 s.data.toList).drop k) ∧ acc.length ≤ 4 * k ∧ wx.heap[G]? = some (.cells (X.map Value.string).toArray 9 (0, 0)) ∧ Stp (fun _ => False) w wx)
    case atStart => exact ⟨0, [], by omega, rfl, Own.nil _ _ _ _, HBW.out, rfl, Nat.le_refl _, HB1.out, HS.out⟩
    case round =>
      obtain ⟨k, acc, hk, rfl, hown, hbw, ho, hal, hb, hst⟩ := hrel
      have HBR := Lib.hid hbw
      clear hbw
      have HO := Lib.hid ho
      have HB := Lib.hid hb
      have HST := Lib.hid hst
      have HAL := Lib.hid hal
      have HOW := Lib.hid hown
      obtain ⟨A, c, rfl, hle⟩ := HOW.out.form
      clear ho hb hst hal hown HB1 HS
      by_cases hlt : k < X.length
      · obtain ⟨gk', rfl⟩ : ∃ gk', gk = gk' + 1 := ⟨gk - 1, by omega⟩
        have hl2 : (k : Int) < (X.length : Int) := by omega
        obtain ⟨x, hx⟩ : ∃ x, X[k]? = some x := ⟨_, List.getElem?_eq_getElem (by omega)⟩
        have hc : wr.cell? ⟨G, k, none⟩ = some (.string x) := by rw [blk_cell HB.out]; simp [hx]
        have hxs : x.size ≤ s.size := HZ.out x (List.mem_of_getElem? hx)
        have HDR : Hid ((splitC 58 s.data.toList).drop k = x.data.toList :: (splitC 58 s.data.toList).drop (k + 1)) := Lib.hid (by
          have hk2 : k < (splitC 58 s.data.toList).length := by rw [← HL.out]; omega
          rw [List.drop_eq_getElem_cons hk2]
          congr 1
          have : (splitC 58 s.data.toList)[k]? = some x.data.toList := by rw [← HX.out, List.getElem?_map, hx]; rfl
          exact (List.getElem?_eq_some_iff.1 this).2)
        have ch := fun W => hex_any x W (by omega)
        have cd := fun W hW => dotted_any x W (by omega) hW
        obtain ⟨n, b, hn⟩ : ∃ n b, hexS x.data.toList = (n, b) := ⟨_, _, rfl⟩
        rw [hn] at ch
        clear hx
        go_wp2_with (go_at_call 77; refine stopc ?_)
        refine Stop.go ?_
        refine (ch _).mono ?_
        rintro e w2 ⟨rfl, hs2⟩
        have HS2 := Lib.hid hs2
        clear hs2
        go_wp2_with (go_at_call 48; refine stopc ?_)
        refine Stop.go ?_
        refine (cd _ (HM.out.step (HST.out.trans HS2.out))).mono ?_
        rintro e w3 ⟨d, rfl, hdl, hd, hs3⟩
        have HS3 := Lib.hid hs3
        have HD3 := Lib.hid hd
        obtain ⟨D, hDv⟩ : ∃ D, D = (dotS x.data.toList).isSome := ⟨_, rfl⟩
        rw [← hDv]
        have HDV := Lib.hid hDv
        have HDL := Lib.hid hdl
        clear hs3 hd hDv hdl
        go_wp2_with (refine wp_storeA rfl _ _ _ rfl rfl rfl (arr_new _ _ _ (zerosL 4) rfl) size_four HDL.out rfl ?_; intro w4 hA4 hs4; refine stopw ?_)
        refine Stop.go ?_
        have hst3 := (HST.out.trans HS2.out).trans HS3.out
        have hsz3 := hst3.size
        have hszr := (HS2.out.trans HS3.out).size
        have hGl : G < wr.heap.size := blk_lt HB.out
        have HS4 := Lib.hid ((hst3.alloc _).then_ hs4 (fun k hk h => absurd h (by omega)))
        have hOW3 := (HOW.out.stp0 HS2.out).stp0 HS3.out
        have HOW4 := Lib.hid ((hOW3.stp0 ((Stp.refl _ _).alloc _)).step hs4 (fun k hk h => by have := (hOW3.lt k hk).2; omega))
        have HB4 := Lib.hid (hs4.blk ((((HS2.out.trans HS3.out).alloc _).blk HB.out id)) (by omega))
        have HA4 := Lib.hid hA4
        have hBw : B ≤ w4.heap.size := by have := hs4.size; have := HBR.out; simp at *; omega
        clear hst3 hOW3 hs4 hA4
        cases b with
        | true =>
          obtain ⟨m, rfl, hmm⟩ := hexS_lt hn
          go_wp2_with (with_reducible refine stop (N := 44) rfl ?_)
          refine Stop.go ?_
          have e1 : ((UInt8.ofNat (m / 256)).toNat : Int) = (m : Int) / 256 := by rw [UInt8.toNat_ofNat_of_lt' (by have : UInt8.size = 256 := rfl; omega)]; omega
          have e2 : ((UInt8.ofNat (m % 256)).toNat : Int) = (m : Int) % 256 := by rw [UInt8.toNat_ofNat_of_lt' (by have : UInt8.size = 256 := rfl; omega)]; omega
          have HGR : Hid (∀ b, grpS b x.data.toList = some [UInt8.ofNat (m / 256), UInt8.ofNat (m % 256)]) := Lib.hid (fun b => by unfold grpS; rw [hn, if_pos rfl]; rfl)
          have hal := HAL.out
          refine wp_appendRd enc8 (h1e := fun _ => rfl) rfl _ _ _ rfl Tryd.underlying38 info_u8 rfl (HOW4.out.stp0 ((Stp.refl _ _).alloc _)) (Rd.lit (M := fun _ => False) [UInt8.ofNat (m / 256), UInt8.ofNat (m % 256)] _ (by simp [enc8]; omega) (by simp) id) rfl rfl (by simp; omega) (by simp; omega) (by simp; omega) ?_
          intro v5 w5 ho5 hg5
          have HO5 := Lib.hid ho5
          have HS5 := Lib.hid ((HS4.out.alloc _).own ((HOW4.out.stp0 ((Stp.refl _ _).alloc _)).lower HBG.out.2) hg5)
          have HB5 := Lib.hid (((Stp.refl (fun k => (Value.slice A acc.length c).ownBlock = some k) w4).alloc (Obj.cells #[Value.int IntKind.u8 (↑m / 256), Value.int IntKind.u8 (↑m % 256)] 5) |>.grown hg5 (fun k hk _ => hk)).blk HB4.out (fun h => by
            have := (HOW.out.lt G h).1
            have := HBG.out.1
            omega))
          have hBw5 : B ≤ w5.heap.size := by have := hg5.size; simp at this; omega
          clear ho5 hg5 e1 e2
          go_wp2
          go_roundg gk'
          case measure => omega
          case rel =>
            refine ⟨k + 1, acc ++ [UInt8.ofNat (m / 256), UInt8.ofNat (m % 256)], by omega, by go_num, HO5.out, hBw5, ?_, by simp; omega, HB5.out, HS5.out⟩
            rw [HO.out, HDR.out, grpsA, HGR.out]
        | false =>
          have HGR : Hid (∀ b, grpS b x.data.toList = if b = true then dotS x.data.toList else none) := Lib.hid (fun b => by unfold grpS; rw [hn, if_neg (by simp)])
          have hwr : IntKind.i64.wrap ((X.length : Int) - 1) = (X.length : Int) - 1 := IntWalk.i64_in _ (by omega)
          have hRE : (((splitC 58 s.data.toList).drop (k + 1)).isEmpty = decide (k + 1 = X.length)) := by
            rw [Bool.eq_iff_iff, List.isEmpty_iff, List.drop_eq_nil_iff, decide_eq_true_eq, ← HL.out]
            omega
          have HRE := Lib.hid hRE
          clear hRE hn
          have HNO : Hid ((D = false ∨ may = false ∨ k + 1 ≠ X.length) → readS may s.data.toList = none) := Lib.hid (by
            intro h
            rw [HD.out, HO.out, HDR.out, grpsA, HGR.out, HRE.out]
            have h2 : (if (may && decide (k + 1 = X.length)) = true then dotS x.data.toList else none) = none := by
              split
              · rename_i hh
                rw [Bool.and_eq_true, decide_eq_true_eq] at hh
                rcases h with h | h | h
                · rw [HDV.out] at h
                  cases hq : dotS x.data.toList with
                  | none => rfl
                  | some y => rw [hq] at h; cases h
                · rw [h] at hh
                  cases hh.1
                · exact absurd hh.2 h
              · rfl
            rw [h2])
          cases D with
          | false =>
            have HN2 := Lib.hid (HNO.out (Or.inl rfl))
            go_wp2
            rw [HR.out]
            unfold ReadP
            rw [HN2.out]
            exact ⟨_, [], rfl, Own.nil _ _ _ _, (fun o h => by cases h), Nat.zero_le _, HS4.out⟩
          | true =>
            cases may with
            | false =>
              have HN2 := Lib.hid (HNO.out (Or.inr (Or.inl rfl)))
              go_wp2
              rw [HR.out]
              unfold ReadP
              rw [HN2.out]
              exact ⟨_, [], rfl, Own.nil _ _ _ _, (fun o h => by cases h), Nat.zero_le _, HS4.out⟩
            | true =>
              by_cases hkl : k + 1 = X.length
              · have hq : ((k : Int) == (X.length : Int) - 1) = true := by simp; omega
                have HDD : Hid (dotS x.data.toList = some d) := Lib.hid (by
                  cases hq : dotS x.data.toList with
                  | none => have := HDV.out; rw [hq] at this; cases this
                  | some y => rw [HD3.out y hq])
                have hal := HAL.out
                have hdl := HDL.out
                go_wp2_with (with_reducible refine stop (N := 59) rfl ?_)
                refine Stop.go ?_
                refine wp_appendRd enc8 (h1e := fun _ => rfl) rfl _ _ _ rfl Tryd.underlying38 info_u8 rfl HOW4.out (HA4.out.all (fun _ => False) id 4 hdl (by decide)) rfl rfl (by omega) (by omega) hBw ?_
                intro v5 w5 ho5 hg5
                have HO5 := Lib.hid ho5
                have HS5 := Lib.hid (HS4.out.own (HOW4.out.lower HBG.out.2) hg5)
                have HB5 := Lib.hid (((Stp.refl (fun k => (Value.slice A acc.length c).ownBlock = some k) w4).grown hg5 (fun k hk _ => hk)).blk HB4.out (fun h => by
                  have := (HOW.out.lt G h).1
                  have := HBG.out.1
                  omega))
                have hBw5 : B ≤ w5.heap.size := by have := hg5.size; omega
                clear ho5 hg5
                go_wp2
                go_roundg gk'
                case measure => omega
                case rel =>
                  refine ⟨k + 1, acc ++ d, by omega, by go_num, HO5.out, hBw5, ?_, by simp; omega, HB5.out, HS5.out⟩
                  rw [HO.out, HDR.out, grpsA, HGR.out, HRE.out, decide_eq_true hkl, Bool.and_true, if_pos rfl, HDD.out]
              · have hq : ((k : Int) == (X.length : Int) - 1) = false := by simp; omega
                have HN2 := Lib.hid (HNO.out (Or.inr (Or.inr hkl)))
                go_wp2
                rw [HR.out]
                unfold ReadP
                rw [HN2.out]
                exact ⟨_, [], rfl, Own.nil _ _ _ _, (fun o h => by cases h), Nat.zero_le _, HS4.out⟩
      · obtain rfl : k = X.length := by omega
        have HN2 : Hid (readS may s.data.toList = some acc) := Lib.hid (by rw [HD.out, HO.out, List.drop_eq_nil_of_le (by rw [← HL.out]; omega), grpsA])
        have hsl : s.data.toList.length = s.size := size_list s
        go_wp2
        rw [HR.out]
        unfold ReadP
        rw [HN2.out]
        exact ⟨_, acc, rfl, HOW.out.lower HBG.out.2, (fun o h => by injection h with h; exact h.symm), by have := HAL.out; omega, HST.out⟩
end Go.Proofs.YtdamgdmipfoalaaDoor.L
