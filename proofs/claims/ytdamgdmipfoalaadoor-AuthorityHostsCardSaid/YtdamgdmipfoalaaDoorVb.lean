/- Layer 3: dotted: four numbers with points between. -/
import Derived.Test.YtdamgdmipfoalaaDoorVa
set_option linter.unusedVariables false
set_option linter.unusedSimpArgs false
namespace Go.Proofs.YtdamgdmipfoalaaDoor.L
open Go.RowKit Go.Proofs

def DotP (w : World) (l : List UInt8) (e : Ending) (w' : World) : Prop :=
  ∃ d : List UInt8, e = .returned (.tuple #[.agg (cellsA d), .bool (dotS l).isSome]) ∧ d.length = 4 ∧ (∀ d', dotS l = some d' → d' = d) ∧ Stp (fun _ => False) w w'
theorem octS_some {x : List UInt8} {n : Int} (h : numS x 255 = (n, true)) : ∃ c : UInt8, n = (c.toNat : Int) ∧ octS x = some c := by
  obtain ⟨m, hm, hle⟩ := numS_pos x 255 (by rw [h])
  rw [h] at hm
  simp only at hm
  refine ⟨UInt8.ofNat m, ?_, ?_⟩
  · rw [hm, UInt8.toNat_ofNat_of_lt' (by have : UInt8.size = 256 := rfl; omega)]
  · unfold octS
    rw [h, if_pos rfl, hm]
    rfl
theorem octS_none {x : List UInt8} {n : Int} (h : numS x 255 = (n, false)) : octS x = none := by
  unfold octS
  rw [h, if_neg (by simp)]
theorem put_at (bs : List UInt8) (k : Nat) (hk : bs.length = k) (n : Nat) (hn : 0 < n) (c : UInt8) : (bs ++ zerosL n).set k c = (bs ++ [c]) ++ zerosL (n - 1) := by
  obtain ⟨m, rfl⟩ : ∃ m, n = m + 1 := ⟨n - 1, by omega⟩
  rw [List.set_append_right _ _ (by omega), hk, Nat.sub_self]
  unfold zerosL
  rw [List.replicate_succ, List.set_cons_zero, Nat.add_sub_cancel]
  simp

set_option maxRecDepth 100000 in
set_option maxHeartbeats 4000000 in
theorem dotted_any (s : ByteArray) (w : World) (hs : s.size < 4294967281) (hm : MaxL w) : Calls Tryd.prog 48 #[.string s] w (DotP w s.data.toList) := by
  obtain ⟨R, hR⟩ : ∃ R, R = DotP w s.data.toList := ⟨_, rfl⟩
  rw [← hR]
  obtain ⟨X, hX, cs⟩ := splitc_call 46 s hs
  have HR := Lib.hid hR
  have HX := Lib.hid hX
  have HL : Hid (X.length = (splitC 46 s.data.toList).length) := Lib.hid (by rw [← hX, List.length_map])
  have HM := Lib.hid hm
  have HZ : Hid (∀ x ∈ X, x.size ≤ s.size) := Lib.hid (fun x hx => by
    have := splitc_le 46 s.data.toList x.data.toList (by rw [← hX]; exact List.mem_map_of_mem hx)
    simpa using this)
  clear hR hX hm
  go_enter Tryd.func48, Tryd.ntmps48
  go_wp2_with (go_at_call 23; refine stopc ?_)
  refine Stop.go ?_
  refine (cs _ (HM.out.step (((Stp.refl _ w).alloc _).alloc _))).mono ?_
  rintro e w1 ⟨G, rfl, hG, hs1, hb1⟩
  have HG : Hid (w.heap.size + 2 ≤ G) := Lib.hid (by simpa using hG)
  clear hG
  have HB1 := Lib.hid hb1
  have HA0 := Lib.hid ((arr_new w w.heap.size 77 (zerosL 4) rfl).alloc (.cells (cellsA (zerosL 4)) 77) |>.step hs1 id)
  have HA1 := Lib.hid ((arr_new (w.alloc (.cells (cellsA (zerosL 4)) 77)) (w.heap.size + 1) 77 (zerosL 4) (by simp)).step hs1 id)
  have HS := Lib.hid (((((Stp.refl (fun _ => False) w).alloc _).alloc _)).trans hs1)
  clear hs1 hb1
  by_cases h4 : X.length = 4
  · skip
    have hd : ((X.length : Int) != 4) = false := by simp; omega
    have HD : Hid (dotS s.data.toList = octsA [] (splitC 46 s.data.toList)) := Lib.hid (by unfold dotS; rw [if_pos (by rw [← HL.out]; exact h4)])
    go_wp2
    go_loopg [18] 4 (fun gf i wx => ∃ (k : Nat) (bs : List UInt8), k + gf = 4 ∧ i = .int .i64 k ∧ bs.length = k ∧ octsA [] (splitC 46 s.data.toList) = octsA bs ((splitC 46 s.data.toList).drop k) ∧ Arr w.heap.size 77 (zerosL 4) wx ∧ Arr (w.heap.size + 1) 77 (bs ++ zerosL (4 - k)) wx ∧ wx.heap[G]? = some (.cells (X.map Value.string).toArray 9 (0, 0)) ∧ Stp (fun _ => False) w wx)
    case atStart => exact ⟨0, [], rfl, rfl, rfl, rfl, HA0.out, HA1.out, HB1.out, HS.out⟩
    case round =>
      obtain ⟨k, bs, hk, rfl, hbl, ho, ha0, ha1, hb, hst⟩ := hrel
      have HO := Lib.hid ho
      have HA0' := Lib.hid ha0
      have HA1' := Lib.hid ha1
      have HB := Lib.hid hb
      have HST := Lib.hid hst
      have HBL := Lib.hid hbl
      clear ho ha0 ha1 hb hst hbl HA0 HA1 HB1 HS
      by_cases hlt : k < 4
      · obtain ⟨gk', rfl⟩ : ∃ gk', gk = gk' + 1 := ⟨gk - 1, by omega⟩
        have hl2 : (k : Int) < (X.length : Int) := by omega
        obtain ⟨x, hx⟩ : ∃ x, X[k]? = some x := ⟨_, List.getElem?_eq_getElem (by omega)⟩
        have hc : wr.cell? ⟨G, k, none⟩ = some (.string x) := by rw [blk_cell HB.out]; simp [hx]
        have hxs : x.size ≤ s.size := HZ.out x (List.mem_of_getElem? hx)
        have HDR : Hid ((splitC 46 s.data.toList).drop k = x.data.toList :: (splitC 46 s.data.toList).drop (k + 1)) := Lib.hid (by
          have hk2 : k < (splitC 46 s.data.toList).length := by rw [← HL.out]; omega
          rw [List.drop_eq_getElem_cons hk2]
          congr 1
          have : (splitC 46 s.data.toList)[k]? = some x.data.toList := by rw [← HX.out, List.getElem?_map, hx]; rfl
          exact (List.getElem?_eq_some_iff.1 this).2)
        have cn := fun W => number_any x 255 W (by omega)
        obtain ⟨n, b, hn⟩ : ∃ n b, numS x.data.toList 255 = (n, b) := ⟨_, _, rfl⟩
        rw [hn] at cn
        clear hx
        cases b with
        | false =>
          have HN := Lib.hid (octS_none hn)
          clear hn
          go_wp2_with (go_at_call 18; refine stopc ?_)
          refine Stop.go ?_
          refine (cn _).mono ?_
          rintro e w2 ⟨rfl, hs2⟩
          have HA2 := Lib.hid (HA1'.out.step hs2 id)
          have HA3 := Lib.hid (HA0'.out.step hs2 id)
          have HS2 := Lib.hid (HST.out.trans hs2)
          have hl4 : (bs ++ zerosL (4 - k)).length = 4 := by have := HBL.out; simp [zerosL]; omega
          clear hs2
          go_wp2_with (with_reducible refine stop (N := 30) rfl ?_)
          refine Stop.go ?_
          refine wp_loadA rfl _ _ rfl rfl HA2.out Tryd.underlying77 size_four hl4 ?_
          refine wp_storeA rfl _ _ _ rfl rfl rfl HA3.out size_four hl4 rfl ?_
          intro w3 hA3 hs3
          have HA4 := Lib.hid hA3
          have HS3 := Lib.hid (HS2.out.then_ hs3 (fun k hk h => absurd h (by omega)))
          have HN2 : Hid (dotS s.data.toList = none) := Lib.hid (by rw [HD.out, HO.out, HDR.out, octsA, HN.out])
          clear hA3 hs3
          go_wp2
          refine bodyPost_ret (results_row_tmp rfl _ _ w.heap.size _ _ _ _ rfl HA4.out Tryd.underlying77 rfl (by rw [cellsA_size, hl4]; exact size_four)) rfl ?_
          rw [HR.out]
          unfold DotP
          rw [HN2.out]
          exact ⟨_, rfl, hl4, (fun d' h => by cases h), HS3.out⟩
        | true =>
          obtain ⟨c, rfl, hcs⟩ := octS_some hn
          have HN := Lib.hid hcs
          clear hn hcs
          have hw : IntKind.u8.wrap (c.toNat : Int) = (c.toNat : Int) := IntWalk.u8_in _ (by have := UInt8.toNat_lt c; omega)
          go_wp2_with (go_at_call 18; refine stopc ?_)
          refine Stop.go ?_
          refine (cn _).mono ?_
          rintro e w2 ⟨rfl, hs2⟩
          have HA2 := Lib.hid (HA1'.out.step hs2 id)
          have HA3 := Lib.hid (HA0'.out.step hs2 id)
          have HB2 := Lib.hid (hs2.blk HB.out id)
          have HS2 := Lib.hid (HST.out.trans hs2)
          have hl4 : k < (bs ++ zerosL (4 - k)).length := by have := HBL.out; simp [zerosL]; omega
          have hc2 : w2.cell? ⟨w.heap.size + 1, k, none⟩ = some (enc8 (bs ++ zerosL (4 - k))[k]) := HA2.out.cell k hl4
          have hf2 : w2.frozen? ⟨w.heap.size + 1, k, none⟩ = false := HA2.out.free k
          have hk4 : (k : Int) < 4 := by omega
          clear hs2
          go_wp2
          go_roundg gk'
          case measure => omega
          case rel =>
            have e1 := HA2.out.set_ k c
            rw [put_at bs k HBL.out (4 - k) (by omega) c, show 4 - k - 1 = 4 - (k + 1) by omega] at e1
            refine ⟨k + 1, bs ++ [c], by omega, by go_num, by simp [HBL.out], ?_, ?_, e1, ?_, ?_⟩
            · rw [HO.out, HDR.out, octsA, HN.out]
            · exact HA3.out.step ((Stp.refl (fun j => j = w.heap.size + 1) w2).setg k _) (by omega)
            · exact ((Stp.refl (fun j => j = w.heap.size + 1) w2).setg k _).blk HB2.out (by have := HG.out; omega)
            · exact HS2.out.setCell (fun h => absurd h (by simp)) _
      · obtain rfl : k = 4 := by omega
        have hbl := HBL.out
        have HA2 := Lib.hid HA1'.out
        rw [show 4 - 4 = 0 from rfl, show zerosL 0 = [] from rfl, List.append_nil] at HA2
        have HN2 : Hid (dotS s.data.toList = some bs) := Lib.hid (by rw [HD.out, HO.out, List.drop_eq_nil_of_le (by rw [← HL.out]; omega), octsA])
        go_wp2_with (with_reducible refine stop (N := 36) rfl ?_)
        refine Stop.go ?_
        refine wp_loadA rfl _ _ rfl rfl HA2.out Tryd.underlying77 size_four hbl ?_
        refine wp_storeA rfl _ _ _ rfl rfl rfl HA0'.out size_four hbl rfl ?_
        intro w3 hA3 hs3
        have HA4 := Lib.hid hA3
        have HS3 := Lib.hid (HST.out.then_ hs3 (fun k hk h => absurd h (by omega)))
        clear hA3 hs3
        go_wp2
        refine bodyPost_ret (results_row_tmp rfl _ _ w.heap.size _ _ _ _ rfl HA4.out Tryd.underlying77 rfl (by rw [cellsA_size, hbl]; exact size_four)) rfl ?_
        rw [HR.out]
        unfold DotP
        rw [HN2.out]
        exact ⟨bs, rfl, hbl, (fun d' h => by injection h with h; exact h.symm), HS3.out⟩
  · have hd : ((X.length : Int) != 4) = true := by simp; omega
    have HD : Hid (dotS s.data.toList = none) := Lib.hid (by unfold dotS; rw [if_neg (by rw [← HL.out]; exact h4)])
    go_wp2_with (with_reducible refine stop (N := 15) rfl ?_)
    refine Stop.go ?_
    refine wp_loadA rfl _ _ rfl rfl HA1.out Tryd.underlying77 size_four rfl ?_
    refine wp_storeA rfl _ _ _ rfl rfl rfl HA0.out size_four rfl rfl ?_
    intro w2 hA2 hs2
    have HA2 := Lib.hid hA2
    have HS2 := Lib.hid (HS.out.then_ hs2 (fun k hk h => absurd h (by omega)))
    clear hA2 hs2
    go_wp2
    refine bodyPost_ret (results_row_tmp rfl _ _ w.heap.size _ _ _ _ rfl HA2.out Tryd.underlying77 rfl (by rw [cellsA_size]; exact size_four)) rfl ?_
    rw [HR.out]
    unfold DotP
    rw [HD.out]
    exact ⟨zerosL 4, rfl, rfl, (fun d' h => by cases h), HS2.out⟩
end Go.Proofs.YtdamgdmipfoalaaDoor.L
